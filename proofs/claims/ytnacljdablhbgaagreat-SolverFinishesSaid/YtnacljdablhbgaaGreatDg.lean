/- SolverFinishes: Max of the program (no condition). -/
import Derived.Test.YtnacljdablhbgaaGreatDf
import Derived.Test.YtnacljdablhbgaaGreatAn
namespace Go.Proofs.YtnacljdablhbgaaGreat
open Go.AG
attribute [local go_sem] RD_max RD_lookup birth_lookup build_1i build_2i build_p1
def HE (call : CallF) (h0 : AH) (rs : List ARes) (P : AV → AH → Prop) (e : AEx) (fr : AF) (h1 : AH) : Prop :=
  fr.cx.rc = .no ∧ (e = .normal ∨ e = .ret) ∧ ∃ h2, evDefs fr.cx.dfs call .returning h1 = some (.returning, h2) ∧ ∃ vs, evRes rs fr.tm h2 = some vs ∧
    ((h0.next ≤ h2.low ∧ P (frz 4 h2 h0.next (AG.one vs)) ⟨h2.next, h0.low, h0.objs⟩) ∨ (¬ h0.next ≤ h2.low ∧ P (AG.one vs) ⟨h2.next, minN h2.low h0.low, h2.objs⟩))
theorem evFn_E {E : Env} {call : CallF} {n : Nat} {f : FuncId} {az : List AV} {h0 : AH} {P : AV → AH → Prop} {nt : Nat} {rs : List ARes} {body : ACode} (hcf : E.cf f = some ⟨nt, rs, body⟩) (hp : E.pure f = true)
    (hR : R call n [.code body] (HE call h0 rs P) .normal ⟨startTm az, ⟨[], .no, none, f⟩⟩ ⟨h0.next, h0.next, h0.objs⟩) : ∃ v h', evFn E call n f az .no h0 = some (.ret v, .no, h') ∧ P v h' := by
  obtain ⟨e, ⟨tm, ⟨dfs, rc, rnd, fid⟩⟩, h, q, q2, q3, h2, q4, vs, r1, r2⟩ := hR
  replace q2 : rc = .no := q2
  replace q4 : evDefs dfs call .returning h = some (.returning, h2) := q4
  subst q2
  have q' : evCode body call n ⟨startTm az, ⟨[], .no, none, f⟩⟩ (lowered (E.pure f) h0) = some (e, ⟨tm, ⟨dfs, .no, rnd, fid⟩⟩, h) := by rw [hp]; exact q
  have fin : ∃ v h', letGo h0 h2 .no (AG.one vs) = some (AOut.ret v, RC.no, h') ∧ P v h' := by
    rcases r2 with ⟨hl, hP⟩ | ⟨hl, hP⟩
    · refine ⟨_, _, ?_, hP⟩
      show cond (Nat.ble h0.next h2.low) _ _ = _
      rw [ble_t hl]; rfl
    · refine ⟨_, _, ?_, hP⟩
      show cond (Nat.ble h0.next h2.low) _ _ = _
      have : Nat.ble h0.next h2.low = false := by
        cases hb : Nat.ble h0.next h2.low with
        | false => rfl
        | true => exact absurd (ble_le hb) hl
      rw [this]; rfl
  obtain ⟨v, h', e1, hP⟩ := fin
  have key : evFin call (E.pure f) h0 ⟨nt, rs, body⟩ ⟨tm, ⟨dfs, .no, rnd, fid⟩⟩ .returning h = some (AOut.ret v, RC.no, h') := by
    show bindO (evDefs dfs call .returning h) (fun p => finBy p.1 (E.pure f) h0 ⟨nt, rs, body⟩ ⟨tm, ⟨dfs, .no, rnd, fid⟩⟩ p.2) = _
    rw [q4, bindO_some]
    show bindO (evRes rs tm h2) (fun vs => finRet (E.pure f) h0 h2 .no vs) = _
    rw [r1, bindO_some, hp]
    exact e1
  unfold evFn
  rw [hcf, bindO_some]
  simp only [q', bindO_some]
  rcases q3 with rfl | rfl
  · exact ⟨v, h', key, hP⟩
  · exact ⟨v, h', key, hP⟩
theorem cK_yld {K : CallF} (hK : Runs K) (m l : Nat) (a : List AV) (h : AH) : cK K (m + 1) (.yld l) a .no h = evYld (cK K m) 30000 l a h := mix_yld (hK.yld l a .no h)
theorem c198 {K : CallF} (hK : Runs K) (m : Nat) (VA VB : AV) (_ca : VA.cells = [VA]) (_la : VA.lies = true) (_cb : VB.cells = [VB]) (_lb : VB.lies = true) (ba : ∀ h, evBox h 1 VA = .val (.ptr h.next 0 0) (h.new (.box [VA]))) (bb : ∀ h, evBox h 1 VB = .val (.ptr h.next 0 0) (h.new (.box [VB]))) (h : AH) :
    ∃ h', cK K (m + 1) (.fn 198 [] []) [VA, VB] .no h = some (.ret (.fn 241 [] [.ptr h.next 0 0, .ptr (h.next + 1) 0 0]), .no, h') ∧ h'.next = h.next + 2 ∧ h'.low = h.low ∧ h'.get h.next = some (.box [VA]) ∧ h'.get (h.next + 1) = some (.box [VB]) ∧ ∀ k, k < h.next → h'.get k = h.get k := by
  rw [cK_run hK _ 198]
  have key : ∃ v h', evFn EF (cK K m) 30000 198 [VA, VB] .no h = some (.ret v, .no, h') ∧ v = .fn 241 [] [.ptr h.next 0 0, .ptr (h.next + 1) 0 0] ∧ h'.next = h.next + 2 ∧ h'.low = h.low ∧ h'.get h.next = some (.box [VA]) ∧ h'.get (h.next + 1) = some (.box [VB]) ∧ ∀ k, k < h.next → h'.get k = h.get k := by
    refine evFn_I cf198 (by rfl) ?_
    unfold b198
    have hh : h = ⟨h.next, h.low, h.objs⟩ := rfl
    rw [hh]
    have n1 : ¬ (h.next = h.next + 1) := by omega
    simp only [go_sem, Nat.reduceEqDiff, reduceCtorEq, ba, bb, s198_0]
    refine ⟨rfl, rfl, .inr rfl, _, by simp only [go_sem, r198]; rfl, rfl, rfl, rfl, ?_, ?_, fun k hk => ?_⟩
    · simp only [go_sem, n1]
    · simp only [go_sem]
    · rw [get_mk, Tr.get_put_other _ _ (by omega), Tr.get_put_other _ _ (by omega)]
  obtain ⟨v, h', e, rfl, r⟩ := key
  exact ⟨h', e, r⟩
structure S140 (tm0 : Tm) (c : Int) (h0 : AH) (os : List LV) (h : AH) : Prop where
  ex : ∃ v, h.get (h0.next + 3) = some (.box [.int .i64 c, v]) ∧ Own (h0.next + 8) 2 true h v (os.map encV)
  res : h.get (h0.next + 2) = some (.box [.int .i64 0, .nils])
  dfd : h.get (h0.next + 6) = some (.dfd false)
  loop : h.get (h0.next + 7) = some (.loop .ready none tm0 [28] b140_0 b140_1 140)
  keep : ∀ k, k < h0.next → h.get k = h0.get k
  low : h0.next ≤ h.low
  next : h0.next + 8 ≤ h.next
theorem yl140 {K : CallF} (hK : Runs K) (m : Nat) (tm0 : Tm) (c : Int) (h0 : AH) (t6 : nth tm0 6 = .ptr (h0.next + 3) 0 0) : Yl (cK K (m + 1)) (h0.next + 7) (h0.next + 4) (h0.next + 5) h0.next (h0.next + 8) (S140 tm0 c h0) where
  keep := by
    rintro os h h' ⟨⟨v, b, o⟩, r, d, l, k, lo, n⟩ hn hk hl
    exact ⟨⟨v, by rw [hk _ (by omega) (by omega) (by omega)]; exact b, own_keep o hn fun a h1 h2 => hk a h2 (by omega) (by omega)⟩, by rw [hk _ (by omega) (by omega) (by omega)]; exact r, by rw [hk _ (by omega) (by omega) (by omega)]; exact d, by rw [hk _ (by omega) (by omega) (by omega)]; exact l, fun a ha => by rw [hk _ (by omega) (by omega) (by omega)]; exact k a ha, hl, by omega⟩
  low := fun os h s => s.low
  step := by
    rintro os x h ⟨⟨v, b, o⟩, r, d, l, k, lo, n⟩ htop hlen
    rw [cK_yld hK]
    obtain ⟨nx, l0, ob⟩ := h
    have b : ob.get (h0.next + 3) = some (.box [.int .i64 c, v]) := b
    have r : ob.get (h0.next + 2) = some (.box [.int .i64 0, .nils]) := r
    have d : ob.get (h0.next + 6) = some (.dfd false) := d
    have l : ob.get (h0.next + 7) = some (.loop .ready none tm0 [28] b140_0 b140_1 140) := l
    have k : ∀ k, k < h0.next → ob.get k = h0.get k := k
    have lo : h0.next ≤ l0 := lo
    have n : h0.next + 8 ≤ nx := n
    obtain ⟨h', e, P⟩ := yld_R (call := cK K m) (n := 30000) (l := h0.next + 7) (args := [encV x]) (h := ⟨nx, l0, ob⟩) (P := fun h' => S140 tm0 c h0 (os ++ [x]) h' ∧ nx ≤ h'.next ∧ h'.get (h0.next + 4) = ob.get (h0.next + 4) ∧ h'.get (h0.next + 5) = ob.get (h0.next + 5) ∧ h'.low < h0.next + 8) l rfl (by
      have m1 : ¬ (h0.next + 7 = nx) := by omega
      have m2 : ¬ (h0.next + 3 = nx) := by omega
      have m3 : ¬ (h0.next + 3 = h0.next + 7) := by omega
      have m4 : ¬ (nx = h0.next + 7) := by omega
      unfold b140_0
      show R _ _ _ _ _ ⟨tm0.put 28 (.agg [.int .i64 x.idx, .int .i64 x.plus]), _⟩ _
      simp only [go_sem, Nat.reduceEqDiff, Nat.reduceAdd]
      refine ⟨_, yldBegin_at (by simp only [go_sem, m1]; exact l), ?_⟩
      simp only [go_sem]
      obtain ⟨ob2, hob2⟩ : ∃ ob2, ob2 = ((ob.put nx (.box [.int .i64 0, .int .i64 0])).put nx (.box [.int .i64 x.idx, .int .i64 x.plus])).put (h0.next + 7) (.loop .busy none tm0 [28] b140_0 b140_1 140) := ⟨_, rfl⟩
      rw [← hob2]
      have w3 : ob2.get (h0.next + 3) = some (.box [.int .i64 c, v]) := by simp only [hob2, go_sem, m2, m3, b]
      have wx : ob2.get nx = some (.box [.int .i64 x.idx, .int .i64 x.plus]) := by simp only [hob2, go_sem, m4]
      have wk : ∀ k, k < nx → k ≠ h0.next + 7 → ob2.get k = ob.get k := fun k h1 h2 => by rw [hob2, Tr.get_put_other _ _ h2, Tr.get_put_other _ _ (by omega), Tr.get_put_other _ _ (by omega)]
      have wl : ob2.get (h0.next + 7) = some (.loop .busy none tm0 [28] b140_0 b140_1 140) := by rw [hob2, Tr.get_put_same]
      obtain ⟨v', h', c1, c2, c3, c4, c5, c6, c7, c8⟩ := own_append (bytes := 16) (z := [.int .i64 0, .int .i64 0]) (own_keep (h' := ⟨nx + 1, minN (h0.next + 7) (minN nx l0), ob2⟩) o (by show nx ≤ nx + 1; omega) (fun k h1 h2 => wk k h2 (by omega))) (by show h0.next + 8 ≤ nx + 1; omega) rfl (x := encV x) rfl rfl rfl (by rw [List.length_map]; omega) (by omega)
      have c1 : evAppend ⟨nx + 1, minN (h0.next + 7) (minN nx l0), ob2⟩ 2 true [.int .i64 0, .int .i64 0] 16 v (.clip [.agg [.int .i64 x.idx, .int .i64 x.plus]]) = some (v', h') := c1
      rw [show os.map encV ++ [encV x] = (os ++ [x]).map encV by simp] at c2
      have rd := own_Rd c2
      have hvc := rd.cell
      have hvl := rd.lies
      obtain ⟨nx2, lo2, ob3⟩ := h'
      have c3 : nx + 1 ≤ nx2 := c3
      have c4 : ∀ k, k < h0.next + 8 → ob3.get k = ob2.get k := c4
      have c5 : h0.next ≤ lo2 := c5 h0.next (by omega) (by (repeat' (first | assumption | exact Nat.le_refl _ | apply le_minN)) <;> omega)
      have w3' : ob3.get (h0.next + 3) = some (.box [.int .i64 c, v]) := (c4 _ (by omega)).trans w3
      unfold b140_1
      simp only [go_sem, Nat.reduceEqDiff, Nat.reduceAdd, Nat.reduceMul, t6, w3, wx, c1, w3', hvc, hvl]
      refine ⟨_, yldSet_at (by simp only [go_sem]; rw [Tr.get_put_other _ _ (by omega), c4 _ (by omega)]; exact wl), ⟨⟨v', ?_, ?_⟩, ?_, ?_, ?_, fun k' hk' => ?_, ?_, ?_⟩, ?_, ?_, ?_, ?_⟩
      · simp only [go_sem, m3]
      · exact own_keep c2 (Nat.le_refl _) fun k h1 _ => by simp only [go_sem]; (repeat rw [Tr.get_put_other _ _ (by omega)])
      · simp only [go_sem]; rw [Tr.get_put_other _ _ (by omega), Tr.get_put_other _ _ (by omega), c4 _ (by omega), wk _ (by omega) (by omega)]; exact r
      · simp only [go_sem]; rw [Tr.get_put_other _ _ (by omega), Tr.get_put_other _ _ (by omega), c4 _ (by omega), wk _ (by omega) (by omega)]; exact d
      · simp only [go_sem]
      · simp only [go_sem]; rw [Tr.get_put_other _ _ (by omega), Tr.get_put_other _ _ (by omega), c4 _ (by omega), wk _ (by omega) (by omega)]; exact k k' hk'
      · simp only [go_sem]; exact (by (repeat' (first | assumption | exact Nat.le_refl _ | apply le_minN)) <;> omega)
      · simp only [go_sem]; omega
      · simp only [go_sem]; omega
      · simp only [go_sem]; rw [Tr.get_put_other _ _ (by omega), Tr.get_put_other _ _ (by omega), c4 _ (by omega), wk _ (by omega) (by omega)]
      · simp only [go_sem]; rw [Tr.get_put_other _ _ (by omega), Tr.get_put_other _ _ (by omega), c4 _ (by omega), wk _ (by omega) (by omega)]
      · simp only [go_sem]
        have : minN (h0.next + 7) (minN (h0.next + 3) lo2) ≤ h0.next + 7 := minN_le _ _
        omega)
    obtain ⟨P1, P2, P3, P4, P5⟩ := P
    exact ⟨h', e, P1, P2, P3, P4, P5⟩
theorem c140 {K : CallF} (hK : Runs K) (hv : KV K) (m0 : Nat) (a b : LL) (va vb : AV) (h : AH) (ha : Lv va a) (hb : Lv vb b) (l1 : a.vars.length ≤ 50) (l2 : b.vars.length ≤ 50) (v1 : VL a) (v2 : VL b) :
    ∃ v nx, h.next ≤ nx ∧ cK K (m0 + 8) (.fn 140 [] []) [va, vb] .no h = some (.ret v, .no, ⟨nx, h.low, h.objs⟩) ∧ isLv (limR (max a.c b.c) (mergeV a.vars b.vars)) v := by
  rw [cK_run hK _ 140]
  have key : ∃ v h', evFn EF (cK K (m0 + 7)) 30000 140 [va, vb] .no h = some (.ret v, .no, h') ∧ Gx (isLv (limR (max a.c b.c) (mergeV a.vars b.vars))) h v h' := by
    have e1 := fun h => cK_known (hv.r135 va a h ha (by omega)) (m0 + 7)
    have e2 := fun h => cK_known (hv.r135 vb b h hb (by omega)) (m0 + 7)
    rw [vl_t v1] at e1
    rw [vl_t v2] at e2
    obtain ⟨Va, rfl, a1, a2, a3, a4, a5, a6⟩ := ha.ex
    obtain ⟨Vb, rfl, b1, b2, b3, b4, b5, b6⟩ := hb.ex
    obtain ⟨sa1, sa2⟩ := ha.cs Va rfl
    obtain ⟨sb1, sb2⟩ := hb.cs Vb rfl
    refine evFn_E cf140 (pureF _) ?_
    have n1 : ¬ (h.next = h.next + 1) := by omega
    have n2 : ¬ (h.next = h.next + 1 + 1) := by omega
    have n3 : ¬ (h.next + 1 = h.next + 1 + 1) := by omega
    have n4 : ¬ (h.next = h.next + 1 + 1 + 1) := by omega
    have n5 : ¬ (h.next + 1 = h.next + 1 + 1 + 1) := by omega
    have n6 : ¬ (h.next + 1 + 1 = h.next + 1 + 1 + 1) := by omega
    unfold b140
    simp only [go_sem, Nat.reduceEqDiff, Nat.reduceAdd, reduceCtorEq, s140_5, n1, n2, n3, e1, e2, s140_4, max2, s140_3, n4, n5]
    obtain ⟨ob, hob⟩ : ∃ ob, ob = ((((h.objs.put h.next (.box [.int .i64 a.c, Va])).put (h.next + 1) (.box [.int .i64 b.c, Vb])).put (h.next + 1 + 1) (.box [.int .i64 0, .nils])).put (h.next + 1 + 1 + 1) (.box [.int .i64 0, .nils])).put (h.next + 1 + 1 + 1) (.box [.int .i64 (max a.c b.c), .nils]) := ⟨_, rfl⟩
    rw [← hob]
    have g4 : ob.get (h.next + 2) = some (.box [.int .i64 0, .nils]) := by show ob.get (h.next + 1 + 1) = _; simp only [hob, go_sem, n6]
    have g5 : ob.get (h.next + 3) = some (.box [.int .i64 (max a.c b.c), .nils]) := by show ob.get (h.next + 1 + 1 + 1) = _; simp only [hob, go_sem]
    have gk : ∀ k, k < h.next → ob.get k = h.get k := fun k hk => by rw [hob]; (repeat rw [Tr.get_put_other _ _ (by omega)]); rfl
    obtain ⟨H2, e198, q1, q2, q3, q4, q5⟩ := c198 hK (m0 + 6) Va Vb a2 a3 b2 b3 sa2 sb2 ⟨h.next + 1 + 1 + 1 + 1, minN (h.next + 1 + 1 + 1) h.next, ob⟩
    have q1 : H2.next = h.next + 6 := q1
    have q2 : H2.low = minN (h.next + 1 + 1 + 1) h.next := q2
    have q3 : H2.get (h.next + 4) = some (.box [Va]) := q3
    have q4 : H2.get (h.next + 5) = some (.box [Vb]) := q4
    have q5 : ∀ k, k < h.next + 4 → H2.get k = ob.get k := q5
    have main : ∀ tm, nth tm 6 = .ptr (h.next + 3) 0 0 → nth tm 4 = .ptr (h.next + 2) 0 0 → nth tm 27 = .fn 241 [] [.ptr (h.next + 4) 0 0, .ptr (h.next + 5) 0 0] →
        R (cK K (m0 + 7)) 30000 [.code (.rangeFunc (.t 27) [28] b140_0 b140_1), .out 0, .code s140_2] (HE (cK K (m0 + 7)) h r140 (Gx (isLv (limR (max a.c b.c) (mergeV a.vars b.vars))) h)) .normal ⟨tm, ⟨[], .no, none, 140⟩⟩ H2 := by
      intro tm t6 t4 t27
      obtain ⟨H3, hH3⟩ : ∃ H3, H3 = (H2.new (.dfd false)).new (.loop .ready none tm [28] b140_0 b140_1 140) := ⟨_, rfl⟩
      have w1 : H3.next = h.next + 8 := by rw [hH3, next_new, next_new, q1]
      have w2 : H3.low = H2.low := by rw [hH3, low_new, low_new]
      have w3 : H3.get (h.next + 7) = some (.loop .ready none tm [28] b140_0 b140_1 140) := by
        have e : (H2.new (.dfd false)).next = h.next + 7 := by rw [next_new, q1]
        rw [hH3, ← e, get_new_s]
      have w4 : H3.get (h.next + 6) = some (.dfd false) := by
        rw [hH3, get_new_o (by rw [next_new, q1]; omega), ← q1, get_new_s]
      have w5 : ∀ k, k < h.next + 6 → H3.get k = H2.get k := fun k hk => by rw [hH3, get_new_o (by rw [next_new, q1]; omega), get_new_o (by omega)]
      have s0 : S140 tm (max a.c b.c) h [] H3 := ⟨⟨.nils, by rw [w5 _ (by omega), q5 _ (by omega)]; exact g5, own_nil _ _ _ _⟩, by rw [w5 _ (by omega), q5 _ (by omega)]; exact g4, w4, w3, fun k hk => by rw [w5 _ (by omega), q5 _ (by omega)]; exact gk k hk, by rw [w2, q2]; exact (by (repeat' (first | assumption | exact Nat.le_refl _ | apply le_minN)) <;> omega), by omega⟩
      obtain ⟨v, H4, c1, c2, c3⟩ := call241 (cK K (m0 + 6)) 30000 (h.next + 7) (h.next + 4) (h.next + 5) h.next (h.next + 8) (S140 tm (max a.c b.c) h) (yl140 hK (m0 + 5) tm (max a.c b.c) h t6) a.vars b.vars Va Vb H3 (by rw [w5 _ (by omega)]; exact q3) (by rw [w5 _ (by omega)]; exact q4) sa1 sb1 s0 (by omega) (by omega) (by omega) (by omega) (by omega) (by omega) (by omega) (by omega) (by omega)
      have hev : ev (.t 27) tm = .fn 241 [] [.ptr (h.next + 4) 0 0, .ptr (h.next + 5) 0 0] := t27
      obtain ⟨⟨v', d1, d2⟩, d3, d4, d5, d6, d7, d8⟩ := c2
      refine R_range_at (h.next + 6) (h.next + 7) q1 rfl (by rw [hev, ← hH3, cK_run hK _ 241]; exact c1) d5 rfl ?_
      obtain ⟨nx4, lo4, ob4⟩ := H4
      have d1 : ob4.get (h.next + 3) = some (.box [.int .i64 (max a.c b.c), v']) := d1
      have d3 : ob4.get (h.next + 2) = some (.box [.int .i64 0, .nils]) := d3
      have d4 : ob4.get (h.next + 6) = some (.dfd false) := d4
      have d7 : h.next ≤ lo4 := d7
      have d8 : h.next + 8 ≤ nx4 := d8
      have rd := own_Rd (own_keep (h' := ⟨nx4, minN (h.next + 7) lo4, ob4.put (h.next + 7) (.loop .exhausted none tm [28] b140_0 b140_1 140)⟩) d2 (Nat.le_refl _) (fun k h1 _ => by rw [get_mk, Tr.get_put_other _ _ (by omega)]; rfl))
      have hvc := rd.cell
      have hvl := rd.lies
      have k1 : ¬ (h.next + 3 = h.next + 7) := by omega
      have k2 : ¬ (h.next + 2 = h.next + 7) := by omega
      have k3 : ¬ (h.next + 6 = h.next + 7) := by omega
      have k4 : ¬ (h.next + 6 = h.next + 2) := by omega
      have k5 : ¬ (h.next + 2 = h.next + 6) := by omega
      have hml := mergeV_len a.vars b.vars
      obtain ⟨v9, nx9, f1, f2, f3⟩ := c199 hK (m0 + 2) v' (max a.c b.c) (mergeV a.vars b.vars) _ rd (by omega)
      have f1 : nx4 ≤ nx9 := f1
      rcases f3 with ⟨mb, rfl⟩ | ⟨mb, rfl⟩
      · simp only [go_sem, Nat.reduceEqDiff, Nat.reduceAdd, s140_2, t6, d1, k1, f2, t4, d3, k2]
        refine ⟨rfl, .inr rfl, _, defs_mark (by simp only [go_sem, k3, k4]; exact d4), _, by simp only [go_sem, Nat.reduceEqDiff, Nat.reduceAdd, r140, t4, k5]; rfl, .inl ⟨(by (repeat' (first | assumption | exact Nat.le_refl _ | apply le_minN)) <;> omega), ⟨.agg [.int .i64 0, .nils], ?_, ?_⟩, by show h.next ≤ nx9; omega, rfl, rfl⟩⟩
        · rw [one_2, frz_tupS]; simp only [List.map_cons, List.map_nil, frz_aggS, frz_int, frz_nils, limR, mb, cond_true]
        · rw [show (limR (max a.c b.c) (mergeV a.vars b.vars)).1 = ⟨0, []⟩ by simp only [limR, mb, cond_true]]
          exact Lv_nils 0
      · simp only [go_sem, Nat.reduceEqDiff, Nat.reduceAdd, s140_2, t6, d1, k1, f2, t4, d3, k2]
        refine ⟨rfl, .inr rfl, _, defs_mark (by simp only [go_sem, k3, k4]; exact d4), _, by simp only [go_sem, Nat.reduceEqDiff, Nat.reduceAdd, r140, t4, k5]; rfl, .inl ⟨(by (repeat' (first | assumption | exact Nat.le_refl _ | apply le_minN)) <;> omega), ?_, by show h.next ≤ nx9; omega, rfl, rfl⟩⟩
        have er : limR (max a.c b.c) (mergeV a.vars b.vars) = (⟨cond (covd ⟨max a.c b.c, mergeV a.vars b.vars⟩) 0 (max a.c b.c), mergeV a.vars b.vars⟩, 0) := by simp only [limR, mb, cond_false]
        rw [one_2, frz_tupS, er]
        simp only [List.map_cons, List.map_nil, frz_aggS, frz_int]
        exact ⟨_, rfl, own_Lv d2 (by omega) f1 (by intros; (repeat rw [Tr.get_put_other _ _ (by omega)])) _ 0⟩
    simp only [go_sem, e198]
    exact main _ (by simp only [go_sem, Nat.reduceEqDiff]) (by simp only [go_sem, Nat.reduceEqDiff]) (by simp only [go_sem])
  obtain ⟨v, h', e, g⟩ := key
  obtain ⟨nx, g1, rfl⟩ := Gx_eq g
  exact ⟨v, nx, g1, e, g.1⟩
structure VS (kV : Nat) (vals : List LL) (h : AH) : Prop where
  ex : ∃ es : List AV, h.get kV = some (.row 0 2 true (flat es) 0) ∧ es.length = vals.length ∧ (∀ x ∈ es, x.cells.length = 2 ∧ x.isAgg = true) ∧ ∀ (i : Nat) a x, es[i]? = some a → vals[i]? = some x → Lv a x
  lt : kV < h.next
theorem VS.mono {kV : Nat} {vals : List LL} {h h' : AH} (s : VS kV vals h) (hn : h.next ≤ h'.next) (hg : h'.get kV = h.get kV) : VS kV vals h' := by
  obtain ⟨⟨es, e1, e2⟩, lt⟩ := s
  exact ⟨⟨es, hg.trans e1, e2⟩, by omega⟩
theorem row_iaddr {k g n i : Nat} (hi : i < n) (H : AH) : evIaddr (.row k g 2 0 n) H 2 (.int .i64 (i : Int)) = .val (.ptr k g (i * 2)) H := by
  show okV (cond (Nat.beq 2 2) (bindO (bindO (some i) fun m => cond (Nat.blt m n) (some m) none) fun n => some (.ptr k g (Nat.mul (Nat.add 0 n) 2))) none) H = _
  have hb : Nat.blt i n = true := Nat.ble_eq_true_of_le hi
  rw [bindO_some, hb]
  show OpR.val (.ptr k g (Nat.mul (Nat.add 0 i) 2)) H = _
  congr 2
  show (0 + i) * 2 = i * 2
  omega
theorem VS.rd {kV : Nat} {vals : List LL} {h : AH} (s : VS kV vals h) : RdL h.next h (.row kV 0 2 0 vals.length) vals := by
  obtain ⟨⟨es, e1, e2, e3, e4⟩, lt⟩ := s
  refine ⟨fun h => len_row _ _ _ _ _, fun i x e => ?_, rfl, rfl⟩
  have hi : i < vals.length := (List.getElem?_eq_some_iff.1 e).1
  have hei : es[i]? = some es[i] := List.getElem?_eq_getElem (by omega)
  refine ⟨.ptr kV 0 (i * 2), es[i], e4 i _ x hei e, fun H hH => ⟨row_iaddr hi H, ?_⟩⟩
  have hf := flat_get (sz := 2) (fun y hy => (e3 y hy).1) hei
  have hl := flat_len (fun y hy => (e3 y hy).1)
  obtain ⟨z1, z2⟩ := e3 _ (List.mem_of_getElem? hei)
  rw [load_ptr, hH kV lt, e1, bindO_some, loadAt_row, grab_A _ _ _ (by rw [hl]; omega), hf]
  cases hz : es[i] <;> rw [hz] at z2 <;> simp [AV.isAgg] at z2
  rfl
theorem VS.store {kV : Nat} {vals : List LL} {h : AH} (s : VS kV vals h) {i : Nat} (hi : i < vals.length) {a : AV} {y : LL} (ha : Lv a y) :
    ∃ o, evStore (.ptr kV 0 (i * 2)) h 2 a = some (h.set kV o) ∧ VS kV (vals.set i y) (h.set kV o) := by
  obtain ⟨⟨es, e1, e2, e3, e4⟩, lt⟩ := s
  obtain ⟨V, rfl, _⟩ := ha.ex
  have hc : (AV.agg [.int .i64 y.c, V]).cells.length = 2 := rfl
  have hset := flat_set hc (out := es) (a := i) (fun y hy => (e3 y hy).1) (by omega)
  have hl := flat_len (fun y hy => (e3 y hy).1)
  refine ⟨.row 0 2 true (flat (es.set i (.agg [.int .i64 y.c, V]))) 0, ?_, ⟨_, get_set_s _ _ _, by simp [e2], fun x hx => ?_, fun j b x hb hx => ?_⟩, by rw [next_set]; exact lt⟩
  · rw [store_ptr _ _ _ _ rfl hc, e1, bindO_some]
    show bindO (cond (and (Nat.beq 0 0) (and (Nat.ble 0 (i * 2)) (Nat.ble (i * 2 + len (AV.agg [.int .i64 y.c, V]).cells) (len (flat es))))) (some (AObj.row 0 2 true (setR (i * 2) (AV.agg [.int .i64 y.c, V]).cells (flat es)) 0)) none) _ = _
    rw [beq_t, len_eq, len_eq, ble_t (show i * 2 + (AV.agg [.int .i64 y.c, V]).cells.length ≤ (flat es).length by rw [hl, hc]; omega), hset]
    rfl
  · rcases List.mem_or_eq_of_mem_set hx with h | h
    · exact e3 x h
    · rw [h]; exact ⟨rfl, rfl⟩
  · rw [List.getElem?_set] at hb hx
    by_cases hij : i = j
    · subst hij
      rw [if_pos rfl, if_pos (by omega)] at hb
      rw [if_pos rfl, if_pos hi] at hx
      cases hb; cases hx; exact ha
    · rw [if_neg hij] at hb hx
      exact e4 j b x hb hx
end Go.Proofs.YtnacljdablhbgaaGreat
