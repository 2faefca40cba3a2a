/- SolverFinishes: raise of the program (no condition). -/
import Derived.Test.YtnacljdablhbgaaGreatEa
namespace Go.Proofs.YtnacljdablhbgaaGreat
open Go.AG
theorem box_row (h : AH) (k g z o n : Nat) : evBox h 1 (.row k g z o n) = .val (.ptr h.next 0 0) (h.new (.box [.row k g z o n])) := (rfl)
attribute [local go_sem] box_row
theorem vr99 {kV : Nat} {h0 h1 : AH} {r : Option (List LL × Bool)} {v : AV} (hk : kV < h0.next) (keep : ∀ k, k < h0.next → k ≠ kV → h1.get k = h0.get k) (low : kV ≤ h1.low) (next : h0.next ≤ h1.next)
    (hf : frz 4 h1 h0.next v = v) (hr : match r with | some (vals, ch) => v = .tup [.bool ch, .int .i64 0] ∧ VS kV vals h1 ∧ (h1.get kV = h0.get kV ∨ h1.low ≤ kV) | none => v = .tup [.bool false, .int .i64 15]) :
    (h0.next ≤ h1.low ∧ Vr kV h0 r (frz 4 h1 h0.next v) ⟨h1.next, h0.low, h0.objs⟩) ∨ (¬ h0.next ≤ h1.low ∧ Vr kV h0 r v ⟨h1.next, minN h1.low h0.low, h1.objs⟩) := by
  by_cases hl : h0.next ≤ h1.low
  · refine .inl ⟨hl, ⟨by show h0.next ≤ h1.next; omega, fun k hk _ => rfl, fun b h1 h2 => h1⟩, ?_⟩
    rw [hf]
    cases r with
    | none => exact hr
    | some p =>
      obtain ⟨vals', ch⟩ := p
      obtain ⟨hr1, vs, kpv⟩ := hr
      refine ⟨hr1, vs.mono (Nat.le_refl _) ?_⟩
      show h0.get kV = _
      rcases kpv with h | h
      · exact h.symm
      · omega
  · refine .inr ⟨hl, ⟨by show h0.next ≤ h1.next; omega, fun k h1 h2 => keep k h1 h2, fun b h1 h2 => le_minN (by omega) h1⟩, ?_⟩
    cases r with
    | none => exact hr
    | some p =>
      obtain ⟨vals', ch⟩ := p
      obtain ⟨hr1, vs, kpv⟩ := hr
      exact ⟨hr1, vs.mono (Nat.le_refl _) rfl⟩
theorem S99.mono {kV n : Nat} {B : List AV} {tm0 : Tm} {p8 pk pl : Nat} {h0 h h' : AH} {vs : List LL} {ch : Bool} (s : S99 kV n B tm0 p8 pk pl h0 vs ch h) (hk : kV < h0.next) (h3 : h0.next + 4 ≤ pk) (h8 : p8 < pk) (hkl : pk < pl) (hp : pl < h.next) (hg : ∀ k, k < h.next → h'.get k = h.get k) (hn : h.next ≤ h'.next) (hl : kV ≤ h'.low) (hl' : h'.low ≤ h.low) : S99 kV n B tm0 p8 pk pl h0 vs ch h' := by
  obtain ⟨c, b4, b5, b8, lp, vv, len, pm⟩ := s
  exact ⟨c.mono hk h3 (by omega) hg hl hl', (hg _ (by omega)).trans b4, (hg _ (by omega)).trans b5, (hg _ (by omega)).trans b8, (hg _ hp).trans lp, vv.mono hn (hg _ vv.lt), len, pm⟩
structure D9 (kV : Nat) (tm0 : Tm) (pk pl : Nat) (h0 h : AH) : Prop where
  b4 : h.get (h0.next + 2) = some (.box [.bool false])
  b5 : h.get (h0.next + 3) = some (.box [.int .i64 15])
  lp : h.get pl = some (.loop .done (some .ret) tm0 [26] b99_0 b99_7 99)
  mrk : h.get pk = some (.dfd false)
  keep : ∀ k, k < h0.next → k ≠ kV → h.get k = h0.get k
  low : kV ≤ h.low
  next : pl < h.next
theorem call99 {K : CallF} (hK : Runs K) (hv : KV K) (hs : KS K) (m0 : Nat) (kV : Nat) (low high : LL) (al ah : AV) (Vl Vh : AV) (vals : List LL) (h : AH) (eal : al = .agg [.int .i64 low.c, Vl]) (eah : ah = .agg [.int .i64 high.c, Vh]) (hal : Lv al low) (hah : Lv ah high) (hS : VS kV vals h)
    (v1 : VL low) (v2 : VL high) (s1 : Sc vals.length low) (s2 : Sc vals.length high) (l1 : low.vars.length ≤ 10) (l2 : high.vars.length ≤ 10) (hp : ∀ y ∈ vals, Pm y) (hn : vals.length ≤ 5000) :
    ∃ v h', evFn EF (cK K (m0 + 12)) 30000 99 [.row kV 0 2 0 vals.length, .agg [.int .i64 low.c, Vl, .int .i64 high.c, Vh]] .no h = some (.ret v, .no, h') ∧ Vr kV h (visP low high vals) v h' := by
  have kV_lt := hS.lt
  subst eal eah
  have hal' := hal
  have hah' := hah
  obtain ⟨_, z1, _, vlc, vll, vlf, _, _⟩ := hal.ex
  cases z1
  obtain ⟨_, z2, _, vhc, vhl, vhf, _, _⟩ := hah.ex
  cases z2
  refine evFn_E cf99 (pureF _) ?_
  have n1 : ¬ (h.next = h.next + 1) := by omega
  have n2 : ¬ (h.next = h.next + 1 + 1) := by omega
  have n3 : ¬ (h.next + 1 = h.next + 1 + 1) := by omega
  have n4 : ¬ (h.next = h.next + 1 + 1 + 1) := by omega
  have n5 : ¬ (h.next + 1 = h.next + 1 + 1 + 1) := by omega
  have n6 : ¬ (h.next + 1 + 1 = h.next + 1 + 1 + 1) := by omega
  have n7 : ¬ (h.next + 1 + 1 + 1 = h.next + 1 + 1) := by omega
  obtain ⟨B, hB⟩ : ∃ B, B = [AV.int .i64 low.c, Vl, .int .i64 high.c, Vh] := ⟨_, rfl⟩
  obtain ⟨ob, hob⟩ : ∃ ob, ob = (((h.objs.put h.next (.box [.row kV 0 2 0 vals.length])).put (h.next + 1) (.box [.int .i64 low.c, Vl, .int .i64 high.c, Vh])).put (h.next + 1 + 1) (.box [.bool false])).put (h.next + 1 + 1 + 1) (.box [.int .i64 0]) := ⟨_, rfl⟩
  have g2 : ob.get h.next = some (.box [.row kV 0 2 0 vals.length]) := by simp only [hob, go_sem, n1, n2, n4]
  have g3 : ob.get (h.next + 1) = some (.box [.int .i64 low.c, Vl, .int .i64 high.c, Vh]) := by simp only [hob, go_sem, n3, n5]
  have g4 : ob.get (h.next + 1 + 1) = some (.box [.bool false]) := by simp only [hob, go_sem, n6]
  have g5 : ob.get (h.next + 1 + 1 + 1) = some (.box [.int .i64 0]) := by simp only [hob, go_sem]
  have gk : ∀ k, k < h.next → ob.get k = h.get k := fun k hk => by rw [hob]; (repeat rw [Tr.get_put_other _ _ (by omega)]); rfl
  have hvv := fun y hy => (hp y hy).vl
  obtain ⟨v, nx1, w1, w2, a6, rfl, w3⟩ := c115 hK hv hs (m0 + 3) _ low (.row kV 0 2 0 vals.length) vals ⟨h.next + 1 + 1 + 1 + 1, h.next, ob⟩ hal ((hS.mono (h' := ⟨h.next + 1 + 1 + 1 + 1, h.next, ob⟩) (by show h.next ≤ h.next + 1 + 1 + 1 + 1; omega) (gk _ kV_lt)).rd) (by omega) (by omega) (fun y hy => by have := (hp y hy).len; omega) v1 hvv
  rw [(asg_rep v1 hvv).1] at w2 w3
  have w1 : h.next + 1 + 1 + 1 + 1 ≤ nx1 := w1
  obtain ⟨A6, e6, _, e6c, e6l, _, _, _⟩ := w3.ex
  rw [e6] at w2
  have w3' := w3
  rw [e6] at w3'
  unfold b99
  simp only [go_sem, Nat.reduceEqDiff, Nat.reduceAdd, reduceCtorEq]
  rw [← hob]
  obtain ⟨ob2, hob2⟩ : ∃ ob2, ob2 = (ob.put nx1 (.box [.int .i64 0, .nils])).put nx1 (.box [.int .i64 (repR low vals).1.c, A6]) := ⟨_, rfl⟩
  have k2 : ∀ k, k < nx1 → ob2.get k = ob.get k := fun k hk => by rw [hob2, Tr.get_put_other _ _ (by omega), Tr.get_put_other _ _ (by omega)]
  have g6 : ob2.get nx1 = some (.box [.int .i64 (repR low vals).1.c, A6]) := by rw [hob2, Tr.get_put_same]
  simp only [go_sem, Nat.reduceEqDiff, Nat.reduceAdd, Nat.reduceLeDiff, s99_12, g2, g3, w2, s99_11]
  rw [← hob2]
  by_cases he : (repR low vals).2 = 0
  · have hz : decide ((repR low vals).2 = 0) = true := decide_eq_true he
    have pm := repR_Pm hp v1 s1 he
    have evis : visP low high vals = (partsR (repR low vals).1).foldl (stepP high) (some (vals, false)) := if_pos he
    have n8 : ¬ (nx1 = nx1 + 1) := by omega
    obtain ⟨ob3, hob3⟩ : ∃ ob3, ob3 = (ob2.put (nx1 + 1) (.box [.bool false])).put (nx1 + 1) (.box [.bool false]) := ⟨_, rfl⟩
    have k3 : ∀ k, k < nx1 + 1 → ob3.get k = ob2.get k := fun k hk => by rw [hob3, Tr.get_put_other _ _ (by omega), Tr.get_put_other _ _ (by omega)]
    have g8 : ob3.get (nx1 + 1) = some (.box [.bool false]) := by rw [hob3, Tr.get_put_same]
    have g6' : ob3.get nx1 = some (.box [.int .i64 (repR low vals).1.c, A6]) := (k3 _ (by omega)).trans g6
    obtain ⟨L3, hL3⟩ : ∃ L3, L3 = minN (nx1 + 1) (minN nx1 h.next) := ⟨_, rfl⟩
    have L3l : h.next ≤ L3 := by rw [hL3]; exact (by (repeat' (first | assumption | exact Nat.le_refl _ | apply le_minN)) <;> omega)
    obtain ⟨H2, e137, q1, q2, q3, q5⟩ := c137 hK (m0 + 11) (repR low vals).1.c A6 ⟨nx1 + 1 + 1, L3, ob3⟩ e6c e6l
    have q1 : H2.next = nx1 + 3 := q1
    have q2 : H2.low = L3 := q2
    have q3 : H2.get (nx1 + 2) = some (.box [.int .i64 (repR low vals).1.c, A6]) := q3
    have q5 : ∀ k, k < nx1 + 2 → H2.get k = ob3.get k := q5
    simp only [go_sem, hz, s99_10]
    rw [← hob3, ← hL3]
    simp only [go_sem, Nat.reduceEqDiff, Nat.reduceAdd, s99_9, g6', e137]
    have main : ∀ tm, nth tm 2 = .ptr h.next 0 0 → nth tm 3 = .ptr (h.next + 1) 0 0 → nth tm 4 = .ptr (h.next + 2) 0 0 → nth tm 5 = .ptr (h.next + 3) 0 0 → nth tm 8 = .ptr (nx1 + 1) 0 0 → nth tm 25 = .fn 196 [] [.ptr (nx1 + 2) 0 0] →
        R (cK K (m0 + 12)) 30000 [.code (.rangeFunc (.t 25) [26] b99_0 b99_7), .out 0, .code s99_8] (HE (cK K (m0 + 12)) h r99 (Vr kV h (visP low high vals))) .normal ⟨tm, ⟨[], .no, none, 99⟩⟩ H2 := by
      intro tm t2 t3 t4 t5 t8 t25
      obtain ⟨H3, hH3⟩ : ∃ H3, H3 = (H2.new (.dfd false)).new (.loop .ready none tm [26] b99_0 b99_7 99) := ⟨_, rfl⟩
      have w1' : H3.next = nx1 + 5 := by rw [hH3, next_new, next_new, q1]
      have w2' : H3.low = L3 := by rw [hH3, low_new, low_new, q2]
      have u3 : H3.get (nx1 + 4) = some (.loop .ready none tm [26] b99_0 b99_7 99) := by
        have e : (H2.new (.dfd false)).next = nx1 + 4 := by rw [next_new, q1]
        rw [hH3, ← e, get_new_s]
      have u4 : H3.get (nx1 + 3) = some (.dfd false) := by
        rw [hH3, get_new_o (by rw [next_new, q1]; omega), ← q1, get_new_s]
      have u5 : ∀ k, k < nx1 + 3 → H3.get k = H2.get k := fun k hk => by rw [hH3, get_new_o (by rw [next_new, q1]; omega), get_new_o (by omega)]
      have u6 : ∀ k, k < nx1 → H3.get k = ob.get k := fun k hk => by rw [u5 _ (by omega), q5 _ (by omega), k3 _ (by omega)]; exact k2 k hk
      have Y : Y6 (cK K (m0 + 11)) (nx1 + 4) (nx1 + 2) kV (nx1 + 5) high (fun p => Pm p ∧ p.vars.length ≤ 1) vals false H3
          (fun vs ch H => S99 kV vals.length [.int .i64 low.c, Vl, .int .i64 high.c, Vh] tm (nx1 + 1) (nx1 + 3) (nx1 + 4) h vs ch H ∧ nx1 + 5 ≤ H.next)
          (fun H => D9 kV tm (nx1 + 3) (nx1 + 4) h H) :=
        { init := fun h' z1 z2 z3 => ⟨⟨⟨(z2 _ (by omega)).trans ((u6 _ (by omega)).trans g2), (z2 _ (by omega)).trans ((u6 _ (by omega)).trans g3), (z2 _ (by omega)).trans u4, fun k y1 y2 => (z2 _ (by omega)).trans ((u6 _ (by omega)).trans (gk k y1)), .inl ((z2 _ (by omega)).trans ((u6 _ (by omega)).trans (gk _ kV_lt))), z3⟩,
              (z2 _ (by omega)).trans ((u6 _ (by omega)).trans g4), (z2 _ (by omega)).trans ((u6 _ (by omega)).trans g5), (z2 _ (by omega)).trans ((u5 _ (by omega)).trans ((q5 _ (by omega)).trans g8)), (z2 _ (by omega)).trans u3, hS.mono (by omega) ((z2 _ (by omega)).trans ((u6 _ (by omega)).trans (gk _ kV_lt))), rfl, hp⟩, by omega⟩
          initl := by omega
          keep := fun vs ch h1 h2 s z1 z2 z3 z4 => ⟨s.1.mono kV_lt (by omega) (by omega) (by omega) (by have := s.2; omega) z2 z1 z3 z4, by have := s.2; omega⟩
          low := fun vs ch h1 s => s.1.c.low
          keepD := fun h1 h2 s z1 z2 z3 => by
            obtain ⟨b4, b5, lp, mrk, keep, low, next⟩ := s
            exact ⟨(z2 _ (by omega)).trans b4, (z2 _ (by omega)).trans b5, (z2 _ (by omega)).trans lp, (z2 _ (by omega)).trans mrk, fun k y1 y2 => (z2 _ (by omega)).trans (keep k y1 y2), z3, by omega⟩
          lowD := fun h1 s => s.low
          step := fun vs ch p ap h1 s z1 z2 z3 => by
            obtain ⟨t, h', e, w, x1, x2, x3⟩ := rd99 hK hv hs m0 kV vals.length (nx1 + 1) (nx1 + 2) (nx1 + 3) (nx1 + 4) low high Vl Vh hah' v2 s2 l2 hn tm h kV_lt t2 t3 t4 t5 t8 (by omega) (by omega) (by omega) (by omega) vs ch p ap h1 s.1 z1 z2.1 z2.2 z3
            refine ⟨t, h', e, w, x1, x2, ?_⟩
            cases hst : stepP high (some (vs, ch)) p with
            | none =>
              rw [hst] at x3
              obtain ⟨y1, ⟨c, b4, b5, lp⟩⟩ := x3
              exact ⟨y1, b4, b5, lp, c.mrk, c.keep, c.low, by omega⟩
            | some r =>
              rw [hst] at x3
              exact ⟨x3.1, x3.2, by omega⟩ }
      obtain ⟨v, H4, c1, c2, c3⟩ := call196 (cK K (m0 + 11)) 30000 (nx1 + 4) (nx1 + 2) kV (nx1 + 5) high _ _ _ (repR low vals).1 A6 vals false H3 Y w3' ((u5 _ (by omega)).trans q3) (by omega) (by omega) (parts_Pm pm) (by omega) (by have := pm.len; omega) (by omega)
      have hev : ev (.t 25) tm = .fn 196 [] [.ptr (nx1 + 2) 0 0] := t25
      rw [← evis] at c3
      cases hvis : visP low high vals with
      | none =>
        rw [hvis] at c3
        obtain ⟨b4, b5, lp, mrk, keep, low', next⟩ := c3
        refine R_range_ret (nx1 + 3) (nx1 + 4) q1 rfl (by rw [hev, ← hH3, cK_run hK _ 196]; exact c1) lp rfl ?_
        obtain ⟨nx4, lo4, ob4⟩ := H4
        have b4 : ob4.get (h.next + 2) = some (.box [.bool false]) := b4
        have b5 : ob4.get (h.next + 3) = some (.box [.int .i64 15]) := b5
        have low' : kV ≤ lo4 := low'
        have mrk : ob4.get (nx1 + 3) = some (.dfd false) := mrk
        have next : nx1 + 4 < nx4 := next
        simp only [go_sem]
        refine ⟨rfl, .inr rfl, _, defs_mark (by rw [get_mk, Tr.get_put_other _ _ (by omega)]; exact mrk), [.bool false, .int .i64 15], ?_, ?_⟩
        · have y4 : ((ob4.put (nx1 + 4) (.loop .exhausted (some .ret) tm [26] b99_0 b99_7 99)).put (nx1 + 3) (.dfd true)).get (h.next + 2) = some (.box [.bool false]) := by rw [Tr.get_put_other _ _ (by omega), Tr.get_put_other _ _ (by omega)]; exact b4
          have y5 : ((ob4.put (nx1 + 4) (.loop .exhausted (some .ret) tm [26] b99_0 b99_7 99)).put (nx1 + 3) (.dfd true)).get (h.next + 3) = some (.box [.int .i64 15]) := by rw [Tr.get_put_other _ _ (by omega), Tr.get_put_other _ _ (by omega)]; exact b5
          simp only [go_sem, r99, t4, t5, y4, y5]
        · refine vr99 kV_lt (fun k y1 y2 => ?_) ?_ ?_ (by rw [one_2, frz_tupS]; simp only [List.map_cons, List.map_nil, frz_int, frz_bool]) rfl
          · simp only [go_sem]
            rw [Tr.get_put_other _ _ (by omega), Tr.get_put_other _ _ (by omega)]; exact keep k y1 y2
          · exact le_minN (by omega) (le_minN (by omega) low')
          · show h.next ≤ nx4; omega
      | some r =>
        obtain ⟨vs', ch'⟩ := r
        rw [hvis] at c3
        obtain ⟨⟨⟨b2, b3, mrk, keep, kpv, low'⟩, b4, b5, b8, lp, vv, len, pm'⟩, next⟩ := c3
        refine R_range_at (nx1 + 3) (nx1 + 4) q1 rfl (by rw [hev, ← hH3, cK_run hK _ 196]; exact c1) lp rfl ?_
        obtain ⟨nx4, lo4, ob4⟩ := H4
        have b4 : ob4.get (h.next + 2) = some (.box [.bool false]) := b4
        have b5 : ob4.get (h.next + 3) = some (.box [.int .i64 0]) := b5
        have b8 : ob4.get (nx1 + 1) = some (.box [.bool ch']) := b8
        have low' : kV ≤ lo4 := low'
        have mrk : ob4.get (nx1 + 3) = some (.dfd false) := mrk
        have next : nx1 + 5 ≤ nx4 := next
        obtain ⟨ob5, hob5⟩ : ∃ ob5, ob5 = ob4.put (nx1 + 4) (.loop .exhausted none tm [26] b99_0 b99_7 99) := ⟨_, rfl⟩
        have y8 : ob5.get (nx1 + 1) = some (.box [.bool ch']) := by rw [hob5, Tr.get_put_other _ _ (by omega)]; exact b8
        have y4 : ob5.get (h.next + 2) = some (.box [.bool false]) := by rw [hob5, Tr.get_put_other _ _ (by omega)]; exact b4
        have y5 : ob5.get (h.next + 3) = some (.box [.int .i64 0]) := by rw [hob5, Tr.get_put_other _ _ (by omega)]; exact b5
        have ym : ob5.get (nx1 + 3) = some (.dfd false) := by rw [hob5, Tr.get_put_other _ _ (by omega)]; exact mrk
        have yk : ∀ k, k < h.next → ob5.get k = ob4.get k := fun k hk => by rw [hob5, Tr.get_put_other _ _ (by omega)]
        have m1 : ¬ (h.next + 3 = h.next + 2) := by omega
        simp only [go_sem]
        rw [← hob5]
        simp only [go_sem, Nat.reduceEqDiff, s99_8, t8, y8, t4, y4, t5, y5, m1]
        obtain ⟨ob6, hob6⟩ : ∃ ob6, ob6 = (ob5.put (h.next + 2) (.box [.bool ch'])).put (h.next + 3) (.box [.int .i64 0]) := ⟨_, rfl⟩
        rw [← hob6]
        have k6 : ∀ k, k < h.next → ob6.get k = ob4.get k := fun k hk => by rw [hob6, Tr.get_put_other _ _ (by omega), Tr.get_put_other _ _ (by omega)]; exact yk k hk
        refine ⟨rfl, .inr rfl, _, defs_mark (by rw [get_mk, hob6, Tr.get_put_other _ _ (by omega), Tr.get_put_other _ _ (by omega)]; exact ym), [.bool ch', .int .i64 0], ?_, ?_⟩
        · have z4 : (ob6.put (nx1 + 3) (.dfd true)).get (h.next + 2) = some (.box [.bool ch']) := by rw [Tr.get_put_other _ _ (by omega), hob6, Tr.get_put_other _ _ (by omega), Tr.get_put_same]
          have z5 : (ob6.put (nx1 + 3) (.dfd true)).get (h.next + 3) = some (.box [.int .i64 0]) := by rw [Tr.get_put_other _ _ (by omega), hob6, Tr.get_put_same]
          simp only [go_sem, Nat.reduceEqDiff, r99, t4, t5, z4, z5]
        · have kk : ∀ k, k < h.next → (ob6.put (nx1 + 3) (.dfd true)).get k = ob4.get k := fun k hk => by rw [Tr.get_put_other _ _ (by omega)]; exact k6 k hk
          refine vr99 kV_lt (fun k y1 y2 => (kk k y1).trans (keep k y1 y2)) ?_ ?_ (by rw [one_2, frz_tupS]; simp only [List.map_cons, List.map_nil, frz_int, frz_bool]) ⟨rfl, vv.mono (Nat.le_refl _) (kk _ kV_lt), ?_⟩
          · exact le_minN (by omega) (le_minN (by omega) (le_minN (by omega) (le_minN (by omega) low')))
          · show h.next ≤ nx4; omega
          · rcases kpv with q | q
            · exact .inl ((kk _ kV_lt).trans q)
            · exact .inr (Nat.le_trans (minN_le_r _ _) (Nat.le_trans (minN_le_r _ _) (Nat.le_trans (minN_le_r _ _) (Nat.le_trans (minN_le_r _ _) q))))
    exact main _ (by simp only [go_sem, Nat.reduceEqDiff]) (by simp only [go_sem, Nat.reduceEqDiff]) (by simp only [go_sem, Nat.reduceEqDiff]) (by simp only [go_sem, Nat.reduceEqDiff]) (by simp only [go_sem, Nat.reduceEqDiff]) (by simp only [go_sem])
  · have hz : decide ((repR low vals).2 = 0) = false := decide_eq_false he
    have evis : visP low high vals = none := if_neg he
    have y4 : ob2.get (h.next + 1 + 1) = some (.box [.bool false]) := (k2 _ (by omega)).trans g4
    have y5 : ob2.get (h.next + 1 + 1 + 1) = some (.box [.int .i64 0]) := (k2 _ (by omega)).trans g5
    rw [evis]
    simp only [go_sem, Nat.reduceEqDiff, hz, y4, y5, n7]
    obtain ⟨ob6, hob6⟩ : ∃ ob6, ob6 = (ob2.put (h.next + 1 + 1) (.box [.bool false])).put (h.next + 1 + 1 + 1) (.box [.int .i64 15]) := ⟨_, rfl⟩
    rw [← hob6]
    have z4 : ob6.get (h.next + 1 + 1) = some (.box [.bool false]) := by rw [hob6, Tr.get_put_other _ _ (by omega), Tr.get_put_same]
    have z5 : ob6.get (h.next + 1 + 1 + 1) = some (.box [.int .i64 15]) := by rw [hob6, Tr.get_put_same]
    refine ⟨rfl, .inr rfl, _, rfl, [.bool false, .int .i64 15], by simp only [go_sem, Nat.reduceEqDiff, r99, z4, z5], vr99 kV_lt (fun k y1 y2 => ?_) ?_ ?_ (by rw [one_2, frz_tupS]; simp only [List.map_cons, List.map_nil, frz_int, frz_bool]) rfl⟩
    · rw [get_mk, hob6, Tr.get_put_other _ _ (by omega), Tr.get_put_other _ _ (by omega), k2 _ (by omega)]; exact gk k y1
    · exact le_minN (by omega) (le_minN (by omega) (le_minN (by omega) (by omega)))
    · show h.next ≤ nx1 + 1; omega
theorem c99 {K : CallF} (hK : Runs K) (hv : KV K) (hs : KS K) (m0 : Nat) (kV : Nat) (low high : LL) (al ah : AV) (Vl Vh : AV) (vals : List LL) (h : AH) (eal : al = .agg [.int .i64 low.c, Vl]) (eah : ah = .agg [.int .i64 high.c, Vh]) (hal : Lv al low) (hah : Lv ah high) (hS : VS kV vals h)
    (v1 : VL low) (v2 : VL high) (s1 : Sc vals.length low) (s2 : Sc vals.length high) (l1 : low.vars.length ≤ 10) (l2 : high.vars.length ≤ 10) (hp : ∀ y ∈ vals, Pm y) (hn : vals.length ≤ 5000) :
    ∃ v h', cK K (m0 + 13) (.fn 99 [] []) [.row kV 0 2 0 vals.length, .agg [.int .i64 low.c, Vl, .int .i64 high.c, Vh]] .no h = some (.ret v, .no, h') ∧ Vr kV h (visP low high vals) v h' := by
  rw [cK_run hK _ 99]
  exact call99 hK hv hs m0 kV low high al ah Vl Vh vals h eal eah hal hah hS v1 v2 s1 s2 l1 l2 hp hn
attribute [local go_sem] RD_max RD_lookup birth_lookup build_1i build_2i build_p1
def I55a (kV n : Nat) (bs : List (LL × LL)) (h0 : AH) (j : Nat) (fr : AF) (h : AH) : Prop := ∃ tm vals, fr = ⟨tm, ⟨[], .no, none, 55⟩⟩ ∧ J57 kV h0 h vals ∧ (∀ y ∈ vals, Pm y) ∧ vals.length = n ∧ j = 908 * n - wS vals ∧
  solP bs vals = solP bs (List.replicate n ⟨0, []⟩) ∧
  nth tm 1 = .lst (bs.map encBd) ∧ nth tm 9 = .row kV 0 2 0 n
def I55b (kV n : Nat) (bs : List (LL × LL)) (vals0 : List LL) (h0 : AH) (j : Nat) (fr : AF) (h : AH) : Prop := ∃ tm m vals again, m + j = bs.length ∧ fr = ⟨tm, ⟨[], .no, none, 55⟩⟩ ∧ J57 kV h0 h vals ∧ (∀ y ∈ vals, Pm y) ∧ vals.length = n ∧
  (bs.take m).foldl stepB (some (vals0, false)) = some (vals, again) ∧
  nth tm 1 = .lst (bs.map encBd) ∧ nth tm 9 = .row kV 0 2 0 n ∧ nth tm 10 = .bool again ∧ nth tm 27 = .lst (bs.map encBd) ∧ nth tm 28 = .int .i64 (bs.length : Int) ∧ nth tm 29 = .int .i64 (m : Int)
theorem call55 {K : CallF} (hK : Runs K) (hv : KV K) (hs : KS K) (m0 : Nat) (n : Nat) (bs : List (LL × LL)) (h : AH) (hn : n ≤ 30) (hbl : bs.length ≤ 100) (hb : ∀ b ∈ bs, Okb n b ∧ b.1.vars.length ≤ 10 ∧ b.2.vars.length ≤ 10)
    (h98 : ∀ H : AH, ∃ nx, H.next ≤ nx ∧ cK K (m0 + 13) (.fn 98 [] []) [.int .i64 (n : Int), .lst (bs.map encBd)] .no H = some (.ret (.tup [.int .i64 0, .int .i64 0]), .no, ⟨nx, H.low, H.objs⟩)) :
    ∃ v h', evFn EF (cK K (m0 + 13)) 30000 55 [.int .i64 (n : Int), .lst (bs.map encBd)] .no h = some (.ret v, .no, h') ∧ Gx (isSol (solP bs (List.replicate n ⟨0, []⟩))) h v h' := by
  refine evFn_H cf55 (pureF _) ?_
  unfold b55
  obtain ⟨nx1, w1, w2⟩ := h98 ⟨h.next, h.next, h.objs⟩
  have w1 : h.next ≤ nx1 := w1
  obtain ⟨H2, e2, vs2, z1, z2, z3⟩ := zero_VS n ⟨nx1, h.next, h.objs⟩ (by omega)
  have e2 : evMkSlice ⟨nx1, h.next, h.objs⟩ true 2 32 [.int .i64 0, .nils] (.int .i64 (n : Int)) (.int .i64 (n : Int)) = some (.row nx1 0 2 0 n, H2) := e2
  have vs2 : VS nx1 (List.replicate n ⟨0, []⟩) H2 := vs2
  have z1 : H2.next = nx1 + 1 := z1
  have z2 : ∀ k, k < nx1 → H2.get k = h.objs.get k := z2
  have z3 : H2.low = h.next := z3
  have hzp : ∀ y ∈ List.replicate n (⟨0, []⟩ : LL), Pm y := fun y hy => by rw [List.eq_of_mem_replicate hy]; exact Pm.zero
  simp only [go_sem, Nat.reduceEqDiff, reduceCtorEq, w2, e2]
  refine R_loop (I55a nx1 n bs h) (908 * n - wS (List.replicate n ⟨0, []⟩)) (by omega) ⟨_, List.replicate n ⟨0, []⟩, rfl, ⟨vs2, fun k hk => z2 k (by omega), by omega⟩, hzp, by simp, rfl, rfl, by simp only [go_sem, Nat.reduceEqDiff], by simp only [go_sem]⟩ ?_
  have hnV : h.next ≤ nx1 := w1
  clear vs2 z1 z2 z3 e2 w2 w1
  rintro j fr H ⟨tm, vals, rfl, J, hp, hl, hj, hs', t1, t9⟩
  unfold b55_7
  have hwm := wS_max hp
  have hlen : ∀ H, lenOf (.lst (bs.map encBd)) H 1 = some bs.length := fun H => by rw [len_lst, List.length_map]
  have hbk : ∀ b ∈ bs, Okb vals.length b := fun b hh => by rw [hl]; exact (hb b hh).1
  simp only [go_sem, Nat.reduceEqDiff, s55_6, t1, hlen]
  refine R_loop (I55b nx1 n bs vals h) bs.length (by omega) ⟨_, 0, vals, false, Nat.zero_add _, rfl, J, hp, hl, rfl, by simp only [go_sem, Nat.reduceEqDiff, t1], by simp only [go_sem, Nat.reduceEqDiff, t9], by simp only [go_sem, Nat.reduceEqDiff], by simp only [go_sem, Nat.reduceEqDiff], by simp only [go_sem, Nat.reduceEqDiff], by simp only [go_sem]; rfl⟩ ?_
  clear t1 t9 J
  rintro jj fr H ⟨tm, q, vals1, again, hq, rfl, J, hp1, hl1, hf, t1, t9, t10, t27, t28, t29⟩
  unfold b55_4
  simp only [go_sem, s55_3, t28, t29]
  refine sB_dec (fun hlt => ?_) (fun hge => ?_)
  · have hlt : q < bs.length := by omega
    obtain ⟨b, hbq⟩ : ∃ b, bs[q]? = some b := ⟨_, List.getElem?_eq_getElem hlt⟩
    have hw2 := wrap_succ q (by omega)
    obtain ⟨⟨o1, o2, o3, o4⟩, p1, p2⟩ := hb b (List.mem_of_getElem? hbq)
    rw [← hl1] at o3 o4 t9
    have ia := fun H => iaddr_map encBd_cells hbq .i64 H
    have ebd : encBd b = .agg [.int .i64 b.1.c, .lst (b.1.vars.map encV), .int .i64 b.2.c, .lst (b.2.vars.map encV)] := rfl
    rw [ebd] at ia
    obtain ⟨nx, lo, ob⟩ := H
    have hVlt : nx1 < nx := J.vs.lt
    have jlo : h.next ≤ lo := J.low
    obtain ⟨ob2, hob2⟩ : ∃ ob2, ob2 = (ob.put nx (.box [.int .i64 0, .nils, .int .i64 0, .nils])).put nx (.box [.int .i64 b.1.c, .lst (b.1.vars.map encV), .int .i64 b.2.c, .lst (b.2.vars.map encV)]) := ⟨_, rfl⟩
    have k2 : ∀ k, k < nx → ob2.get k = ob.get k := fun k hk => by rw [hob2, Tr.get_put_other _ _ (by omega), Tr.get_put_other _ _ (by omega)]
    have g12 : ob2.get nx = some (.box [.int .i64 b.1.c, .lst (b.1.vars.map encV), .int .i64 b.2.c, .lst (b.2.vars.map encV)]) := by rw [hob2, Tr.get_put_same]
    obtain ⟨v, h', c1, c2⟩ := c99 hK hv hs m0 nx1 b.1 b.2 _ _ (.lst (b.1.vars.map encV)) (.lst (b.2.vars.map encV)) vals1 ⟨nx + 1, minN nx lo, ob2⟩ rfl rfl (Lv_lst b.1.c b.1.vars) (Lv_lst b.2.c b.2.vars) (J.vs.mono (by show nx ≤ nx + 1; omega) (k2 _ hVlt)) o1 o2 o3 o4 p1 p2 hp1 (by omega)
    obtain ⟨⟨f1, f2, f3⟩, c2⟩ := c2
    have f1 : nx + 1 ≤ h'.next := f1
    have f2 : ∀ k, k < nx + 1 → k ≠ nx1 → h'.get k = ob2.get k := f2
    have f3 : ∀ b, b ≤ minN nx lo → b ≤ nx1 → b ≤ h'.low := f3
    have hfold : (bs.take (q + 1)).foldl stepB (some (vals, false)) = stepB (some (vals1, again)) b := by rw [take_succ_get hbq, List.foldl_append, hf]; rfl
    have hrest : passP bs vals = (bs.drop (q + 1)).foldl stepB (stepB (some (vals1, again)) b) := by
      unfold passP
      rw [← hfold, ← List.foldl_append, List.take_append_drop]
    have f3' : h.next ≤ h'.low := f3 h.next (by (repeat' (first | assumption | exact Nat.le_refl _ | apply le_minN)) <;> omega) hnV
    have jk : ∀ k, k < h.next → ob.get k = h.get k := J.keep
    simp only [go_sem, Nat.reduceEqDiff, Nat.reduceAdd, s55_2, t27, t29, ia]
    rw [← hob2]
    simp only [go_sem, Nat.reduceEqDiff, Nat.reduceAdd, s55_1, t9, g12, c1, s55_0]
    cases hvis : visP b.1 b.2 vals1 with
    | none =>
      rw [hvis] at c2
      have c2 : v = .tup [.bool false, .int .i64 15] := c2
      subst c2
      have hpn : passP bs vals = none := by rw [hrest, show stepB (some (vals1, again)) b = none by unfold stepB; simp only [hvis], stepB_none]
      have hsn : solP bs (List.replicate n ⟨0, []⟩) = none := by rw [← hs', solP_step hbk hp, hpn]
      rw [hsn]
      simp only [go_sem, Nat.reduceEqDiff, Int.reduceEq]
      refine HQ_gx (.inr rfl) f3' (by omega) (by simp only [go_sem, Nat.reduceEqDiff, r55]; rfl) ⟨(q : Int), ?_⟩
      show AG.frz 4 _ _ (.tup [.nils, .int .i64 (q : Int), .int .i64 15]) = _
      rw [frz_tupS]; simp only [List.map_cons, List.map_nil, frz_int, frz_nils]
    | some r =>
      obtain ⟨v1, ch⟩ := r
      rw [hvis] at c2
      obtain ⟨c2, c3⟩ : v = .tup [.bool ch, .int .i64 0] ∧ VS nx1 v1 h' := c2
      subst c2
      obtain ⟨g1, g2, g3⟩ := vis_grow o1 o2 o3 o4 hp1 hvis
      have g2 : v1.length = vals1.length := g2
      have hst : stepB (some (vals1, again)) b = some (v1, again || ch) := by unfold stepB; simp only [hvis]
      have JJ : J57 nx1 h h' v1 := ⟨c3, fun k hk => (f2 k (by omega) (by omega)).trans ((k2 k (by omega)).trans (jk k hk)), f3'⟩
      cases again with
      | true =>
        simp only [go_sem, Nat.reduceEqDiff, t10, t29, hw2]
        exact ⟨jj - 1, by omega, _, q + 1, v1, true, by omega, rfl, JJ, g1, by omega, by rw [hfold, hst, Bool.true_or], by simp only [go_sem, Nat.reduceEqDiff, t1], by simp only [go_sem, Nat.reduceEqDiff, t9, hl1], by simp only [go_sem, Nat.reduceEqDiff], by simp only [go_sem, Nat.reduceEqDiff, t27], by simp only [go_sem, Nat.reduceEqDiff, t28], by simp only [go_sem]⟩
      | false =>
        simp only [go_sem, Nat.reduceEqDiff, t10, t29, hw2]
        exact ⟨jj - 1, by omega, _, q + 1, v1, ch, by omega, rfl, JJ, g1, by omega, by rw [hfold, hst, Bool.false_or], by simp only [go_sem, Nat.reduceEqDiff, t1], by simp only [go_sem, Nat.reduceEqDiff, t9, hl1], by simp only [go_sem, Nat.reduceEqDiff], by simp only [go_sem, Nat.reduceEqDiff, t27], by simp only [go_sem, Nat.reduceEqDiff, t28], by simp only [go_sem]⟩
  · have hme : q = bs.length := by omega
    subst hme
    rw [List.take_length] at hf
    have hpass : passP bs vals = some (vals1, again) := hf
    obtain ⟨k1, k2, k3⟩ := fold_grow bs hbk hp hf
    have hstep := solP_step hbk hp
    rw [hpass] at hstep
    have hwm1 := wS_max hp1
    cases again with
    | true =>
      simp only [go_sem, Nat.reduceEqDiff, s55_5, t10]
      refine ⟨908 * n - wS vals1, ?_, _, vals1, rfl, J, hp1, hl1, rfl, ?_, by simp only [go_sem, Nat.reduceEqDiff, t1], by simp only [go_sem, Nat.reduceEqDiff, t9]⟩
      · rcases k3 with ⟨_, k⟩ | ⟨_, k⟩
        · cases k
        · have k : wS vals < wS vals1 := k
          rw [hl1] at hwm1
          omega
      · rw [← hs', hstep]
    | false =>
      have hs2 : some vals1 = solP bs (List.replicate n ⟨0, []⟩) := by rw [← hs', hstep]
      rw [← hs2]
      simp only [go_sem, Nat.reduceEqDiff, reduceCtorEq, s55_5, t10, t9]
      have := J.vs.lt
      refine HQ_gx (.inr rfl) J.low (by omega) (by simp only [go_sem, Nat.reduceEqDiff, r55]; rfl) ⟨AG.frz 3 H h.next (.row nx1 0 2 0 n), ?_, ?_⟩
      · show AG.frz 4 H h.next (.tup [.row nx1 0 2 0 n, .int .i64 0, .int .i64 0]) = _
        rw [frz_tupS]; simp only [List.map_cons, List.map_nil, frz_int]
      · rw [← hl1]; exact J.vs.frz hnV 0
theorem c55 {K : CallF} (hK : Runs K) (hv : KV K) (hs : KS K) (m0 : Nat) (n : Nat) (bs : List (LL × LL)) (h : AH) (hn : n ≤ 30) (hbl : bs.length ≤ 100) (hb : ∀ b ∈ bs, Okb n b ∧ b.1.vars.length ≤ 10 ∧ b.2.vars.length ≤ 10)
    (h98 : ∀ H : AH, ∃ nx, H.next ≤ nx ∧ cK K (m0 + 13) (.fn 98 [] []) [.int .i64 (n : Int), .lst (bs.map encBd)] .no H = some (.ret (.tup [.int .i64 0, .int .i64 0]), .no, ⟨nx, H.low, H.objs⟩)) :
    ∃ v nx, h.next ≤ nx ∧ cK K (m0 + 14) (.fn 55 [] []) [.int .i64 (n : Int), .lst (bs.map encBd)] .no h = some (.ret v, .no, ⟨nx, h.low, h.objs⟩) ∧ isSol (solP bs (List.replicate n ⟨0, []⟩)) v := by
  rw [cK_run hK _ 55]
  obtain ⟨v, h', e, g⟩ := call55 hK hv hs m0 n bs h hn hbl hb h98
  obtain ⟨nx, g1, rfl⟩ := Gx_eq g
  exact ⟨v, nx, g1, e, g.1⟩
theorem c57 {K : CallF} (hK : Runs K) (hv : KV K) (m0 : Nat) (n : Nat) (bs : List (LL × LL)) (h : AH) (hn : n ≤ 30) (hbl : bs.length ≤ 100) (hb : ∀ b ∈ bs, Okb n b ∧ b.1.vars.length ≤ 10 ∧ b.2.vars.length ≤ 10)
    (h50 : ∀ H : AH, ∃ nx, H.next ≤ nx ∧ cK K (m0 + 7) (.fn 50 [] []) [.int .i64 (n : Int), .lst (bs.map encBd)] .no H = some (.ret (.tup [.int .i64 0, .int .i64 0]), .no, ⟨nx, H.low, H.objs⟩)) :
    ∃ v nx, h.next ≤ nx ∧ cK K (m0 + 8) (.fn 57 [] []) [.int .i64 (n : Int), .lst (bs.map encBd)] .no h = some (.ret v, .no, ⟨nx, h.low, h.objs⟩) ∧ isSol (solP bs (List.replicate n ⟨0, []⟩)) v := by
  rw [cK_run hK _ 57]
  obtain ⟨v, h', e, g⟩ := call57 hK hv m0 n bs h hn hbl hb h50
  obtain ⟨nx, g1, rfl⟩ := Gx_eq g
  exact ⟨v, nx, g1, e, g.1⟩
end Go.Proofs.YtnacljdablhbgaaGreat
