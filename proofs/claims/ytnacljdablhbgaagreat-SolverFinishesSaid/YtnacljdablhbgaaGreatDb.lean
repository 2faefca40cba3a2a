/- SolverFinishes: newSum, add (no condition). -/
import Derived.Test.YtnacljdablhbgaaGreatDa
namespace Go.Proofs.YtnacljdablhbgaaGreat
open Go.AG
section
variable {call : CallF} {n : Nat} {d : Option Nat} {lo hi : Nat} {fin : Bool} {l all : List (AOper × DI)} {tm : Tm} {cx : AC} {h : AH} {nk : Nat} {hs : List AH} {rds : List AG.Rd} {k : List It} {Q : AEx → AF → AH → Prop}
theorem RD_max (az : List AX) {g : Option (Nat × Bool)} : RD call n ((⟨d, (.builtin .max az), g⟩, ⟨lo, hi, fin⟩) :: l) all tm cx h nk hs rds k Q = dC call n .still (wants g tm) d (.builtin .max az) lo hi fin l all tm cx h nk hs rds k Q := RD_step rfl (by intro e; cases e)
theorem RD_lookup (t : Nat) (z : AV) (x i : AX) (ok : Bool) {g : Option (Nat × Bool)} : RD call n ((⟨d, (.lookup t z x i ok), g⟩, ⟨lo, hi, fin⟩) :: l) all tm cx h nk hs rds k Q = dC call n .reads (wants g tm) d (.lookup t z x i ok) lo hi fin l all tm cx h nk hs rds k Q := RD_step rfl (by intro e; cases e)
theorem birth_lookup (t : Nat) (z : AV) (x i : AX) (ok : Bool) (h : AH) : birth (.lookup t z x i ok) h = h := (rfl)
end
attribute [local go_sem] RD_max RD_lookup birth_lookup
theorem build_1m (h : AH) (k : Nat) (n : Int) : evBuild h [.nilm, .int .i64 n] [(0, 1, .map k)] = .val (.agg [.map k, .int .i64 n]) h := (rfl)
theorem call164 (call : CallF) (n : Nat) (h : AH) :
    ∃ v h', evFn EF call n 164 [] .no h = some (.ret v, .no, h') ∧ v = .ptr (h.next + 1) 0 0 ∧ h'.next = h.next + 2 ∧ h'.low = h.low ∧ h'.get h.next = some (.map []) ∧ h'.get (h.next + 1) = some (.box [.map h.next, .int .i64 0]) ∧ ∀ k, k < h.next → h'.get k = h.get k := by
  refine evFn_I cf164 (by rfl) ?_
  unfold b164
  have hh : h = ⟨h.next, h.low, h.objs⟩ := rfl
  rw [hh]
  have n1 : ¬ (h.next = h.next + 1) := by omega
  simp only [go_sem, Nat.reduceAdd, s164_0, build_1m]
  refine ⟨rfl, rfl, .inr rfl, _, by simp only [go_sem, r164]; rfl, rfl, rfl, rfl, ?_, ?_, fun k hk => ?_⟩
  · simp only [go_sem, n1]
  · simp only [go_sem]
  · rw [get_mk, Tr.get_put_other _ _ (by omega), Tr.get_put_other _ _ (by omega)]
noncomputable def sl1 (h : AH) (sz : Nat) (x : AV) : Option (AV × AH) := bindO (slLen x) fun n => bindO (asBnd (.int .i64 1) n) fun l => cutAt x h sz l n
theorem slice_lo1 (h : AH) (sz : Nat) (x : AV) (tm : Tm) : evSlice h sz x tm (some (.c (.int .i64 1))) none none = sl1 h sz x := (rfl)
theorem sl1_at {V : AV} {es : List AV} {sz : Nat} (hV : V = .lst es ∨ V = .clip es) (hs : ∀ x ∈ es, x.cells.length = sz) (h : AH) (hne : es ≠ []) : sl1 h sz V = some (.lst (es.drop 1), h) := by
  have hl : 1 ≤ es.length := by
    cases es with
    | nil => exact absurd rfl hne
    | cons a l => simp
  have hb : asBnd (.int .i64 1) (len es) = some 1 := by
    show bindO (some 1) (fun m => cond (Nat.ble m (len es)) (some m) none) = _
    rw [bindO_some, len_eq, ble_t hl]; rfl
  have hsz : sized sz es = true := (sized_iff sz es).2 hs
  have key : bindO (asBnd (.int .i64 1) (len es)) (fun l => cond (sized sz es) (some (AV.lst (tke (Nat.sub (len es) l) (drp l es)), h)) none) = some (.lst (es.drop 1), h) := by
    rw [hb, bindO_some, hsz, cond_true, tke_eq, drp_eq, len_eq]
    congr 3
    exact List.take_of_length_le (by simp)
  rcases hV with rfl | rfl
  · exact key
  · exact key
structure Cs (V : AV) (vs : List LV) : Prop where
  len : ∀ h, lenOf V h 1 = some vs.length
  ia : ∀ (i : Nat) y, vs[i]? = some y → ∀ h, evIaddr V h 2 (.int .i64 (i : Int)) = .val (.vptr (encV y)) h
  sl : ∀ h, vs ≠ [] → sl1 h 2 V = some (.lst ((vs.drop 1).map encV), h)
  cell : V.cells = [V]
  lies : V.lies = true
  bq : AV.beq V V = true
theorem Cs_lst (vs : List LV) : Cs (.lst (vs.map encV)) vs :=
  ⟨fun h => by rw [len_lst, List.length_map], fun i y e h => iaddr_map encV_cells e .i64 h, fun h hne => by
    rw [sl1_at (.inl rfl) (fun x hx => by obtain ⟨y, _, rfl⟩ := List.mem_map.1 hx; rfl) h (by simpa using hne), List.map_drop], rfl, rfl, beq_free (by simp [AV.free, frees_map encV_free])⟩
structure Lv (a : AV) (x : LL) : Prop where
  ex : ∃ V, a = .agg [.int .i64 x.c, V] ∧ V.norm = .lst (x.vars.map encV) ∧ V.cells = [V] ∧ V.lies = true ∧ (∀ m h b, frz m h b V = V) ∧ (∀ b h, Rd encV 2 b h V x.vars) ∧ ∀ (i : Nat) y, x.vars[i]? = some y → ∀ h, evIaddr V h 2 (.int .i64 (i : Int)) = .val (.vptr (encV y)) h
  cs : ∀ V, a = .agg [.int .i64 x.c, V] → Cs V x.vars ∧ ∀ h, evBox h 1 V = .val (.ptr h.next 0 0) (h.new (.box [V]))
theorem Lv.norm {a : AV} {x : LL} (h : Lv a x) : a.norm = encL x := by
  obtain ⟨V, rfl, hn, _⟩ := h.ex
  simp [AV.norm, AV.norms, encL, hn]
structure SumAt (ks km : Nat) (c : Int) (L : Es) (h : AH) : Prop where
  s : h.get ks = some (.box [.map km, .int .i64 c])
  m : h.get km = some (.map (mp L))
  ls : ks < h.next
  lm : km < h.next
  ne : ks ≠ km
def addE (L : Es) (vs : List LV) (n : Int) : Es := vs.foldl (fun L x => raiseE L x.idx (x.plus + n)) L
def I165 (ks km : Nat) (c : Int) (V : AV) (vs : List LV) (nn : Int) (L : Es) (h0 : AH) (j : Nat) (fr : AF) (h : AH) : Prop := ∃ tm m, m + j = vs.length ∧ fr = ⟨tm, ⟨[], .no, none, 165⟩⟩ ∧
    SumAt ks km c (addE L (vs.take m) nn) h ∧ (∀ k, k < h0.next → k ≠ ks → k ≠ km → h.get k = h0.get k) ∧ h0.next < h.next ∧ (∀ b, b ≤ h0.next → b ≤ ks → b ≤ km → b ≤ h.low) ∧ h.low ≤ ks ∧
    nth tm 0 = .ptr ks 0 0 ∧ nth tm 2 = .int .i64 nn ∧ nth tm 21 = V ∧ nth tm 22 = .int .i64 (vs.length : Int) ∧ nth tm 23 = .int .i64 (m : Int)
theorem take_succ_get {α : Type} {l : List α} {m : Nat} {x : α} (h : l[m]? = some x) : l.take (m + 1) = l.take m ++ [x] := by
  rw [List.take_add_one, h]; rfl
theorem call165 (call : CallF) (n : Nat) (ks km : Nat) (c : Int) (L : Es) (cl : Int) (V : AV) (vs : List LV) (nn : Int) (h : AH) (hs : SumAt ks km c L h) (hV : Rd encV 2 h.next h V vs) (hVo : ∀ b h, Rd encV 2 b h V vs)
    (hn : vs.length < n) (hl : vs.length < 30000) (b1 : 0 ≤ cl ∧ cl ≤ 1000) (b2 : 0 ≤ nn ∧ nn ≤ 1000) (b3 : ∀ x ∈ vs, 0 ≤ x.plus ∧ x.plus ≤ 1000)
    (h166 : ∀ L i p h, h.get km = some (.map (mp L)) → km < h.next → ∃ v h', call (.fn 166 [] []) [.map km, .int .i64 i, .int .i64 p] .no h = some (.ret v, .no, h') ∧ v = .tup [] ∧ h'.get km = some (.map (mp (raiseE L i p))) ∧ h.next ≤ h'.next ∧ (∀ k, k ≠ km → h'.get k = h.get k) ∧ (∀ b, b ≤ h.low → b ≤ km → b ≤ h'.low) ∧ h'.low ≤ h.low) :
    ∃ v h', evFn EF call n 165 [.ptr ks 0 0, .agg [.int .i64 cl, V], .int .i64 nn] .no h = some (.ret v, .no, h') ∧ v = .tup [] ∧ SumAt ks km (max c (cl + nn)) (addE L vs nn) h' ∧ Ch ks km h h' ∧ h'.low ≤ h.low := by
  refine evFn_H cf165 (pureF _) ?_
  unfold b165
  have hc := hV.cell
  have hli := hV.lies
  have hlen := hV.len
  obtain ⟨g1, g2, l1, l2, ne⟩ := hs
  have n1 : ¬ (ks = h.next) := by omega
  have n2 : ¬ (km = h.next) := by omega
  have n3 : ¬ (h.next = ks) := by omega
  have ne' : ¬ (km = ks) := fun e => ne e.symm
  have g1 : h.objs.get ks = some (.box [.map km, .int .i64 c]) := g1
  have g2 : h.objs.get km = some (.map (mp L)) := g2
  have hw : IntKind.wrap .i64 (cl + nn) = cl + nn := wrap_fits _ (by omega) (by omega)
  simp only [go_sem, Nat.reduceEqDiff, Nat.reduceAdd, reduceCtorEq, s165_4, s165_3, hlen, n1, n3, g1, hw]
  refine R_loop (I165 ks km (max c (cl + nn)) V vs nn L h) vs.length hn ⟨_, 0, Nat.zero_add _, rfl, ⟨?_, ?_, ?_, ?_, ne⟩, ?_, ?_, ?_, ?_, ?_, ?_, ?_, ?_, ?_⟩ ?_
  · simp only [go_sem]
  · simp only [go_sem, n2, ne', g2, addE, List.take_zero, List.foldl_nil]
  · show ks < h.next + 1; omega
  · show km < h.next + 1; omega
  · intro k h1 h2 h3
    rw [get_mk, Tr.get_put_other _ _ h2, Tr.get_put_other _ _ (by omega)]; rfl
  · show h.next < h.next + 1; omega
  · intro b h1 h2 h3
    exact le_minN h2 h1
  · exact minN_le _ _
  · simp only [go_sem, reduceCtorEq]
  · simp only [go_sem, Nat.reduceEqDiff]
  · simp only [go_sem, Nat.reduceEqDiff]
  · simp only [go_sem, Nat.reduceEqDiff]
  · simp only [go_sem]; rfl
  rintro j fr H ⟨tm, m, hm, rfl, hS, hk, hnx, hlow, hlo, t0, t2, t21, t22, t23⟩
  unfold b165_2
  obtain ⟨s1, s2, s3, s4, _⟩ := hS
  obtain ⟨nx, lo, ob⟩ := H
  have s1 : ob.get ks = some (.box [.map km, .int .i64 (max c (cl + nn))]) := s1
  have s2 : ob.get km = some (.map (mp (addE L (vs.take m) nn))) := s2
  have s3 : ks < nx := s3
  have s4 : km < nx := s4
  have hnx : h.next < nx := hnx
  have hlo : lo ≤ ks := hlo
  simp only [go_sem, s165_1, t22, t23]
  refine sB_dec (fun hlt => ?_) (fun hge => ?_)
  · have hlt : m < vs.length := by omega
    have hget : vs[m]? = some vs[m] := List.getElem?_eq_getElem hlt
    obtain ⟨p', hp'⟩ := (hVo nx ⟨nx, lo, ob⟩).get m _ hget
    have ha := (hp' ⟨nx, lo, ob⟩ (fun _ _ => rfl)).1
    have hb := (hp' ⟨nx, lo, ob⟩ (fun _ _ => rfl)).2
    have hw2 := wrap_succ m (by omega)
    have hv : encV vs[m] = .agg [.int .i64 vs[m].idx, .int .i64 vs[m].plus] := rfl
    rw [hv] at hb
    have hpl := b3 vs[m] (List.getElem_mem hlt)
    have hw3 : IntKind.wrap .i64 (vs[m].plus + nn) = vs[m].plus + nn := wrap_fits _ (by omega) (by omega)
    have n4 : ¬ (ks = nx) := by omega
    have n5 : ¬ (km = nx) := by omega
    obtain ⟨v, h', e1, rfl, f1, f2, f3, f4, f5⟩ := h166 (addE L (vs.take m) nn) vs[m].idx (vs[m].plus + nn) ⟨nx + 1, minN nx lo, (ob.put nx (.box [.int .i64 0, .int .i64 0])).put nx (.box [.int .i64 vs[m].idx, .int .i64 vs[m].plus])⟩
      (by simp only [go_sem, n5, s2]) (by show km < nx + 1; omega)
    simp only [go_sem, Nat.reduceEqDiff, Nat.reduceAdd, reduceCtorEq, s165_0, t0, t2, t21, t23, ha, hb, n4, s1, hw3, e1, hw2]
    have f2 : nx + 1 ≤ h'.next := f2
    refine ⟨j - 1, by omega, _, m + 1, by omega, rfl, ⟨?_, ?_, by omega, by omega, ne⟩, ?_, by omega, ?_, ?_, by simp only [go_sem, reduceCtorEq, t0], by simp only [go_sem, Nat.reduceEqDiff, t2], by simp only [go_sem, Nat.reduceEqDiff, t21], by simp only [go_sem, Nat.reduceEqDiff, t22], by simp only [go_sem]⟩
    · rw [f3 ks ne]; simp only [go_sem, n4, s1]
    · rw [f1, take_succ_get hget]; simp only [addE, List.foldl_append, List.foldl_cons, List.foldl_nil]
    · intro k h1 h2 h3
      rw [f3 k h3, get_mk, Tr.get_put_other _ _ (by omega), Tr.get_put_other _ _ (by omega)]
      exact hk k h1 h2 h3
    · intro b h1 h2 h3
      exact f4 b (le_minN (by omega) (hlow b h1 h2 h3)) h3
    · have : minN nx lo ≤ lo := minN_le_r _ _
      have f5 : h'.low ≤ minN nx lo := f5
      omega
  · have : m = vs.length := by omega
    subst this
    rw [List.take_length] at s2
    simp only [go_sem]
    refine HQ_turn (.inl rfl) ?_ (by simp only [go_sem, r165]; rfl) ⟨rfl, ⟨s1, s2, s3, s4, ne⟩, ⟨by show h.next ≤ nx; omega, fun k h1 h2 h3 => hk k h1 h2 h3, fun x h1 h2 h3 => ?_⟩, ?_⟩
    · show ¬ h.next ≤ lo; omega
    · exact le_minN (hlow x (by omega) h2 h3) h1
    · exact minN_le_r _ _
attribute [local go_sem] RD_max RD_lookup birth_lookup
theorem flat_get {sz : Nat} {x : AV} : ∀ {out : List AV} {i : Nat}, (∀ y ∈ out, y.cells.length = sz) → out[i]? = some x → ((flat out).drop (i * sz)).take sz = x.cells
  | y :: l, 0, h, e => by
    have e : y = x := by simpa using e
    subst e
    rw [Nat.zero_mul, List.drop_zero, flat_cons, ← h y (by simp), List.take_left' rfl]
  | y :: l, i + 1, h, e => by
    have ih := flat_get (out := l) (i := i) (fun z hz => h z (by simp [hz])) (by simpa using e)
    have hy := h y (by simp)
    rw [flat_cons, show (i + 1) * sz = y.cells.length + i * sz by rw [hy, Nat.succ_mul]; omega, ← List.drop_drop, List.drop_left' rfl]
    exact ih
theorem own_Rd {base : Nat} {h : AH} {v : AV} {vs : List LV} (o : Own base 2 true h v (vs.map encV)) : Rd encV 2 h.next h v vs := by
  obtain ⟨o1, ⟨rfl, e⟩ | ⟨k, g, rfl, hk, hlt, hbk⟩⟩ := o
  · have : vs = [] := by simpa using e
    subst this
    exact ⟨fun h => rfl, fun i x e => by simp at e, rfl, rfl, fun m h b _ => frz_nils m b⟩
  · refine ⟨fun h => by rw [len_row, List.length_map], fun i x e => ⟨.ptr k g (i * 2), fun H hH => ⟨?_, ?_⟩⟩, rfl, rfl, fun m H b hb => ?_⟩
    · show okV (cond (Nat.beq 2 2) (bindO (bindO (some i) fun m => cond (Nat.blt m (vs.map encV).length) (some m) none) fun n => some (.ptr k g (Nat.mul (Nat.add 0 n) 2))) none) H = _
      have hi : i < (vs.map encV).length := by
        rw [List.length_map]
        rcases Nat.lt_or_ge i vs.length with q | q
        · exact q
        · rw [List.getElem?_eq_none q] at e; cases e
      have hb : Nat.blt i (vs.map encV).length = true := Nat.ble_eq_true_of_le hi
      rw [bindO_some, hb]
      show OpR.val (.ptr k g (Nat.mul (Nat.add 0 i) 2)) H = _
      congr 2
      show (0 + i) * 2 = i * 2
      omega
    · have ex : (vs.map encV)[i]? = some (encV x) := by rw [List.getElem?_map, e]; rfl
      have hf := flat_get (sz := 2) (fun y hy => (o1 y hy).1) ex
      have hi : i < (vs.map encV).length := (List.getElem?_eq_some_iff.1 ex).1
      have hl := flat_len (fun y hy => (o1 y hy).1)
      rw [load_ptr, hH k hlt, hk, bindO_some, loadAt_row, grab_A _ _ _ (by rw [hl]; omega), hf]; rfl
    · cases m with
      | zero => rfl
      | succ m =>
        show cond (Nat.ble b k) _ _ = _
        have : Nat.ble b k = false := by
          cases hb' : Nat.ble b k with
          | false => rfl
          | true => exact absurd (ble_le hb') (by omega)
        rw [this]; rfl
theorem Rd_nils (b : Nat) (h : AH) : Rd encV 2 b h .nils [] := ⟨fun h => rfl, fun i x e => by simp at e, rfl, rfl, fun m h b _ => frz_nils m b⟩
theorem encV_norms (vs : List LV) : AV.norms (vs.map encV) = vs.map encV := by
  induction vs with
  | nil => rfl
  | cons x l ih => rw [List.map_cons, AV.norms, ih]; rfl
theorem Lv_lst (c : Int) (vs : List LV) : Lv (.agg [.int .i64 c, .lst (vs.map encV)]) ⟨c, vs⟩ := ⟨⟨_, rfl, by rw [AV.norm, encV_norms], rfl, rfl, fun m h b => frz_lst m b _, fun b h => Rd.lst encV_cells (fun _ => rfl) vs, fun i y e h => iaddr_map encV_cells e .i64 h⟩, fun V e => by cases e; exact ⟨Cs_lst vs, fun _ => rfl⟩⟩
theorem Lv_nils (c : Int) : Lv (.agg [.int .i64 c, .nils]) ⟨c, []⟩ := ⟨⟨_, rfl, by simp [AV.norm], rfl, rfl, fun m h b => frz_nils m b, Rd_nils, fun i y e h => by simp at e⟩, fun V e => by cases e; exact ⟨⟨fun _ => rfl, fun i y e => by simp at e, fun h hne => absurd rfl hne, rfl, rfl, by simp [AV.beq]⟩, fun _ => rfl⟩⟩
theorem encV_frz (m : Nat) (h : AH) (b : Nat) (x : LV) : frz m h b (encV x) = encV x := by
  cases m with
  | zero => rfl
  | succ m => unfold encV; rw [frz_aggS]; simp only [List.map_cons, List.map_nil, frz_int]
theorem call210 (call : CallF) (n : Nat) (V : AV) (_hc : V.cells = [V]) (_hl : V.lies = true) (h : AH) (hb : evBox ⟨h.next, h.low, h.objs⟩ 1 V = .val (.ptr h.next 0 0) (AH.new ⟨h.next, h.low, h.objs⟩ (.box [V]))) :
    ∃ v h', evFn EF call n 210 [V] .no h = some (.ret v, .no, h') ∧ v = .fn 254 [] [.ptr h.next 0 0] ∧ h'.next = h.next + 1 ∧ h'.low = h.low ∧ h'.get h.next = some (.box [V]) ∧ ∀ k, k < h.next → h'.get k = h.get k := by
  refine evFn_I cf210 (by rfl) ?_
  unfold b210
  have hh : h = ⟨h.next, h.low, h.objs⟩ := rfl
  rw [hh]
  simp only [go_sem, Nat.reduceEqDiff, hb, s210_0]
  refine ⟨rfl, rfl, .inr rfl, _, by simp only [go_sem, r210]; rfl, rfl, rfl, rfl, ?_, fun k hk => ?_⟩
  · simp only [go_sem]
  · rw [get_mk, Tr.get_put_other _ _ (by omega)]
theorem c210 {K : CallF} (hK : Runs K) (m : Nat) (km : Nat) (h : AH) : ∃ h', cK K (m + 1) (.fn 210 [] []) [.map km] .no h = some (.ret (.fn 254 [] [.ptr h.next 0 0]), .no, h') ∧ h'.next = h.next + 1 ∧ h'.low = h.low ∧ h'.get h.next = some (.box [.map km]) ∧ ∀ k, k < h.next → h'.get k = h.get k := by
  rw [cK_run hK _ 210]
  obtain ⟨v, h', e, rfl, r⟩ := call210 (cK K m) 30000 (.map km) rfl rfl h rfl
  exact ⟨h', e, r⟩
def keysE (L : Es) : List Int := sorted (L.map (·.1))
def lvs (L : Es) (l : List Int) : List LV := l.map fun i => ⟨i, (look L i).getD 0⟩
def limR (c : Int) (vs : List LV) : LL × Int := cond (big ⟨c, vs⟩) (⟨0, []⟩, 15) (⟨cond (covd ⟨c, vs⟩) 0 c, vs⟩, 0)
def sumR (c : Int) (L : Es) : LL × Int := limR c (lvs L (keysE L))
def isLv (r : LL × Int) (v : AV) : Prop := ∃ a, v = .tup [a, .int .i64 r.2] ∧ Lv a r.1
def I167 (ks _km : Nat) (c : Int) (L : Es) (h0 : AH) (j : Nat) (fr : AF) (h : AH) : Prop := ∃ tm m v, m + j = (keysE L).length ∧ fr = ⟨tm, ⟨[], .no, none, 167⟩⟩ ∧
    h0.next + 2 ≤ h.next ∧ h0.next ≤ h.low ∧ (∀ k, k < h0.next → h.get k = h0.get k) ∧ h.get h0.next = some (.box [.int .i64 0, .nils]) ∧ h.get (h0.next + 1) = some (.box [.int .i64 c, v]) ∧
    Own (h0.next + 2) 2 true h v ((lvs L ((keysE L).take m)).map encV) ∧
    nth tm 0 = .ptr ks 0 0 ∧ nth tm 2 = .ptr h0.next 0 0 ∧ nth tm 4 = .ptr (h0.next + 1) 0 0 ∧ nth tm 17 = .lst ((keysE L).map AG.encI) ∧ nth tm 18 = .int .i64 ((keysE L).length : Int) ∧ nth tm 19 = .int .i64 (m : Int)
theorem build_1i (h : AH) (k : IntKind) (x y : Int) : evBuild h [.int .i64 y, .nils] [(0, 1, .int k x)] = .val (.agg [.int k x, .nils]) h := (rfl)
theorem build_2i (h : AH) (k k' : IntKind) (x y a b : Int) : evBuild h [.int .i64 a, .int .i64 b] [(0, 1, .int k x), (1, 1, .int k' y)] = .val (.agg [.int k x, .int k' y]) h := (rfl)
theorem look_mem : ∀ {L : Es} {i : Int}, i ∈ L.map (·.1) → ∃ o, look L i = some o
  | [], i, h => by simp at h
  | e :: L, i, h => by
    rw [look]
    by_cases hi : i = e.1
    · exact ⟨e.2, by rw [if_pos hi]⟩
    · rw [if_neg hi]
      rw [List.map_cons, List.mem_cons] at h
      exact look_mem (h.resolve_left hi)
theorem keysE_mem {L : Es} {i : Int} (h : i ∈ keysE L) : ∃ o, look L i = some o := look_mem ((List.mergeSort_perm _ _).mem_iff.1 h)
theorem c167 {K : CallF} (hK : Runs K) (m : Nat) (ks km : Nat) (c : Int) (L : Es) (h : AH) (hs : SumAt ks km c L h) (hl : L.length < 30000)
    (h209 : ∀ (H : AH) kb, H.get kb = some (.box [.map km]) → H.get km = some (.map (mp L)) → kb < H.next → cK K (m + 6) (.fn 209 [] []) [.fn 254 [] [.ptr kb 0 0]] .no H = some (.ret (.lst ((keysE L).map AG.encI)), .no, H)) :
    ∃ v h', evFn EF (cK K (m + 6)) 30000 167 [.ptr ks 0 0] .no h = some (.ret v, .no, h') ∧ Gx (isLv (sumR c L)) h v h' := by
  obtain ⟨g1, g2, l1, l2, ne⟩ := hs
  have hlk : (keysE L).length = L.length := by unfold keysE; rw [(sortMem _).2, List.length_map]
  refine evFn_H cf167 (pureF _) ?_
  unfold b167
  have g1' : h.objs.get ks = some (.box [.map km, .int .i64 c]) := g1
  have g2' : h.objs.get km = some (.map (mp L)) := g2
  have n1 : ¬ (ks = h.next) := by omega
  have n2 : ¬ (ks = h.next + 1) := by omega
  have n3 : ¬ (km = h.next) := by omega
  have n4 : ¬ (km = h.next + 1) := by omega
  have n5 : ¬ (h.next = h.next + 1) := by omega
  simp only [go_sem, Nat.reduceEqDiff, Nat.reduceAdd, reduceCtorEq, s167_5, n1, g1', build_1i, s167_4]
  obtain ⟨ob, hob⟩ : ∃ ob, ob = ((h.objs.put h.next (.box [.int .i64 0, .nils])).put (h.next + 1) (.box [.int .i64 0, .nils])).put (h.next + 1) (.box [.int .i64 c, .nils]) := ⟨_, rfl⟩
  rw [← hob]
  have G1 : ob.get ks = some (.box [.map km, .int .i64 c]) := by simp only [hob, go_sem, n1, n2, g1']
  have G2 : ob.get km = some (.map (mp L)) := by simp only [hob, go_sem, n3, n4, g2']
  have G3 : ob.get h.next = some (.box [.int .i64 0, .nils]) := by simp only [hob, go_sem, n5]
  have G4 : ob.get (h.next + 1) = some (.box [.int .i64 c, .nils]) := by simp only [hob, go_sem]
  have G5 : ∀ k, k < h.next → ob.get k = h.objs.get k := fun k hk => by rw [hob, Tr.get_put_other _ _ (by omega), Tr.get_put_other _ _ (by omega), Tr.get_put_other _ _ (by omega)]
  obtain ⟨H2, e1, q1, q2, q3, q4⟩ := c210 hK (m + 5) km ⟨h.next + 1 + 1, minN (h.next + 1) h.next, ob⟩
  have q1 : H2.next = h.next + 1 + 1 + 1 := q1
  have q2 : H2.low = minN (h.next + 1) h.next := q2
  have q4 : ∀ k, k < h.next + 1 + 1 → H2.get k = ob.get k := q4
  have e2 := h209 H2 (h.next + 1 + 1) q3 (by rw [q4 km (by omega)]; exact G2) (by omega)
  have hlen : ∀ H, lenOf (.lst ((keysE L).map AG.encI)) H 1 = some (keysE L).length := fun H => by rw [len_lst, List.length_map]
  simp only [go_sem, G1, e1, e2, hlen]
  refine R_loop (I167 ks km c L h) (keysE L).length (by omega) ⟨_, 0, .nils, Nat.zero_add _, rfl, by omega, by rw [q2]; exact (by (repeat' (first | assumption | exact Nat.le_refl _ | apply le_minN)) <;> omega), fun k hk => by rw [q4 k (by omega)]; exact G5 k hk, by rw [q4 _ (by omega)]; exact G3, by rw [q4 _ (by omega)]; exact G4, own_nil _ _ _ _, by simp only [go_sem, reduceCtorEq], by simp only [go_sem, Nat.reduceEqDiff], by simp only [go_sem, Nat.reduceEqDiff], by simp only [go_sem, Nat.reduceEqDiff], by simp only [go_sem, Nat.reduceEqDiff], by simp only [go_sem]; rfl⟩ ?_
  rintro j fr H ⟨tm, q, v, hq, rfl, hn, hlo, hk, k1, k2, ho, t0, t2, t4, t17, t18, t19⟩
  obtain ⟨nx, lo, ob2⟩ := H
  have hn : h.next + 2 ≤ nx := hn
  have hlo : h.next ≤ lo := hlo
  have k1 : ob2.get h.next = some (.box [.int .i64 0, .nils]) := k1
  have k2 : ob2.get (h.next + 1) = some (.box [.int .i64 c, v]) := k2
  have hks : ob2.get ks = some (.box [.map km, .int .i64 c]) := (hk ks l1).trans g1
  have hkm : ob2.get km = some (.map (mp L)) := (hk km l2).trans g2
  unfold b167_2
  simp only [go_sem, s167_1, t18, t19]
  refine sB_dec (fun hlt => ?_) (fun hge => ?_)
  · have hlt : q < (keysE L).length := by omega
    have hget : (keysE L)[q]? = some (keysE L)[q] := List.getElem?_eq_getElem hlt
    have ha := fun h => iaddr_map (f := AG.encI) (sz := 1) (fun _ => rfl) hget .i64 h
    have hw2 := wrap_succ q (by omega)
    obtain ⟨o, hlook⟩ := keysE_mem (List.getElem_mem hlt)
    have hlu := lookup_mp (h := ⟨nx, lo, ob2⟩) (km := km) hkm (keysE L)[q] false
    rw [hlook] at hlu
    have hei : AG.encI (keysE L)[q] = .int .i64 (keysE L)[q] := rfl
    obtain ⟨v', h', a1, a2, a3, a4, a5, a6, a7, a8⟩ := own_append (bytes := 16) (z := [.int .i64 0, .int .i64 0]) ho (by show h.next + 2 ≤ nx; omega) rfl (x := encV ⟨(keysE L)[q], o⟩) rfl rfl rfl (by simp [lvs]; omega) (by omega)
    have a1 : evAppend ⟨nx, lo, ob2⟩ 2 true [.int .i64 0, .int .i64 0] 16 v (.clip [.agg [.int .i64 (keysE L)[q], .int .i64 o]]) = some (v', h') := a1
    have ev : (lvs L ((keysE L).take (q + 1))).map encV = (lvs L ((keysE L).take q)).map encV ++ [encV ⟨(keysE L)[q], o⟩] := by
      rw [take_succ_get hget]; unfold lvs; rw [List.map_append, List.map_append]; simp only [List.map_cons, List.map_nil, hlook, Option.getD_some]
    rw [← ev] at a2
    have rd := own_Rd a2
    have hvc := rd.cell
    have hvl := rd.lies
    obtain ⟨nx', lo', ob3⟩ := h'
    have a3 : nx ≤ nx' := a3
    have a4 : ∀ k, k < h.next + 2 → ob3.get k = ob2.get k := a4
    have b4 : ob3.get (h.next + 1) = some (.box [.int .i64 c, v]) := (a4 _ (by omega)).trans k2
    have alo : h.next ≤ lo' := a5 h.next (by omega) hlo
    have hlu' : evLookup ⟨nx, lo, ob2⟩ 1 (.int .i64 0) false (.map km) (.int .i64 (keysE L)[q]) = some (.int .i64 o) := hlu
    simp only [go_sem, Nat.reduceEqDiff, Nat.reduceAdd, Nat.reduceMul, reduceCtorEq, s167_0, t0, t4, t17, t19, ha, hei, k2, hks, hlu', build_2i, a1, b4, hvc, hvl, hw2]
    refine ⟨j - 1, by omega, _, q + 1, v', by omega, rfl, by show h.next + 2 ≤ nx'; omega, (by (repeat' (first | assumption | exact Nat.le_refl _ | apply le_minN)) <;> omega), fun k hk' => ?_, ?_, ?_, ?_, by simp only [go_sem, reduceCtorEq, t0], by simp only [go_sem, Nat.reduceEqDiff, t2], by simp only [go_sem, Nat.reduceEqDiff, t4], by simp only [go_sem, Nat.reduceEqDiff, t17], by simp only [go_sem, Nat.reduceEqDiff, t18], by simp only [go_sem]⟩
    · rw [get_mk, Tr.get_put_other _ _ (by omega)]
      exact (a4 k (by omega)).trans (hk k hk')
    · simp only [go_sem, n5]; exact (a4 _ (by omega)).trans k1
    · simp only [go_sem]
    · exact own_keep a2 (Nat.le_refl _) fun k h1 _ => by rw [get_mk, Tr.get_put_other _ _ (by omega)]; rfl
  · have : q = (keysE L).length := by omega
    subst this
    rw [List.take_length] at ho
    have rd := own_Rd ho
    have hvc := rd.cell
    have hvl := rd.lies
    have hvlen : (lvs L (keysE L)).length < 30000 := by simp only [lvs, List.length_map]; omega
    obtain ⟨v9, nx9, m1, m2, m3⟩ := c199 hK (m + 1) v c (lvs L (keysE L)) ⟨nx, lo, ob2⟩ rd hvlen
    have m1 : nx ≤ nx9 := m1
    rcases m3 with ⟨mb, rfl⟩ | ⟨mb, rfl⟩
    · simp only [go_sem, Nat.reduceEqDiff, Nat.reduceAdd, s167_3, t4, k2, m2, t2, k1]
      refine HQ_gx (.inr rfl) (by (repeat' (first | assumption | exact Nat.le_refl _ | apply le_minN)) <;> omega) (by show h.next ≤ nx9; omega) (by simp only [go_sem, Nat.reduceEqDiff, Nat.reduceAdd, r167, t2]; rfl) ⟨.agg [.int .i64 0, .nils], ?_, ?_⟩
      · rw [one_2, frz_tupS]; simp only [List.map_cons, List.map_nil, frz_aggS, frz_int, frz_nils, sumR, limR, mb, cond_true]
      · rw [show (sumR c L).1 = ⟨0, []⟩ by simp only [sumR, limR, mb, cond_true]]
        exact Lv_nils 0
    · simp only [go_sem, Nat.reduceEqDiff, Nat.reduceAdd, s167_3, t4, k2, m2, t2, k1]
      refine HQ_gx (.inr rfl) (by (repeat' (first | assumption | exact Nat.le_refl _ | apply le_minN)) <;> omega) (by show h.next ≤ nx9; omega) (by simp only [go_sem, Nat.reduceEqDiff, Nat.reduceAdd, r167, t2]; rfl) ?_
      rw [one_2, frz_tupS]
      simp only [List.map_cons, List.map_nil, frz_aggS, frz_int]
      have er : sumR c L = (⟨cond (covd ⟨c, lvs L (keysE L)⟩) 0 c, lvs L (keysE L)⟩, 0) := by simp only [sumR, limR, mb, cond_false]
      rw [er]
      refine ⟨_, rfl, ?_⟩
      have ho' : ∀ x lo', Own (h.next + 2) 2 true ⟨nx9, lo', ob2.put h.next x⟩ v ((lvs L (keysE L)).map encV) := fun x lo' => own_keep ho m1 fun k h1 _ => by rw [get_mk, Tr.get_put_other _ _ (by omega)]; rfl
      rcases own_frzB (m := 1) (fb := h.next) (ho' _ _) (by omega) (fun e => by cases e) (fun x hx => by obtain ⟨y, _, rfl⟩ := List.mem_map.1 hx; exact encV_frz _ _ _ _) with ⟨_, e0, ef⟩ | ef
      · rw [ef]
        have e0 : lvs L (keysE L) = [] := by simpa using e0
        rw [e0]; exact Lv_nils _
      · rw [ef]; exact Lv_lst _ _
theorem cfE (f : Nat) : EF.cf f = EI.cf f := rfl
structure RdL (b : Nat) (h0 : AH) (V : AV) (ls : List LL) : Prop where
  len : ∀ h, lenOf V h 1 = some ls.length
  get : ∀ (i : Nat) x, ls[i]? = some x → ∃ p a, Lv a x ∧ ∀ h : AH, (∀ k, k < b → h.get k = h0.get k) → evIaddr V h 2 (.int .i64 (i : Int)) = .val p h ∧ evLoad p h true 2 = some a
  cell : V.cells = [V]
  lies : V.lies = true
theorem RdL.mono {b b' : Nat} {h0 h1 : AH} {V : AV} {l : List LL} (r : RdL b h0 V l) (hb : b ≤ b') (hg : ∀ k, k < b → h1.get k = h0.get k) : RdL b' h1 V l :=
  ⟨r.len, fun i x e => by
    obtain ⟨p, a, hl, hp⟩ := r.get i x e
    exact ⟨p, a, hl, fun h hk => hp h fun k hk' => (hk k (by omega)).trans (hg k hk')⟩, r.cell, r.lies⟩
structure KV (K : CallF) : Prop where
  r135 : ∀ a x h, Lv a x → x.vars.length < 9000 → K (.fn 135 [] []) [a] .no h = some (.ret (.bool (vl x)), .no, h)
  r21 : ∀ a x h, Lv a x → x.vars.length < 9000 → K (.fn 21 [] []) [a] .no h = some (.ret (.bool (vl x)), .no, h)
theorem c208 {K : CallF} (hK : Runs K) (hv : KV K) (m : Nat) (a : AV) (x : LL) (h : AH) (ha : Lv a x) (hl : x.vars.length < 9000) :
    ∃ nx, h.next ≤ nx ∧ cK K (m + 1) (.fn 208 [] []) [a] .no h = some (.ret (.bool (!vl x)), .no, ⟨nx, h.low, h.objs⟩) := by
  have e1 := fun h => cK_known (hv.r135 a x h ha hl) m
  obtain ⟨V, rfl, hn, hc, hli, hfz, hr, hia⟩ := ha.ex
  rw [cK_run hK _ 208]
  have key : ∃ v h', evFn EF (cK K m) 30000 208 [.agg [.int .i64 x.c, V]] .no h = some (.ret v, .no, h') ∧ Gx (fun v => v = .bool (!vl x)) h v h' := by
    refine evFn_H cf208 (pureF _) ?_
    unfold b208
    simp only [go_sem, Nat.reduceEqDiff, Nat.reduceAdd, s208_0, e1]
    exact HQ_gx (.inr rfl) (Nat.le_refl _) (by show h.next ≤ h.next + 1; omega) (by simp only [go_sem, r208]; rfl) (by rw [one_1, frz_bool])
  obtain ⟨v, h', e, g⟩ := key
  obtain ⟨nx, h1, rfl⟩ := Gx_eq g
  obtain ⟨rfl, _⟩ := g
  exact ⟨nx, h1, e⟩
def I68F (V : AV) (ls : List LL) (f : AV) (p : LL → Bool) (b : Nat) (ob : Tr AObj) (j : Nat) (fr : AF) (h : AH) : Prop := ∃ tm m nx, m + j = ls.length ∧ fr = ⟨tm, ⟨[], .no, none, 68⟩⟩ ∧ h = ⟨nx, b, ob⟩ ∧ b ≤ nx ∧
    nth tm 0 = V ∧ nth tm 1 = f ∧ nth tm 7 = .int .i64 (ls.length : Int) ∧ nth tm 8 = .int .i64 (m : Int) ∧ ∀ (i : Nat) x, i < m → ls[i]? = some x → p x = false
theorem call68F (call : CallF) (n : Nat) (V : AV) (ls : List LL) (f : AV) (p : LL → Bool) (h : AH) (hV : RdL h.next h V ls) (hn : ls.length < n) (hl : ls.length < 9223372036854775807)
    (hf : ∀ (i : Nat) x a nx, ls[i]? = some x → Lv a x → h.next ≤ nx → ∃ nx', nx ≤ nx' ∧ call f [a] .no ⟨nx, h.next, h.objs⟩ = some (.ret (.bool (p x)), .no, ⟨nx', h.next, h.objs⟩)) :
    ∃ v h', evFn EF call n 68 [V, f] .no h = some (.ret v, .no, h') ∧ Gx (fun v => ∃ e : Int, v = .int .i64 e ∧ decide (0 ≤ e) = ls.any p) h v h' := by
  refine evFn_H ((cfE 68).trans cf68) (pureF _) ?_
  unfold b68
  simp only [go_sem, reduceCtorEq, s68_5, hV.len]
  refine R_loop (I68F V ls f p h.next h.objs) ls.length hn ⟨_, 0, _, Nat.zero_add _, rfl, rfl, Nat.le_refl _, by simp only [go_sem, reduceCtorEq], by simp only [go_sem, Nat.reduceEqDiff], by simp only [go_sem, Nat.reduceEqDiff], by simp only [go_sem]; rfl, fun i x hi => absurd hi (by omega)⟩ ?_
  rintro j fr H ⟨tm, m, nx, hm, rfl, rfl, hnx, t0, t1, t7, t8, hp⟩
  unfold b68_3
  simp only [go_sem, s68_2, t7, t8]
  refine sB_dec (fun hlt => ?_) (fun hge => ?_)
  · have hlt : m < ls.length := by omega
    have hget : ls[m]? = some ls[m] := List.getElem?_eq_getElem hlt
    obtain ⟨p', a, hla, hp'⟩ := hV.get m _ hget
    have ha := (hp' ⟨nx, h.next, h.objs⟩ (fun _ _ => rfl)).1
    have hb := (hp' ⟨nx, h.next, h.objs⟩ (fun _ _ => rfl)).2
    have hw2 := wrap_succ m (by omega)
    obtain ⟨nx', hle, e1⟩ := hf m _ a nx hget hla hnx
    simp only [go_sem, Nat.reduceEqDiff, reduceCtorEq, s68_1, s68_0, t0, t1, t8, ha, hb, e1]
    refine sB_bool (fun hb => ?_) (fun hb => ?_)
    · simp only [go_sem, Nat.reduceEqDiff]
      refine HQ_gx (.inr rfl) (Nat.le_refl _) (by show h.next ≤ nx'; omega) (by simp only [go_sem, r68]; rfl) ⟨(m : Int), by rw [one_1, frz_int], ?_⟩
      rw [any_true hget hb]; simp
    · simp only [go_sem, Nat.reduceEqDiff, hw2, t8]
      refine ⟨j - 1, by omega, _, m + 1, nx', by omega, rfl, rfl, by omega, by simp only [go_sem, reduceCtorEq, t0], by simp only [go_sem, Nat.reduceEqDiff, t1], by simp only [go_sem, Nat.reduceEqDiff, t7], by simp only [go_sem], fun i x hi hx => ?_⟩
      by_cases hi' : i < m
      · exact hp i x hi' hx
      · obtain rfl : i = m := by omega
        rw [hget] at hx; cases hx; exact hb
  · have : m = ls.length := by omega
    subst this
    simp only [go_sem, Int.reduceNeg, s68_4]
    refine HQ_gx (.inr rfl) (Nat.le_refl _) hnx (by simp only [go_sem, Int.reduceNeg, r68]; rfl) ⟨-1, by rw [one_1, frz_int], ?_⟩
    rw [any_false (fun i x hi hx => hp i x hi hx)]; rfl
theorem any_not {α : Type} (p : α → Bool) : ∀ l : List α, (!(l.any fun x => !p x)) = l.all p
  | [] => rfl
  | a :: l => by
    have := any_not p l
    rw [List.any_cons, List.all_cons, Bool.not_or, this, Bool.not_not]
theorem c163 {K : CallF} (hK : Runs K) (hv : KV K) (m : Nat) (V : AV) (ls : List LL) (h : AH) (hV : RdL h.next h V ls) (hl : ls.length < 30000) (hx : ∀ x ∈ ls, x.vars.length < 9000) :
    ∃ nx, h.next ≤ nx ∧ cK K (m + 4) (.fn 163 [] []) [V] .no h = some (.ret (.bool (ls.all vl)), .no, ⟨nx, h.low, h.objs⟩) := by
  rw [cK_run hK _ 163]
  have k68 : ∀ nx lo, h.next ≤ nx → ∃ e : Int, ∃ nx', nx ≤ nx' ∧ cK K (m + 2) (.fn 68 [] []) [V, .fn 208 [] []] .no ⟨nx, lo, h.objs⟩ = some (.ret (.int .i64 e), .no, ⟨nx', lo, h.objs⟩) ∧ decide (0 ≤ e) = ls.any (fun x => !vl x) := by
    intro nx lo hn
    rw [cK_run hK _ 68]
    obtain ⟨v, h', e, g⟩ := call68F (cK K (m + 1)) 30000 V ls (.fn 208 [] []) (fun x => !vl x) ⟨nx, lo, h.objs⟩ (hV.mono hn (fun _ _ => rfl)) hl (by omega)
      (fun i x a nx0 hi ha hn0 => c208 hK hv m a x ⟨nx0, nx, h.objs⟩ ha (hx x (List.mem_of_getElem? hi)))
    obtain ⟨nx', h1, rfl⟩ := Gx_eq g
    obtain ⟨⟨e', rfl, he⟩, _⟩ := g
    exact ⟨e', nx', h1, e, he⟩
  have k25 : ∀ nx lo, h.next ≤ nx → ∃ nx', nx ≤ nx' ∧ cK K (m + 3) (.fn 25 [] []) [V, .fn 208 [] []] .no ⟨nx, lo, h.objs⟩ = some (.ret (.bool (ls.any fun x => !vl x)), .no, ⟨nx', lo, h.objs⟩) := by
    intro nx lo hn
    rw [cK_run hK _ 25]
    obtain ⟨e, nx1, h1, e1, he⟩ := k68 nx nx hn
    have key : ∃ v h', evFn EF (cK K (m + 2)) 30000 25 [V, .fn 208 [] []] .no ⟨nx, lo, h.objs⟩ = some (.ret v, .no, h') ∧ Gx (fun v => v = .bool (ls.any fun x => !vl x)) ⟨nx, lo, h.objs⟩ v h' := by
      refine evFn_H ((cfE 25).trans cf25) (pureF _) ?_
      unfold b25
      simp only [go_sem, Nat.reduceEqDiff, reduceCtorEq, s25_0, e1, he]
      exact HQ_gx (.inr rfl) (Nat.le_refl _) h1 (by simp only [go_sem, r25]; rfl) (by rw [one_1, frz_bool])
    obtain ⟨v, h', e, g⟩ := key
    obtain ⟨nx', h2, rfl⟩ := Gx_eq g
    obtain ⟨rfl, _⟩ := g
    exact ⟨nx', h2, e⟩
  obtain ⟨nx1, h1, e1⟩ := k25 h.next h.next (Nat.le_refl _)
  have hall : (!(ls.any fun x => !vl x)) = ls.all vl := any_not vl ls
  have key : ∃ v h', evFn EF (cK K (m + 3)) 30000 163 [V] .no h = some (.ret v, .no, h') ∧ Gx (fun v => v = .bool (ls.all vl)) h v h' := by
    refine evFn_H cf163 (pureF _) ?_
    unfold b163
    simp only [go_sem, reduceCtorEq, s163_0, e1]
    exact HQ_gx (.inr rfl) (Nat.le_refl _) h1 (by simp only [go_sem, r163]; rfl) (by rw [one_1, frz_bool, hall])
  obtain ⟨v, h', e, g⟩ := key
  obtain ⟨nx', h2, rfl⟩ := Gx_eq g
  obtain ⟨rfl, _⟩ := g
  exact ⟨nx', h2, e⟩
end Go.Proofs.YtnacljdablhbgaaGreat
