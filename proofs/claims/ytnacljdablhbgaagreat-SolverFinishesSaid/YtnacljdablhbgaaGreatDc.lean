/- SolverFinishes: Assign of the program (no condition). -/
import Derived.Test.YtnacljdablhbgaaGreatDb
namespace Go.Proofs.YtnacljdablhbgaaGreat
open Go.AG
theorem c164 {K : CallF} (hK : Runs K) (m : Nat) (h : AH) : ∃ h', cK K (m + 1) (.fn 164 [] []) [] .no h = some (.ret (.ptr (h.next + 1) 0 0), .no, h') ∧ h'.next = h.next + 2 ∧ h'.low = h.low ∧ h'.get h.next = some (.map []) ∧ h'.get (h.next + 1) = some (.box [.map h.next, .int .i64 0]) ∧ ∀ k, k < h.next → h'.get k = h.get k := by
  rw [cK_run hK _ 164]
  obtain ⟨v, h', e, rfl, r⟩ := call164 (cK K m) 30000 h
  exact ⟨h', e, r⟩
theorem c166 {K : CallF} (hK : Runs K) (m : Nat) (km : Nat) (L : Es) (i p : Int) (h : AH) (hm : h.get km = some (.map (mp L))) (hlt : km < h.next) :
    ∃ v h', cK K (m + 1) (.fn 166 [] []) [.map km, .int .i64 i, .int .i64 p] .no h = some (.ret v, .no, h') ∧ v = .tup [] ∧ h'.get km = some (.map (mp (raiseE L i p))) ∧ h.next ≤ h'.next ∧ (∀ k, k ≠ km → h'.get k = h.get k) ∧ (∀ b, b ≤ h.low → b ≤ km → b ≤ h'.low) ∧ h'.low ≤ h.low := by
  rw [cK_run hK _ 166]
  exact call166 (cK K m) 30000 km L i p h hm hlt
theorem c165 {K : CallF} (hK : Runs K) (m : Nat) (ks km : Nat) (c : Int) (L : Es) (a : AV) (x : LL) (nn : Int) (h : AH) (hs : SumAt ks km c L h) (ha : Lv a x) (hl : x.vars.length < 30000) (b1 : 0 ≤ x.c ∧ x.c ≤ 1000) (b2 : 0 ≤ nn ∧ nn ≤ 1000) (b3 : ∀ y ∈ x.vars, 0 ≤ y.plus ∧ y.plus ≤ 1000) :
    ∃ v h', cK K (m + 2) (.fn 165 [] []) [.ptr ks 0 0, a, .int .i64 nn] .no h = some (.ret v, .no, h') ∧ v = .tup [] ∧ SumAt ks km (max c (x.c + nn)) (addE L x.vars nn) h' ∧ Ch ks km h h' ∧ h'.low ≤ h.low := by
  rw [cK_run hK _ 165]
  obtain ⟨V, rfl, hn, hc, hli, hfz, hr, hia⟩ := ha.ex
  exact call165 (cK K (m + 1)) 30000 ks km c L x.c V x.vars nn h hs (hr _ _) hr hl hl b1 b2 b3 (fun L i p h => c166 hK m km L i p h)
theorem setE_len (L : Es) (k v : Int) : (setE L k v).length ≤ L.length + 1 := by
  induction L with
  | nil => simp [setE]
  | cons e L ih =>
    rw [setE]; split
    · simp
    · simp; omega
theorem raiseE_len (L : Es) (k p : Int) : (raiseE L k p).length ≤ L.length + 1 := by
  unfold raiseE
  split
  · split
    · exact setE_len _ _ _
    · omega
  · exact setE_len _ _ _
theorem addE_len (n : Int) : ∀ (vs : List LV) (L : Es), (addE L vs n).length ≤ L.length + vs.length
  | [], L => by simp [addE]
  | x :: vs, L => by
    have := addE_len n vs (raiseE L x.idx (x.plus + n))
    have := raiseE_len L x.idx (x.plus + n)
    show (addE (raiseE L x.idx (x.plus + n)) vs n).length ≤ _
    simp; omega
def asgOne (vals : List LL) (s : Int × Es) (x : LV) : Int × Es :=
  if 0 ≤ -1 - x.idx ∧ -1 - x.idx < (vals.length : Int) then
    match vals[(-1 - x.idx).toNat]? with
    | some y => (max s.1 (y.c + x.plus), addE s.2 y.vars x.plus)
    | none => s
  else (s.1, raiseE s.2 x.idx x.plus)
def asgS (l : LL) (vals : List LL) : Int × Es := l.vars.foldl (asgOne vals) (l.c, [])
def asgR (l : LL) (vals : List LL) : LL × Int := sumR (asgS l vals).1 (asgS l vals).2
theorem asgOne_len {vals : List LL} {s : Int × Es} {x : LV} (hv : ∀ y ∈ vals, y.vars.length ≤ 50) : (asgOne vals s x).2.length ≤ s.2.length + 50 := by
  unfold asgOne
  split
  · split
    · rename_i y hy
      have := addE_len x.plus y.vars s.2
      have := hv y (List.mem_of_getElem? hy)
      show (addE s.2 y.vars x.plus).length ≤ _
      omega
    · omega
  · have := raiseE_len s.2 x.idx x.plus
    show (raiseE s.2 x.idx x.plus).length ≤ _
    omega
theorem asgF_len {vals : List LL} (hv : ∀ y ∈ vals, y.vars.length ≤ 50) : ∀ (vs : List LV) (s : Int × Es), (vs.foldl (asgOne vals) s).2.length ≤ s.2.length + 50 * vs.length
  | [], s => by simp
  | x :: vs, s => by
    have := asgF_len hv vs (asgOne vals s x)
    have := asgOne_len (s := s) (x := x) hv
    simp only [List.foldl_cons, List.length_cons]
    omega
def I115 (l : LL) (vals : List LL) (V W : AV) (ks km : Nat) (h0 : AH) (j : Nat) (fr : AF) (h : AH) : Prop := ∃ tm m, m + j = l.vars.length ∧ fr = ⟨tm, ⟨[], .no, none, 115⟩⟩ ∧
    SumAt ks km ((l.vars.take m).foldl (asgOne vals) (l.c, [])).1 ((l.vars.take m).foldl (asgOne vals) (l.c, [])).2 h ∧ (∀ k, k < h0.next → h.get k = h0.get k) ∧ h.get (h0.next + 1) = some (.box [.int .i64 0, .nils]) ∧ h0.next ≤ h.low ∧ h0.next + 2 ≤ ks ∧ h0.next + 2 ≤ km ∧
    nth tm 1 = V ∧ nth tm 4 = .ptr (h0.next + 1) 0 0 ∧ nth tm 6 = .ptr ks 0 0 ∧ nth tm 26 = W ∧ nth tm 27 = .int .i64 (l.vars.length : Int) ∧ nth tm 28 = .int .i64 (m : Int)
def KR (L : Es) : Prop := ∀ k ∈ L.map (·.1), -65536 ≤ k ∧ k ≤ 7
structure KS (K : CallF) : Prop where
  r209 : ∀ (H : AH) kb km (L : Es), H.get kb = some (.box [.map km]) → H.get km = some (.map (mp L)) → kb < H.next → L.length < 30000 → (L.map (·.1)).Nodup → KR L → K (.fn 209 [] []) [.fn 254 [] [.ptr kb 0 0]] .no H = some (.ret (.lst ((keysE L).map AG.encI)), .no, H)
theorem setE_keys {L : Es} (k v : Int) : (setE L k v).map (·.1) = if k ∈ L.map (·.1) then L.map (·.1) else L.map (·.1) ++ [k] := by
  induction L with
  | nil => simp [setE]
  | cons e L ih =>
    rw [setE]
    by_cases h : k = e.1
    · rw [if_pos h, if_pos (by simp [h])]; simp [h]
    · rw [if_neg h, List.map_cons, ih, List.map_cons]
      by_cases h2 : k ∈ L.map (·.1)
      · rw [if_pos h2, if_pos (List.mem_cons_of_mem _ h2)]
      · rw [if_neg h2, if_neg (by rw [List.mem_cons]; rintro (e | e); exact h e; exact h2 e)]; rfl
theorem setE_nodup {L : Es} (k v : Int) (h : (L.map (·.1)).Nodup) : ((setE L k v).map (·.1)).Nodup := by
  rw [setE_keys]
  split
  · exact h
  · rename_i h2
    rw [List.nodup_append]
    exact ⟨h, by simp, fun a ha b hb => by simp at hb; subst hb; intro e; subst e; exact h2 ha⟩
theorem raiseE_nodup {L : Es} (k p : Int) (h : (L.map (·.1)).Nodup) : ((raiseE L k p).map (·.1)).Nodup := by
  unfold raiseE
  split
  · split
    · exact setE_nodup _ _ h
    · exact h
  · exact setE_nodup _ _ h
theorem addE_nodup (n : Int) : ∀ (vs : List LV) {L : Es}, (L.map (·.1)).Nodup → ((addE L vs n).map (·.1)).Nodup
  | [], _L, h => h
  | _x :: vs, _L, h => addE_nodup n vs (raiseE_nodup _ _ h)
theorem asgF_nodup {vals : List LL} : ∀ (vs : List LV) (s : Int × Es), (s.2.map (·.1)).Nodup → (((vs.foldl (asgOne vals) s).2).map (·.1)).Nodup
  | [], s, h => h
  | x :: vs, s, h => by
    refine asgF_nodup vs _ ?_
    unfold asgOne
    split
    · split
      · exact addE_nodup _ _ h
      · exact h
    · exact raiseE_nodup _ _ h
theorem setE_kr {L : Es} {k : Int} (v : Int) (hk : -65536 ≤ k ∧ k ≤ 7) (h : KR L) : KR (setE L k v) := by
  unfold KR
  rw [setE_keys]
  split
  · exact h
  · intro y hy
    rcases List.mem_append.1 hy with hy | hy
    · exact h y hy
    · simp at hy; subst hy; exact hk
theorem raiseE_kr {L : Es} {k : Int} (p : Int) (hk : -65536 ≤ k ∧ k ≤ 7) (h : KR L) : KR (raiseE L k p) := by
  unfold raiseE
  split
  · split
    · exact setE_kr _ hk h
    · exact h
  · exact setE_kr _ hk h
theorem addE_kr (n : Int) : ∀ (vs : List LV) {L : Es}, (∀ x ∈ vs, Rng x) → KR L → KR (addE L vs n)
  | [], L, _, h => h
  | x :: vs, L, hx, h => addE_kr n vs (fun y hy => hx y (by simp [hy])) (raiseE_kr _ (by obtain ⟨h1, h2, _⟩ := hx x (by simp); exact ⟨h1, h2⟩) h)
theorem asgF_kr {vals : List LL} (hv : ∀ y ∈ vals, VL y) : ∀ (vs : List LV) (s : Int × Es), (∀ x ∈ vs, Rng x) → KR s.2 → KR ((vs.foldl (asgOne vals) s).2)
  | [], s, _, h => h
  | x :: vs, s, hx, h => by
    refine asgF_kr hv vs _ (fun y hy => hx y (by simp [hy])) ?_
    have hr : -65536 ≤ x.idx ∧ x.idx ≤ 7 := by obtain ⟨h1, h2, _⟩ := hx x (by simp); exact ⟨h1, h2⟩
    unfold asgOne
    split
    · split
      · rename_i y hy
        exact addE_kr _ _ (fun z hz => by
          obtain ⟨i, hi⟩ := List.mem_iff_getElem?.1 hz
          exact (hv y (List.mem_of_getElem? hy)).rng i z hi) h
      · exact h
    · exact raiseE_kr _ hr h
theorem VL.plus {l : LL} (h : VL l) : ∀ y ∈ l.vars, 0 ≤ y.plus ∧ y.plus ≤ 100 := by
  intro y hy
  obtain ⟨i, hi⟩ := List.mem_iff_getElem?.1 hy
  obtain ⟨_, _, h1, h2⟩ := h.rng i y hi
  exact ⟨h1, h2⟩
theorem call115 {K : CallF} (hK : Runs K) (hv : KV K) (m : Nat) (a : AV) (l : LL) (V : AV) (vals : List LL) (h : AH) (ha : Lv a l) (hV : RdL h.next h V vals) (h1 : l.vars.length ≤ 100) (h2 : vals.length < 30000) (h3 : ∀ y ∈ vals, y.vars.length ≤ 50) (hvl : VL l) (hvs : ∀ y ∈ vals, VL y)
    (h167 : ∀ (ks km : Nat) (c : Int) (L : Es) (h : AH), SumAt ks km c L h → L.length < 30000 → (L.map (·.1)).Nodup → KR L → ∃ v nx, h.next ≤ nx ∧ cK K (m + 8) (.fn 167 [] []) [.ptr ks 0 0] .no h = some (.ret v, .no, ⟨nx, h.low, h.objs⟩) ∧ isLv (sumR c L) v) :
    ∃ v h', evFn EF (cK K (m + 8)) 30000 115 [a, V] .no h = some (.ret v, .no, h') ∧ Gx (isLv (asgR l vals)) h v h' := by
  have e135 := fun h => cK_known (hv.r135 a l h ha (by omega)) (m + 8)
  rw [vl_t hvl] at e135
  obtain ⟨W, rfl, hn, hc, hli, hfz, hr, hia⟩ := ha.ex
  refine evFn_H cf115 (pureF _) ?_
  have n1 : ¬ (h.next = h.next + 1) := by omega
  unfold b115
  simp only [go_sem, Nat.reduceEqDiff, Nat.reduceAdd, reduceCtorEq, s115_9, n1, e135]
  obtain ⟨ob, hob⟩ : ∃ ob, ob = (h.objs.put h.next (.box [.int .i64 l.c, W])).put (h.next + 1) (.box [.int .i64 0, .nils]) := ⟨_, rfl⟩
  rw [← hob]
  have G1 : ob.get h.next = some (.box [.int .i64 l.c, W]) := by simp only [hob, go_sem, n1]
  have G2 : ob.get (h.next + 1) = some (.box [.int .i64 0, .nils]) := by simp only [hob, go_sem]
  have G3 : ∀ k, k < h.next → ob.get k = h.objs.get k := fun k hk => by rw [hob, Tr.get_put_other _ _ (by omega), Tr.get_put_other _ _ (by omega)]
  obtain ⟨nx1, g1, e163⟩ := c163 hK hv (m + 4) V vals ⟨h.next + 1 + 1, h.next, ob⟩ (hV.mono (by show h.next ≤ h.next + 1 + 1; omega) G3) h2 (fun x hx => by have := h3 x hx; omega)
  have g1 : h.next + 1 + 1 ≤ nx1 := g1
  rw [show vals.all vl = true from List.all_eq_true.2 fun y hy => vl_t (hvs y hy)] at e163
  obtain ⟨H4, e164, q1, q2, q3, q4, q5⟩ := c164 hK (m + 7) ⟨nx1, h.next, ob⟩
  have q1 : H4.next = nx1 + 2 := q1
  have q2 : H4.low = h.next := q2
  have q3 : H4.get nx1 = some (.map []) := q3
  have q4 : H4.get (nx1 + 1) = some (.box [.map nx1, .int .i64 0]) := q4
  have q5 : ∀ k, k < nx1 → H4.get k = ob.get k := q5
  have G1' := (q5 h.next (by omega)).trans G1
  have G2' := (q5 (h.next + 1) (by omega)).trans G2
  have n2 : ¬ (h.next = nx1 + 1) := by omega
  have hlen := (hr 0 h).len
  simp only [go_sem, Nat.reduceEqDiff, Nat.reduceAdd, e163, s115_8, e164, s115_7, G1', q4, s115_6, n2, hlen]
  refine R_loop (I115 l vals V W (nx1 + 1) nx1 h) l.vars.length (by omega) ⟨_, 0, Nat.zero_add _, rfl, ⟨?_, ?_, ?_, ?_, by omega⟩, fun k hk => ?_, ?_, ?_, by omega, by omega, by simp only [go_sem, Nat.reduceEqDiff], by simp only [go_sem, Nat.reduceEqDiff], by simp only [go_sem, Nat.reduceEqDiff], by simp only [go_sem, Nat.reduceEqDiff], by simp only [go_sem, Nat.reduceEqDiff], by simp only [go_sem]; rfl⟩ ?_
  · rw [get_set_s]; rfl
  · rw [get_set_o (by omega), q3]; rfl
  · rw [next_set]; omega
  · rw [next_set]; omega
  · rw [get_set_o (by omega), q5 k (by omega)]; exact G3 k hk
  · rw [get_set_o (by omega)]; exact G2'
  · rw [low_set, q2]; exact le_minN (by omega) (Nat.le_refl _)
  rintro j fr H ⟨tm, q, hq, rfl, hS, hk, k2, hlo, b1, b2, t1, t4, t6, t26, t27, t28⟩
  unfold b115_4
  have hS' := hS
  obtain ⟨s1, s2, s3, s4, s5⟩ := hS'
  simp only [go_sem, s115_3, t27, t28]
  refine sB_dec (fun hlt => ?_) (fun hge => ?_)
  · have hlt : q < l.vars.length := by omega
    have hget : l.vars[q]? = some l.vars[q] := List.getElem?_eq_getElem hlt
    obtain ⟨p', hp'⟩ := (hr H.next H).get q _ hget
    have ha := (hp' H (fun _ _ => rfl)).1
    have hb := (hp' H (fun _ _ => rfl)).2
    have hw2 := wrap_succ q (by omega)
    have hxv : encV l.vars[q] = .agg [.int .i64 l.vars[q].idx, .int .i64 l.vars[q].plus] := rfl
    rw [hxv] at hb
    obtain ⟨r1, r2, r3, r4⟩ := hvl.rng q _ hget
    have hw3 : IntKind.wrap .i64 (-1 - l.vars[q].idx) = -1 - l.vars[q].idx := wrap_fits _ (by omega) (by omega)
    have hfold : (l.vars.take (q + 1)).foldl (asgOne vals) (l.c, []) = asgOne vals ((l.vars.take q).foldl (asgOne vals) (l.c, [])) l.vars[q] := by
      rw [take_succ_get hget, List.foldl_append]; rfl
    obtain ⟨nx, lo, ob2⟩ := H
    have s1 : ob2.get (nx1 + 1) = some (.box [.map nx1, .int .i64 ((l.vars.take q).foldl (asgOne vals) (l.c, [])).1]) := s1
    have s3 : nx1 + 1 < nx := s3
    have n3 : ¬ (nx1 + 1 = nx) := by omega
    have n4 : ¬ (nx1 = nx) := by omega
    have hlo : h.next ≤ lo := hlo
    have k2 : ob2.get (h.next + 1) = some (.box [.int .i64 0, .nils]) := k2
    have hlenV := hV.len
    obtain ⟨ob3, hob3⟩ : ∃ ob3, ob3 = (ob2.put nx (.box [.int .i64 0, .int .i64 0])).put nx (.box [.int .i64 l.vars[q].idx, .int .i64 l.vars[q].plus]) := ⟨_, rfl⟩
    have hg3 : ∀ k, k ≠ nx → ob3.get k = ob2.get k := fun k hk => by rw [hob3, Tr.get_put_other _ _ hk, Tr.get_put_other _ _ hk]
    have hgx : ob3.get nx = some (.box [.int .i64 l.vars[q].idx, .int .i64 l.vars[q].plus]) := by rw [hob3, Tr.get_put_same]
    have hsum : SumAt (nx1 + 1) nx1 ((l.vars.take q).foldl (asgOne vals) (l.c, [])).1 ((l.vars.take q).foldl (asgOne vals) (l.c, [])).2 ⟨nx + 1, minN nx lo, ob3⟩ :=
      ⟨(hg3 _ n3).trans s1, (hg3 _ n4).trans s2, by show nx1 + 1 < nx + 1; omega, by show nx1 < nx + 1; omega, s5⟩
    have s1' : ob3.get (nx1 + 1) = some (.box [.map nx1, .int .i64 ((l.vars.take q).foldl (asgOne vals) (l.c, [])).1]) := (hg3 _ n3).trans s1
    simp only [go_sem, Nat.reduceEqDiff, Nat.reduceAdd, s115_2, t26, t28, ha, hb]
    rw [← hob3]
    simp only [go_sem, Int.reduceNeg, s115_1, hgx, hw3, s115_0]
    have fin : ∀ h' c' L', asgOne vals ((l.vars.take q).foldl (asgOne vals) (l.c, [])) l.vars[q] = (c', L') → SumAt (nx1 + 1) nx1 c' L' h' → (∀ k, k < nx + 1 → k ≠ nx1 + 1 → k ≠ nx1 → h'.get k = ob3.get k) → h.next ≤ h'.low → ∀ tm', nth tm' 1 = V → nth tm' 4 = .ptr (h.next + 1) 0 0 → nth tm' 6 = .ptr (nx1 + 1) 0 0 → nth tm' 26 = W → nth tm' 27 = .int .i64 (l.vars.length : Int) → nth tm' 28 = .int .i64 ((q + 1 : Nat) : Int) →
        ∃ j', j' < j ∧ I115 l vals V W (nx1 + 1) nx1 h j' ⟨tm', ⟨[], .no, none, 115⟩⟩ h' := by
      intro h' c' L' e1 e2 e3 e4 tm' u1 u4 u6 u26 u27 u28
      refine ⟨j - 1, by omega, tm', q + 1, by omega, rfl, ?_, fun k hk' => ?_, ?_, e4, b1, b2, u1, u4, u6, u26, u27, u28⟩
      · rw [hfold, e1]; exact e2
      · rw [e3 k (by omega) (by omega) (by omega), hg3 k (by omega)]; exact hk k hk'
      · rw [e3 _ (by omega) (by omega) (by omega), hg3 _ (by omega)]; exact k2
    by_cases hpos : 0 ≤ -1 - l.vars[q].idx
    · have hd : decide (0 ≤ -1 - l.vars[q].idx) = true := decide_eq_true hpos
      simp only [go_sem, Nat.reduceEqDiff, Int.reduceNeg, hd, t1, hlenV]
      refine sB_dec (fun hin => ?_) (fun hout => ?_)
      · obtain ⟨i, hi⟩ : ∃ i : Nat, -1 - l.vars[q].idx = (i : Int) := ⟨(-1 - l.vars[q].idx).toNat, by omega⟩
        have hil : i < vals.length := by omega
        have hgi : vals[i]? = some vals[i] := List.getElem?_eq_getElem hil
        obtain ⟨p2, a2, hla, hp2⟩ := hV.get i _ hgi
        have hk3 : ∀ k, k < h.next → AH.get ⟨nx + 1, minN nx lo, ob3⟩ k = h.get k := fun k hk' => (hg3 k (by omega)).trans (hk k hk')
        have hc1 := (hp2 ⟨nx + 1, minN nx lo, ob3⟩ hk3).1
        have hc2 := (hp2 ⟨nx + 1, minN nx lo, ob3⟩ hk3).2
        rw [← hi] at hc1
        have hval := hvs _ (List.getElem_mem hil)
        obtain ⟨v', h', f1, rfl, f2, f3, f4⟩ := c165 hK (m + 6) (nx1 + 1) nx1 _ _ a2 vals[i] l.vars[q].plus ⟨nx + 1, minN nx lo, ob3⟩ hsum hla (by have := h3 _ (List.getElem_mem hil); omega) ⟨hval.c0, by have := hval.c1; omega⟩ ⟨r3, by omega⟩ (fun y hy => by have := hval.plus y hy; omega)
        obtain ⟨f5, f6, f7⟩ := f3
        simp only [go_sem, Nat.reduceEqDiff, Int.reduceNeg, t6, t1, hc1, hc2, hgx, f1, hw2, t28]
        refine fin h' _ _ ?_ f2 f6 (f7 h.next (by (repeat' (first | assumption | exact Nat.le_refl _ | apply le_minN)) <;> omega) (by omega) (by omega)) _ (by simp only [go_sem, Nat.reduceEqDiff, Int.reduceNeg, t1]) (by simp only [go_sem, Nat.reduceEqDiff, Int.reduceNeg, t4]) (by simp only [go_sem, Nat.reduceEqDiff, Int.reduceNeg, t6]) (by simp only [go_sem, Nat.reduceEqDiff, Int.reduceNeg, t26]) (by simp only [go_sem, Nat.reduceEqDiff, Int.reduceNeg, t27]) (by simp only [go_sem, Int.reduceNeg])
        unfold asgOne
        rw [if_pos ⟨hpos, hin⟩, hi, Int.toNat_natCast, hgi]
      · obtain ⟨v', h', f1, rfl, f2, f3, f4, f5, f6⟩ := c166 hK (m + 7) nx1 _ l.vars[q].idx l.vars[q].plus ⟨nx + 1, minN nx lo, ob3⟩ hsum.m hsum.lm
        have f3 : nx + 1 ≤ h'.next := f3
        simp only [go_sem, Nat.reduceEqDiff, Int.reduceNeg, t6, s1', hgx, f1, hw2, t28]
        refine fin h' _ _ (by unfold asgOne; rw [if_neg (fun e => hout e.2)]) ⟨by rw [f4 _ (by omega)]; exact s1', f2, by omega, by omega, s5⟩ (fun k _ _ h3 => f4 k h3) (f5 h.next (by (repeat' (first | assumption | exact Nat.le_refl _ | apply le_minN)) <;> omega) (by omega)) _ (by simp only [go_sem, Nat.reduceEqDiff, Int.reduceNeg, t1]) (by simp only [go_sem, Nat.reduceEqDiff, Int.reduceNeg, t4]) (by simp only [go_sem, Nat.reduceEqDiff, Int.reduceNeg, t6]) (by simp only [go_sem, Nat.reduceEqDiff, Int.reduceNeg, t26]) (by simp only [go_sem, Nat.reduceEqDiff, Int.reduceNeg, t27]) (by simp only [go_sem, Int.reduceNeg])
    · obtain ⟨v', h', f1, rfl, f2, f3, f4, f5, f6⟩ := c166 hK (m + 7) nx1 _ l.vars[q].idx l.vars[q].plus ⟨nx + 1, minN nx lo, ob3⟩ hsum.m hsum.lm
      have f3 : nx + 1 ≤ h'.next := f3
      have hd : decide (0 ≤ -1 - l.vars[q].idx) = false := decide_eq_false hpos
      simp only [go_sem, Nat.reduceEqDiff, Int.reduceNeg, hd, t6, s1', hgx, f1, hw2, t28]
      refine fin h' _ _ (by unfold asgOne; rw [if_neg (fun e => hpos e.1)]) ⟨by rw [f4 _ (by omega)]; exact s1', f2, by omega, by omega, s5⟩ (fun k _ _ h3 => f4 k h3) (f5 h.next (by (repeat' (first | assumption | exact Nat.le_refl _ | apply le_minN)) <;> omega) (by omega)) _ (by simp only [go_sem, Nat.reduceEqDiff, Int.reduceNeg, t1]) (by simp only [go_sem, Nat.reduceEqDiff, Int.reduceNeg, t4]) (by simp only [go_sem, Nat.reduceEqDiff, Int.reduceNeg, t6]) (by simp only [go_sem, Nat.reduceEqDiff, Int.reduceNeg, t26]) (by simp only [go_sem, Nat.reduceEqDiff, Int.reduceNeg, t27]) (by simp only [go_sem, Int.reduceNeg])
  · have : q = l.vars.length := by omega
    subst this
    rw [List.take_length] at hS
    have hlen2 := asgF_len h3 l.vars (l.c, [])
    simp only [List.length_nil] at hlen2
    obtain ⟨v7, nx7, w1, w2, a7, rfl, w3⟩ := h167 (nx1 + 1) nx1 _ _ H hS (by omega) (asgF_nodup l.vars (l.c, []) List.nodup_nil) (asgF_kr hvs l.vars (l.c, []) (fun x hx => by
      obtain ⟨i, hi⟩ := List.mem_iff_getElem?.1 hx
      exact hvl.rng i x hi) (fun k hk => by simp at hk))
    obtain ⟨W7, ha7, z1, z2, z3, z4, z5, z6⟩ := w3.ex
    have hl7 : a7.lies = true := by rw [ha7]; rfl
    have hc7 : a7.cells = [.int .i64 (sumR (asgS l vals).1 (asgS l vals).2).1.c, W7] := by rw [ha7]; rfl
    have k2' : h.next + 1 < H.next := by omega
    obtain ⟨nx, lo, ob2⟩ := H
    have k2 : ob2.get (h.next + 1) = some (.box [.int .i64 0, .nils]) := k2
    have w2 : cK K (m + 8) (.fn 167 [] []) [.ptr (nx1 + 1) 0 0] .no ⟨nx, lo, ob2⟩ = some (.ret (.tup [.agg [.int .i64 (sumR (asgS l vals).1 (asgS l vals).2).1.c, W7], .int .i64 (sumR (asgS l vals).1 (asgS l vals).2).2]), .no, ⟨nx7, lo, ob2⟩) := by rw [w2, ha7]; rfl
    simp only [go_sem, Nat.reduceEqDiff, Nat.reduceAdd, s115_5, t4, t6, w2, k2]
    refine HQ_gx (.inr rfl) (by (repeat' (first | assumption | exact Nat.le_refl _ | apply le_minN)) <;> omega) (by have w1 : nx ≤ nx7 := w1; show h.next ≤ nx7; omega) (by simp only [go_sem, Nat.reduceEqDiff, Nat.reduceAdd, r115, t4]; rfl) ⟨_, ?_, w3⟩
    rw [one_2, frz_tupS, ha7]; simp only [List.map_cons, List.map_nil, frz_aggS, frz_int, z4]; rfl
theorem c115 {K : CallF} (hK : Runs K) (hv : KV K) (hs : KS K) (m : Nat) (a : AV) (l : LL) (V : AV) (vals : List LL) (h : AH) (ha : Lv a l) (hV : RdL h.next h V vals) (h1 : l.vars.length ≤ 100) (h2 : vals.length < 30000) (h3 : ∀ y ∈ vals, y.vars.length ≤ 50) (hvl : VL l) (hvs : ∀ y ∈ vals, VL y) :
    ∃ v nx, h.next ≤ nx ∧ cK K (m + 9) (.fn 115 [] []) [a, V] .no h = some (.ret v, .no, ⟨nx, h.low, h.objs⟩) ∧ isLv (asgR l vals) v := by
  rw [cK_run hK _ 115]
  obtain ⟨v, h', e, g⟩ := call115 hK hv m a l V vals h ha hV h1 h2 h3 hvl hvs (fun ks km c L H hS hL hN hR => by
    rw [cK_run hK _ 167]
    obtain ⟨v, h', e, g⟩ := c167 hK (m + 1) ks km c L H hS hL (fun H2 kb q1 q2 q3 => cK_known (hs.r209 H2 kb km L q1 q2 q3 hL hN hR) _)
    obtain ⟨nx, g1, rfl⟩ := Gx_eq g
    exact ⟨v, nx, g1, e, g.1⟩)
  obtain ⟨nx, g1, rfl⟩ := Gx_eq g
  exact ⟨v, nx, g1, e, g.1⟩
attribute [local go_sem] RD_max RD_lookup birth_lookup build_1i build_2i
def mergeV : List LV → List LV → List LV
  | [], ys => ys
  | x :: xs, [] => x :: xs
  | x :: xs, y :: ys => if x.idx < y.idx then x :: mergeV xs (y :: ys) else if y.idx < x.idx then y :: mergeV (x :: xs) ys else ⟨x.idx, max x.plus y.plus⟩ :: mergeV xs ys
termination_by xs ys => xs.length + ys.length
def mostV (vs : List LV) : Int := vs.foldl (fun m x => max m x.plus) 0
def joinR (a b : LL) : LL := ⟨if 0 < (mergeV a.vars b.vars).length ∧ max a.c b.c ≤ mostV (mergeV a.vars b.vars) then 0 else max a.c b.c, mergeV a.vars b.vars⟩
theorem mostV_snoc (vs : List LV) (x : LV) : mostV (vs ++ [x]) = max (mostV vs) x.plus := by unfold mostV; rw [List.foldl_append]; rfl
theorem mergeV_nil (xs : List LV) : mergeV xs [] = xs := by cases xs <;> simp [mergeV]
theorem drop_get {α : Type} {l : List α} {i : Nat} {x : α} (h : l[i]? = some x) : l.drop i = x :: l.drop (i + 1) := by
  obtain ⟨hi, rfl⟩ := List.getElem?_eq_some_iff.1 h
  exact List.drop_eq_getElem_cons hi
structure J202 (a b : LL) (Va Vb : AV) (h0 h : AH) (i k : Nat) (os : List LV) (V' : AV) : Prop where
  b2 : h.get h0.next = some (.box [.int .i64 a.c, Va])
  b3 : h.get (h0.next + 1) = some (.box [.int .i64 b.c, Vb])
  b4 : h.get (h0.next + 2) = some (.box [.int .i64 0, .nils])
  b5 : h.get (h0.next + 3) = some (.box [.int .i64 (max a.c b.c), V'])
  own : Own (h0.next + 4) 2 true h V' (os.map encV)
  low : h0.next ≤ h.low
  next : h0.next + 4 ≤ h.next
  keep : ∀ k, k < h0.next → h.get k = h0.get k
  le1 : i ≤ a.vars.length
  le2 : k ≤ b.vars.length
  rest : os ++ mergeV (a.vars.drop i) (b.vars.drop k) = mergeV a.vars b.vars
  olen : os.length ≤ i + k
def I202 (a b : LL) (Va Vb : AV) (h0 : AH) (j : Nat) (fr : AF) (h : AH) : Prop := ∃ tm i k os V', j + i + k = a.vars.length + b.vars.length ∧ fr = ⟨tm, ⟨[], .no, none, 202⟩⟩ ∧ J202 a b Va Vb h0 h i k os V' ∧
    nth tm 2 = .ptr h0.next 0 0 ∧ nth tm 3 = .ptr (h0.next + 1) 0 0 ∧ nth tm 4 = .ptr (h0.next + 2) 0 0 ∧ nth tm 5 = .ptr (h0.next + 3) 0 0 ∧ nth tm 6 = .int .i64 (i : Int) ∧ nth tm 7 = .int .i64 (k : Int) ∧ nth tm 8 = .int .i64 (mostV os)
theorem call202 (call : CallF) (n : Nat) (a b : LL) (va vb : AV) (h : AH) (ha : Lv va a) (hb : Lv vb b) (hn : 300 < n) (l1 : a.vars.length ≤ 100) (l2 : b.vars.length ≤ 100) :
    ∃ v h', evFn EF call n 202 [va, vb] .no h = some (.ret v, .no, h') ∧ Gx (fun v => Lv v (joinR a b)) h v h' := by
  obtain ⟨Va, rfl, a1, a2, a3, a4, a5, a6⟩ := ha.ex
  obtain ⟨Vb, rfl, b1, b2, b3, b4, b5, b6⟩ := hb.ex
  refine evFn_H cf202 (pureF _) ?_
  have n1 : ¬ (h.next = h.next + 1) := by omega
  have n2 : ¬ (h.next = h.next + 1 + 1) := by omega
  have n3 : ¬ (h.next = h.next + 1 + 1 + 1) := by omega
  have n4 : ¬ (h.next + 1 = h.next + 1 + 1) := by omega
  have n5 : ¬ (h.next + 1 = h.next + 1 + 1 + 1) := by omega
  have n6 : ¬ (h.next + 1 + 1 = h.next + 1 + 1 + 1) := by omega
  unfold b202
  simp only [go_sem, Nat.reduceEqDiff, Nat.reduceAdd, reduceCtorEq, s202_8, n1, n2, n4, max2, s202_7, s202_6, s202_5]
  refine R_loop (I202 a b Va Vb h) (a.vars.length + b.vars.length) (by omega) ⟨_, 0, 0, [], .nils, by omega, rfl, ⟨?_, ?_, ?_, ?_, own_nil _ _ _ _, (by (repeat' (first | assumption | exact Nat.le_refl _ | apply le_minN)) <;> omega), ?_, ?_, ?_, ?_, ?_, ?_⟩, ?_, ?_, ?_, ?_, ?_, ?_, ?_⟩ ?_
  · simp only [go_sem, n1, n2, n3]
  · simp only [go_sem, n4, n5]
  · show _ = _; simp only [go_sem, n6]
  · simp only [go_sem]
  · show h.next + 4 ≤ h.next + 1 + 1 + 1 + 1; omega
  · intro k hk
    rw [get_mk, Tr.get_put_other _ _ (by omega), Tr.get_put_other _ _ (by omega), Tr.get_put_other _ _ (by omega), Tr.get_put_other _ _ (by omega), Tr.get_put_other _ _ (by omega)]; rfl
  · omega
  · omega
  · rw [List.nil_append, List.drop_zero, List.drop_zero]
  · simp
  · simp only [go_sem, Nat.reduceEqDiff]
  · simp only [go_sem, Nat.reduceEqDiff]
  · simp only [go_sem, Nat.reduceEqDiff]
  · simp only [go_sem, Nat.reduceEqDiff]
  · simp only [go_sem, Nat.reduceEqDiff]; rfl
  · simp only [go_sem, Nat.reduceEqDiff]; rfl
  · simp only [go_sem]; rfl
  rintro j fr H ⟨tm, i, k, os, V', hj, rfl, hJ, t2, t3, t4, t5, t6, t7, t8⟩
  obtain ⟨g2, g3, g4, g5, own, low, nxt, keep, le1, le2, rest, olen⟩ := hJ
  obtain ⟨nx, lo, ob⟩ := H
  have g2 : ob.get h.next = some (.box [.int .i64 a.c, Va]) := g2
  have g3 : ob.get (h.next + 1) = some (.box [.int .i64 b.c, Vb]) := g3
  have g4 : ob.get (h.next + 2) = some (.box [.int .i64 0, .nils]) := g4
  have g5 : ob.get (h.next + 3) = some (.box [.int .i64 (max a.c b.c), V']) := g5
  have low : h.next ≤ lo := low
  have nxt : h.next + 4 ≤ nx := nxt
  have la := (a5 0 h).len
  have lb := (b5 0 h).len
  have m1 : ¬ (h.next = nx) := by omega
  have m2 : ¬ (h.next + 1 = nx) := by omega
  have m3 : ¬ (h.next + 3 = nx) := by omega
  have hwi := wrap_succ i (by omega)
  have hwk := wrap_succ k (by omega)
  unfold b202_2
  have fin : ∀ (x : LV) (i' k' : Nat) tm', i' ≤ a.vars.length → k' ≤ b.vars.length → i + k < i' + k' → (os ++ [x]) ++ mergeV (a.vars.drop i') (b.vars.drop k') = mergeV a.vars b.vars →
      nth tm' 2 = .ptr h.next 0 0 → nth tm' 3 = .ptr (h.next + 1) 0 0 → nth tm' 4 = .ptr (h.next + 2) 0 0 → nth tm' 5 = .ptr (h.next + 3) 0 0 → nth tm' 6 = .int .i64 (i' : Int) → nth tm' 7 = .int .i64 (k' : Int) → nth tm' 8 = .int .i64 (mostV os) → nth tm' 9 = .ptr nx 0 0 →
      ∀ lo' ob', h.next ≤ lo' → ob'.get nx = some (.box [.int .i64 x.idx, .int .i64 x.plus]) → (∀ k, k < nx → ob'.get k = ob.get k) →
      R call n [.code s202_0, .out 1] (LQ call n (I202 a b Va Vb h) j [.out 0, .code s202_4] (HQ h r202 (Gx (fun v => Lv v (joinR a b)) h))) .normal ⟨tm', ⟨[], .no, none, 202⟩⟩ ⟨nx + 1, lo', ob'⟩ := by
    intro x i' k' tm' e1 e2 e3 e4 u2 u3 u4 u5 u6 u7 u8 u9 lo' ob' w1 w2 w3
    have f5 : ob'.get (h.next + 3) = some (.box [.int .i64 (max a.c b.c), V']) := (w3 _ (by omega)).trans g5
    obtain ⟨v', h', c1, c2, c3, c4, c5, c6, c7, c8⟩ := own_append (bytes := 16) (z := [.int .i64 0, .int .i64 0]) (own_keep (h' := ⟨nx + 1, lo', ob'⟩) own (by show nx ≤ nx + 1; omega) (fun k _ hk => w3 k hk)) (by show h.next + 4 ≤ nx + 1; omega) rfl (x := encV x) rfl rfl rfl (by rw [List.length_map]; omega) (by omega)
    have c1 : evAppend ⟨nx + 1, lo', ob'⟩ 2 true [.int .i64 0, .int .i64 0] 16 V' (.clip [.agg [.int .i64 x.idx, .int .i64 x.plus]]) = some (v', h') := c1
    rw [show os.map encV ++ [encV x] = (os ++ [x]).map encV by simp] at c2
    have rd := own_Rd c2
    have hvc := rd.cell
    have hvl := rd.lies
    obtain ⟨nx2, lo2, ob2⟩ := h'
    have c3 : nx + 1 ≤ nx2 := c3
    have c4 : ∀ k, k < h.next + 4 → ob2.get k = ob'.get k := c4
    have c5 : h.next ≤ lo2 := c5 h.next (by omega) w1
    have f5' : ob2.get (h.next + 3) = some (.box [.int .i64 (max a.c b.c), V']) := (c4 _ (by omega)).trans f5
    unfold s202_0
    simp only [go_sem, Nat.reduceEqDiff, Nat.reduceAdd, Nat.reduceMul, u8, u9, w2, max2, u5, f5, c1, f5', hvc, hvl]
    refine ⟨a.vars.length + b.vars.length - i' - k', by omega, _, i', k', os ++ [x], v', by omega, rfl, ⟨?_, ?_, ?_, ?_, ?_, (by (repeat' (first | assumption | exact Nat.le_refl _ | apply le_minN)) <;> omega), by show h.next + 4 ≤ nx2; omega, fun k hk => ?_, e1, e2, e4, by simp; omega⟩, by simp only [go_sem, Nat.reduceEqDiff, u2], by simp only [go_sem, Nat.reduceEqDiff, u3], by simp only [go_sem, Nat.reduceEqDiff, u4], by simp only [go_sem, Nat.reduceEqDiff, u5], by simp only [go_sem, Nat.reduceEqDiff, u6], by simp only [go_sem, Nat.reduceEqDiff, u7], by simp only [go_sem, Nat.reduceEqDiff, mostV_snoc]⟩
    · rw [get_mk, Tr.get_put_other _ _ (by omega), c4 _ (by omega), w3 _ (by omega)]; exact g2
    · rw [get_mk, Tr.get_put_other _ _ (by omega), c4 _ (by omega), w3 _ (by omega)]; exact g3
    · rw [get_mk, Tr.get_put_other _ _ (by omega), c4 _ (by omega), w3 _ (by omega)]; exact g4
    · rw [get_mk, Tr.get_put_same]
    · exact own_keep c2 (Nat.le_refl _) fun k h1 _ => by rw [get_mk, Tr.get_put_other _ _ (by omega)]; rfl
    · rw [get_mk, Tr.get_put_other _ _ (by omega), c4 _ (by omega), w3 _ (by omega)]; exact keep k hk
  by_cases hi : i < a.vars.length
  · have d1 : decide ((i : Int) < (a.vars.length : Int)) = true := decide_eq_true (by omega)
    obtain ⟨x, hx⟩ : ∃ x, a.vars[i]? = some x := ⟨_, List.getElem?_eq_getElem hi⟩
    have ia := a6 i x hx
    have hxv : encV x = .agg [.int .i64 x.idx, .int .i64 x.plus] := rfl
    rw [hxv] at ia
    have dx := drop_get hx
    by_cases hk : k < b.vars.length
    · obtain ⟨y, hy⟩ : ∃ y, b.vars[k]? = some y := ⟨_, List.getElem?_eq_getElem hk⟩
      have ib := b6 k y hy
      have hyv : encV y = .agg [.int .i64 y.idx, .int .i64 y.plus] := rfl
      rw [hyv] at ib
      have dy := drop_get hy
      have d2 : decide ((k : Int) = (b.vars.length : Int)) = false := decide_eq_false (by omega)
      by_cases hlt : x.idx < y.idx
      · have d3 : decide (x.idx < y.idx) = true := decide_eq_true hlt
        simp only [go_sem, Nat.reduceEqDiff, Nat.reduceAdd, t6, t7, t2, t3, g2, g3, la, lb, d1, d2, s202_1, ia, ib, m1, m2, d3, hwi]
        refine fin x (i + 1) k _ (by omega) le2 (by omega) ?_ (by simp only [go_sem, Nat.reduceEqDiff, t2]) (by simp only [go_sem, Nat.reduceEqDiff, t3]) (by simp only [go_sem, Nat.reduceEqDiff, t4]) (by simp only [go_sem, Nat.reduceEqDiff, t5]) (by simp only [go_sem]) (by simp only [go_sem, Nat.reduceEqDiff, t7]) (by simp only [go_sem, Nat.reduceEqDiff, t8]) (by simp only [go_sem, Nat.reduceEqDiff]) _ _ (by (repeat' (first | assumption | exact Nat.le_refl _ | apply le_minN)) <;> omega) (by simp only [go_sem]) (by intros; (repeat rw [Tr.get_put_other _ _ (by omega)]))
        rw [← rest, dx, dy, mergeV, if_pos hlt, List.append_assoc]; rfl
      · have d3 : decide (x.idx < y.idx) = false := decide_eq_false hlt
        have d4 : decide ((i : Int) = (a.vars.length : Int)) = false := decide_eq_false (by omega)
        by_cases hgt : y.idx < x.idx
        · have d5 : decide (y.idx < x.idx) = true := decide_eq_true hgt
          simp only [go_sem, Nat.reduceEqDiff, Nat.reduceAdd, t6, t7, t2, t3, g2, g3, la, lb, d1, d2, d4, d5, s202_1, ia, ib, m1, m2, d3, hwk]
          refine fin y i (k + 1) _ (by omega) (by omega) (by omega) ?_ (by simp only [go_sem, Nat.reduceEqDiff, t2]) (by simp only [go_sem, Nat.reduceEqDiff, t3]) (by simp only [go_sem, Nat.reduceEqDiff, t4]) (by simp only [go_sem, Nat.reduceEqDiff, t5]) (by simp only [go_sem, Nat.reduceEqDiff, t6]) (by simp only [go_sem]) (by simp only [go_sem, Nat.reduceEqDiff, t8]) (by simp only [go_sem, Nat.reduceEqDiff]) _ _ (by (repeat' (first | assumption | exact Nat.le_refl _ | apply le_minN)) <;> omega) (by simp only [go_sem]) (by intros; (repeat rw [Tr.get_put_other _ _ (by omega)]))
          rw [← rest, dx, dy, mergeV, if_neg hlt, if_pos hgt, List.append_assoc]; rfl
        · have d5 : decide (y.idx < x.idx) = false := decide_eq_false hgt
          simp only [go_sem, Nat.reduceEqDiff, Nat.reduceAdd, t6, t7, t2, t3, g2, g3, la, lb, d1, d2, d4, d5, s202_1, ia, ib, m1, m2, d3, hwi, hwk, max2]
          refine fin ⟨x.idx, max x.plus y.plus⟩ (i + 1) (k + 1) _ (by omega) (by omega) (by omega) ?_ (by simp only [go_sem, Nat.reduceEqDiff, t2]) (by simp only [go_sem, Nat.reduceEqDiff, t3]) (by simp only [go_sem, Nat.reduceEqDiff, t4]) (by simp only [go_sem, Nat.reduceEqDiff, t5]) (by simp only [go_sem, Nat.reduceEqDiff]) (by simp only [go_sem]) (by simp only [go_sem, Nat.reduceEqDiff, t8]) (by simp only [go_sem, Nat.reduceEqDiff]) _ _ (by (repeat' (first | assumption | exact Nat.le_refl _ | apply le_minN)) <;> omega) (by simp only [go_sem]) (by intros; (repeat rw [Tr.get_put_other _ _ (by omega)]))
          rw [← rest, dx, dy, mergeV, if_neg hlt, if_neg hgt, List.append_assoc]; rfl
    · have hk' : k = b.vars.length := by omega
      have d2 : decide ((k : Int) = (b.vars.length : Int)) = true := decide_eq_true (by omega)
      have dy : b.vars.drop k = [] := by rw [hk', List.drop_length]
      simp only [go_sem, Nat.reduceEqDiff, Nat.reduceAdd, t6, t7, t2, t3, g2, g3, la, lb, d1, d2, s202_1, ia, m1, m2, hwi]
      refine fin x (i + 1) k _ (by omega) le2 (by omega) ?_ (by simp only [go_sem, Nat.reduceEqDiff, t2]) (by simp only [go_sem, Nat.reduceEqDiff, t3]) (by simp only [go_sem, Nat.reduceEqDiff, t4]) (by simp only [go_sem, Nat.reduceEqDiff, t5]) (by simp only [go_sem]) (by simp only [go_sem, Nat.reduceEqDiff, t7]) (by simp only [go_sem, Nat.reduceEqDiff, t8]) (by simp only [go_sem, Nat.reduceEqDiff]) _ _ (by (repeat' (first | assumption | exact Nat.le_refl _ | apply le_minN)) <;> omega) (by simp only [go_sem]) (by intros; (repeat rw [Tr.get_put_other _ _ (by omega)]))
      rw [← rest, dx, dy, mergeV_nil, mergeV_nil, List.append_assoc]; rfl
  · have hi' : i = a.vars.length := by omega
    have d1 : decide ((i : Int) < (a.vars.length : Int)) = false := decide_eq_false (by omega)
    have dx : a.vars.drop i = [] := by rw [hi', List.drop_length]
    by_cases hk : k < b.vars.length
    · obtain ⟨y, hy⟩ : ∃ y, b.vars[k]? = some y := ⟨_, List.getElem?_eq_getElem hk⟩
      have ib := b6 k y hy
      have hyv : encV y = .agg [.int .i64 y.idx, .int .i64 y.plus] := rfl
      rw [hyv] at ib
      have dy := drop_get hy
      have d2 : decide ((k : Int) = (b.vars.length : Int)) = false := decide_eq_false (by omega)
      have d3 : decide ((k : Int) < (b.vars.length : Int)) = true := decide_eq_true (by omega)
      have d4 : decide ((i : Int) = (a.vars.length : Int)) = true := decide_eq_true (by omega)
      simp only [go_sem, Nat.reduceEqDiff, Nat.reduceAdd, t6, t7, t2, t3, g2, g3, la, lb, d1, d2, d3, d4, s202_1, ib, m1, m2, hwk]
      refine fin y i (k + 1) _ (by omega) (by omega) (by omega) ?_ (by simp only [go_sem, Nat.reduceEqDiff, t2]) (by simp only [go_sem, Nat.reduceEqDiff, t3]) (by simp only [go_sem, Nat.reduceEqDiff, t4]) (by simp only [go_sem, Nat.reduceEqDiff, t5]) (by simp only [go_sem, Nat.reduceEqDiff, t6]) (by simp only [go_sem]) (by simp only [go_sem, Nat.reduceEqDiff, t8]) (by simp only [go_sem, Nat.reduceEqDiff]) _ _ (by (repeat' (first | assumption | exact Nat.le_refl _ | apply le_minN)) <;> omega) (by simp only [go_sem]) (by intros; (repeat rw [Tr.get_put_other _ _ (by omega)]))
      rw [← rest, dx, dy, mergeV, mergeV, List.append_assoc]; rfl
    · have hk' : k = b.vars.length := by omega
      have d3 : decide ((k : Int) < (b.vars.length : Int)) = false := decide_eq_false (by omega)
      have dy : b.vars.drop k = [] := by rw [hk', List.drop_length]
      rw [dx, dy, mergeV, List.append_nil] at rest
      have rd := own_Rd own
      have hvc := rd.cell
      have hvl := rd.lies
      have hvn := rd.len
      have q1 : ¬ (h.next + 2 = h.next + 3) := by omega
      have q2 : ¬ (h.next + 3 = h.next + 2) := by omega
      have cls : ∀ (c' : Int) lo' ob', (∀ k, h.next + 4 ≤ k → ob'.get k = ob.get k) → Lv (.agg [.int .i64 c', AG.frz 3 ⟨nx, lo', ob'⟩ h.next V']) ⟨c', os⟩ := by
        intro c' lo' ob' hob
        rcases own_frzB (m := 2) (fb := h.next) (own_keep (h' := ⟨nx, lo', ob'⟩) own (Nat.le_refl _) (fun k h1 _ => hob k h1)) (by omega) (fun e => by cases e) (fun x hx => by obtain ⟨y, _, rfl⟩ := List.mem_map.1 hx; exact encV_frz _ _ _ _) with ⟨_, e0, ef⟩ | ef
        · rw [ef]
          have e0 : os = [] := by simpa using e0
          rw [e0]; exact Lv_nils _
        · rw [ef]; exact Lv_lst _ _
      have ej : joinR a b = ⟨if 0 < os.length ∧ max a.c b.c ≤ mostV os then 0 else max a.c b.c, os⟩ := by unfold joinR; rw [← rest]
      by_cases hz : 0 < os.length
      · have dz : decide ((0 : Int) < (os.length : Int)) = true := decide_eq_true (by omega)
        by_cases hle : max a.c b.c ≤ mostV os
        · have dl : decide (max a.c b.c ≤ mostV os) = true := decide_eq_true hle
          simp only [go_sem, Nat.reduceEqDiff, Nat.reduceAdd, Nat.reduceLeDiff, t6, t7, t2, t3, t8, g2, g3, la, lb, d1, d3, s202_4, t5, g5, hvn, dz, dl, s202_3, q1, t4, g4]
          refine HQ_gx (.inr rfl) (by (repeat' (first | assumption | exact Nat.le_refl _ | apply le_minN)) <;> omega) (by show h.next ≤ nx; omega) (by simp only [go_sem, Nat.reduceEqDiff, Nat.reduceAdd, r202, t4]; rfl) ?_
          rw [one_1, frz_aggS, ej, if_pos ⟨hz, hle⟩]
          simp only [List.map_cons, List.map_nil, frz_int]
          exact cls _ _ _ (by intros; (repeat rw [Tr.get_put_other _ _ (by omega)]))
        · have dl : decide (max a.c b.c ≤ mostV os) = false := decide_eq_false hle
          simp only [go_sem, Nat.reduceEqDiff, Nat.reduceAdd, t6, t7, t2, t3, t8, g2, g3, la, lb, d1, d3, s202_4, t5, g5, hvn, dz, dl, s202_3, t4, g4]
          refine HQ_gx (.inr rfl) (by (repeat' (first | assumption | exact Nat.le_refl _ | apply le_minN)) <;> omega) (by show h.next ≤ nx; omega) (by simp only [go_sem, Nat.reduceEqDiff, Nat.reduceAdd, r202, t4]; rfl) ?_
          rw [one_1, frz_aggS, ej, if_neg (fun e => hle e.2)]
          simp only [List.map_cons, List.map_nil, frz_int]
          exact cls _ _ _ (by intros; (repeat rw [Tr.get_put_other _ _ (by omega)]))
      · have dz : decide ((0 : Int) < (os.length : Int)) = false := decide_eq_false (by omega)
        simp only [go_sem, Nat.reduceEqDiff, Nat.reduceAdd, t6, t7, t2, t3, g2, g3, la, lb, d1, d3, s202_4, t5, g5, hvn, dz, s202_3, t4, g4]
        refine HQ_gx (.inr rfl) (by (repeat' (first | assumption | exact Nat.le_refl _ | apply le_minN)) <;> omega) (by show h.next ≤ nx; omega) (by simp only [go_sem, Nat.reduceEqDiff, Nat.reduceAdd, r202, t4]; rfl) ?_
        rw [one_1, frz_aggS, ej, if_neg (fun e => hz e.1)]
        simp only [List.map_cons, List.map_nil, frz_int]
        exact cls _ _ _ (by intros; (repeat rw [Tr.get_put_other _ _ (by omega)]))
end Go.Proofs.YtnacljdablhbgaaGreat
