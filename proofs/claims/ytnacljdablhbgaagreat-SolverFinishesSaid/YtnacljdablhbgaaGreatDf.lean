/- SolverFinishes: Valid of the program, exactly (no condition). -/
import Derived.Test.YtnacljdablhbgaaGreatDe
namespace Go.Proofs.YtnacljdablhbgaaGreat
open Go.AG
attribute [local go_sem] RD_max RD_lookup birth_lookup build_1i build_2i build_p1
def I135 (c : Int) (vs : List LV) (j : Nat) (fr : AF) (h : AH) : Prop := ∃ tm m nx lo ob, m + j = vs.length ∧ fr = ⟨tm, ⟨[], .no, none, 135⟩⟩ ∧ h = ⟨nx, lo, ob⟩ ∧ 0 < nx ∧ ob.get 0 = some (.box [.int .i64 c, .lst (vs.map encV)]) ∧
    nth tm 1 = .ptr 0 0 0 ∧ nth tm 23 = .lst (vs.map encV) ∧ nth tm 24 = .int .i64 (vs.length : Int) ∧ nth tm 25 = .int .i64 (m : Int) ∧ Pre Rng vs m
theorem run135 (call : CallF) (n : Nat) (c : Int) (vs : List LV) (hn : vs.length < n) (hl : vs.length < 9000)
    (h192 : ∀ h : AH, ∃ nx, h.next ≤ nx ∧ call (.fn 192 [] []) [.agg [.int .i64 c, .lst (vs.map encV)]] .no h = some (.ret (.bool (covd ⟨c, vs⟩)), .no, ⟨nx, h.low, h.objs⟩)) :
    R call n [.code b135] (FX r135 (vB ⟨c, vs⟩)) .normal ⟨startTm [encL ⟨c, vs⟩], ⟨[], .no, none, 135⟩⟩ emptyH := by
  unfold b135 r135 emptyH encL
  have hlen : ∀ H, lenOf (.lst (vs.map encV)) H 1 = some vs.length := fun H => by rw [len_lst, List.length_map]
  have main : (0 ≤ c ∧ c ≤ 100 ∧ (0 < c → ∀ (i : Nat) x, vs[i]? = some x → x.plus < c)) → ∀ tm nx lo ob, 0 < nx → ob.get 0 = some (.box [.int .i64 c, .lst (vs.map encV)]) → nth tm 1 = .ptr 0 0 0 →
      R call n [.code s135_5] (FX [.tmp 2] (vB ⟨c, vs⟩)) .normal ⟨tm, ⟨[], .no, none, 135⟩⟩ ⟨nx, lo, ob⟩ := by
    rintro ⟨c0, c1, hcov⟩ tm nx lo ob hnx g t1
    unfold s135_5
    simp only [go_sem, t1, g, hlen]
    refine R_loop (I135 c vs) vs.length hn ⟨_, 0, _, _, _, Nat.zero_add _, rfl, rfl, hnx, g, by simp only [go_sem, Nat.reduceEqDiff, t1], by simp only [go_sem, Nat.reduceEqDiff], by simp only [go_sem, Nat.reduceEqDiff], by simp only [go_sem]; rfl, .zero⟩ ?_
    clear t1 g hnx
    rintro j fr h ⟨tm, m, nx, lo, ob, hm, rfl, rfl, hnx, hg, h1, h23, h24, h25, hp⟩
    unfold b135_3
    simp only [go_sem, s135_2, h24, h25]
    refine sB_dec (fun hlt => ?_) (fun hge => ?_)
    · have hlt : m < vs.length := by omega
      have hget : vs[m]? = some vs[m] := List.getElem?_eq_getElem hlt
      have ha := fun h => iaddr_map encV_cells hget .i64 h
      have hw2 := wrap_succ m (by omega)
      have hne : ¬ (0 = nx) := by omega
      have hv : encV vs[m] = .agg [.int .i64 vs[m].idx, .int .i64 vs[m].plus] := rfl
      have nxt : Pre Rng vs (m + 1) → ∀ tm' nx' lo' ob', 0 < nx' → ob'.get 0 = some (.box [.int .i64 c, .lst (vs.map encV)]) → nth tm' 1 = .ptr 0 0 0 → nth tm' 23 = .lst (vs.map encV) → nth tm' 24 = .int .i64 (vs.length : Int) → nth tm' 25 = .int .i64 ((m + 1 : Nat) : Int) →
          ∃ j', j' < j ∧ I135 c vs j' ⟨tm', ⟨[], .no, none, 135⟩⟩ ⟨nx', lo', ob'⟩ := fun hp' tm' nx' lo' ob' q1 q2 u1 u23 u24 u25 => ⟨j - 1, by omega, tm', m + 1, nx', lo', ob', by omega, rfl, rfl, q1, q2, u1, u23, u24, u25, hp'⟩
      cases m with
      | zero =>
        have hd : decide ((0 : Int) < ((0 : Nat) : Int)) = false := by simp
        repeat' (first | simp only [go_sem, Nat.reduceEqDiff, Nat.reduceAdd, Int.reduceNeg, *, s135_1, s135_0, FX_ret, vB_b] | refine sG_nbool (fun _ => ?_) (fun _ => ?_) | refine sG_bool (fun _ => ?_) (fun _ => ?_) | refine sB_nbool (fun _ => ?_) (fun _ => ?_) | refine sB_bool (fun _ => ?_) (fun _ => ?_) | refine dC_nbool (fun _ => ?_) (fun _ => ?_) | refine dC_bool (fun _ => ?_) (fun _ => ?_))
        all_goals simp only [decide_eq_true_eq, decide_eq_false_iff_not, Int.not_lt] at *
        all_goals first
          | (refine (vl_f fun v => ?_).symm; obtain ⟨_, _, _, _⟩ := v.rng 0 _ hget; omega)
          | (refine nxt (.succ0 hget ⟨by omega, by omega, by omega, by omega⟩) _ _ _ _ (by omega) (by simp only [go_sem, *]) (by simp only [go_sem, Nat.reduceEqDiff, *]) (by simp only [go_sem, Nat.reduceEqDiff, *]) (by simp only [go_sem, Nat.reduceEqDiff, *]) (by simp only [go_sem, *]))
      | succ p =>
        have hgp : vs[p]? = some vs[p] := List.getElem?_eq_getElem (by omega)
        have ha3 := fun h => iaddr_map encV_cells hgp .i64 h
        have hv3 : encV vs[p] = .agg [.int .i64 vs[p].idx, .int .i64 vs[p].plus] := rfl
        have hw3 : IntKind.wrap .i64 (((p + 1 : Nat) : Int) - 1) = (p : Int) := by rw [wrap_fits _ (by omega) (by omega)]; omega
        have hd : decide ((0 : Int) < ((p + 1 : Nat) : Int)) = true := by simp
        repeat' (first | simp only [go_sem, Nat.reduceEqDiff, Nat.reduceAdd, Int.reduceNeg, *, s135_1, s135_0, FX_ret, vB_b] | refine sG_nbool (fun _ => ?_) (fun _ => ?_) | refine sG_bool (fun _ => ?_) (fun _ => ?_) | refine sB_nbool (fun _ => ?_) (fun _ => ?_) | refine sB_bool (fun _ => ?_) (fun _ => ?_) | refine dC_nbool (fun _ => ?_) (fun _ => ?_) | refine dC_bool (fun _ => ?_) (fun _ => ?_))
        all_goals simp only [decide_eq_true_eq, decide_eq_false_iff_not, Int.not_lt, Int.not_le] at *
        all_goals first
          | (refine not_VLo hgp hget ?_; omega)
          | (refine (vl_f fun v => ?_).symm; obtain ⟨_, _, _, _⟩ := v.rng (p + 1) _ hget; omega)
          | (refine nxt (.succ hp hgp hget ⟨by omega, by omega, by omega, by omega⟩ (by omega)) _ _ _ _ (by omega) (by simp only [go_sem, *]) (by simp only [go_sem, Nat.reduceEqDiff, *]) (by simp only [go_sem, Nat.reduceEqDiff, *]) (by simp only [go_sem, Nat.reduceEqDiff, *]) (by simp only [go_sem, *]))
    · have : m = vs.length := by omega
      subst this
      repeat' (first | simp only [go_sem, *, s135_4, FX_ret, vB_b] | refine sG_nbool (fun _ => ?_) (fun _ => ?_) | refine sG_bool (fun _ => ?_) (fun _ => ?_) | refine sB_nbool (fun _ => ?_) (fun _ => ?_) | refine sB_bool (fun _ => ?_) (fun _ => ?_) | refine dC_nbool (fun _ => ?_) (fun _ => ?_) | refine dC_bool (fun _ => ?_) (fun _ => ?_))
      have lt : ∀ {i : Nat} {x}, vs[i]? = some x → i < vs.length := fun e => (List.getElem?_eq_some_iff.1 e).1
      exact (vl_t ⟨c0, c1, fun i x e => hp.rng i x (lt e) e, fun i x y e e' => hp.ord i x y (lt e') e e', hcov⟩).symm
  by_cases hc0 : c < 0
  · have d1 : decide (c < 0) = true := decide_eq_true hc0
    simp only [go_sem, Nat.reduceEqDiff, Nat.reduceAdd, s135_6, d1, FX_ret, vB_b]
    exact not_VLc (by omega)
  · have d1 : decide (c < 0) = false := decide_eq_false hc0
    by_cases hc1 : 100 < c
    · have d2 : decide (100 < c) = true := decide_eq_true hc1
      simp only [go_sem, Nat.reduceEqDiff, Nat.reduceAdd, s135_6, d1, d2, FX_ret, vB_b]
      exact not_VLc (by omega)
    · have d2 : decide (100 < c) = false := decide_eq_false hc1
      by_cases hp : 0 < c
      · have d3 : decide (0 < c) = true := decide_eq_true hp
        obtain ⟨nx, h1, e1⟩ := h192 ⟨1, 0, Tr.lf.put 0 (.box [.int .i64 c, .lst (vs.map encV)])⟩
        cases hcv : covd ⟨c, vs⟩ with
        | true =>
          rw [hcv] at e1
          simp only [go_sem, Nat.reduceEqDiff, Nat.reduceAdd, s135_6, d1, d2, d3, e1, FX_ret, vB_b]
          refine (vl_f fun v => ?_).symm
          obtain ⟨x, hx, hxc⟩ := List.any_eq_true.1 hcv
          obtain ⟨i, hi⟩ := List.mem_iff_getElem?.1 hx
          have := v.cov hp i x hi
          have := of_decide_eq_true hxc
          have h' : (LL.mk c vs).c ≤ x.plus := this
          have h'' : x.plus < c := by assumption
          have h3 : (LL.mk c vs).c = c := rfl
          omega
        | false =>
          rw [hcv] at e1
          simp only [go_sem, Nat.reduceEqDiff, Nat.reduceAdd, s135_6, d1, d2, d3, e1]
          refine main ⟨by omega, by omega, fun _ i x hx => ?_⟩ _ _ _ _ (by have h1 : 1 ≤ nx := h1; omega) (by simp only [go_sem]) (by simp only [go_sem, Nat.reduceEqDiff])
          have := List.any_eq_false.1 hcv x (List.mem_of_getElem? hx)
          simp at this
          exact this
      · have d3 : decide (0 < c) = false := decide_eq_false hp
        simp only [go_sem, Nat.reduceEqDiff, Nat.reduceAdd, s135_6, d1, d2, d3]
        exact main ⟨by omega, by omega, fun h => absurd h hp⟩ _ _ _ _ (by omega) (by simp only [go_sem]) (by simp only [go_sem, Nat.reduceEqDiff])
theorem ansF_of {f : FuncId} {az : List AV} {P : AOut → Prop} {call : CallF} {n nt : Nat} {rs : List ARes} {body : ACode} (hc : CallOk CI call) (hcf : EF.cf f = some ⟨nt, rs, body⟩) (hp : EF.pure f = true) (hfr : AV.frees az = true) (hfo : ∀ o, P o → o.free = true)
    (hR : R call n [.code body] (FX rs P) .normal ⟨startTm az, ⟨[], .no, none, f⟩⟩ emptyH) : ∃ o, P o ∧ Ans CI (.fn f [] []) az o := by
  obtain ⟨e, fr, h, q, o, hP, hQ⟩ := hR
  obtain ⟨h', o', q1, q2⟩ := evFn_R (o := o) hcf hp ⟨e, fr, h, q, hQ⟩
  refine ⟨o, hP, by simp [AV.free, AV.frees], hfr, hfo o hP, _, h', o', step_ok hEF hc n, ?_, q2⟩
  show evFn EF call n f (app [] (app az [])) .no emptyH = _
  rw [app_eq, app_eq]; simpa using q1
def KN : CallF := fun _ _ _ _ => none
theorem KN_ok : CallOk CI KN := by intro f a rc h out rc' h' q; cases q
theorem KN_runs : Runs KN := ⟨fun _ _ _ _ _ _ => rfl, fun _ _ _ _ => rfl⟩
theorem A135 (x : LL) (hl : x.vars.length < 9000) : ∃ o, vB x o ∧ Ans CI (.fn 135 [] []) (aL x) o :=
  ansF_of (n := 30000) (cK_ok KN_ok 4) cf135 (pureF 135) (by simp [aL, AV.frees, encL_free]) (by rintro o rfl; simp [AOut.free, AV.free]) (run135 (cK KN 4) 30000 x.c x.vars (by omega) hl (fun h => c192 KN_runs 0 _ x.c x.vars h (Rd.lst encV_cells (fun _ => rfl) x.vars) (by omega)))
theorem A21x (x : LL) (hl : x.vars.length < 9000) : ∃ o, vB x o ∧ Ans CI (.fn 21 [] []) (aL x) o :=
  ansF_of (n := 30000) KN_ok ((cfE 21).trans cf21) (pureF 21) (by simp [aL, AV.frees, encL_free]) (by rintro o rfl; simp [AOut.free, AV.free]) (run21x KN 30000 x.c x.vars (by omega) (by omega))
attribute [local go_sem] RD_max RD_lookup birth_lookup build_1i build_2i build_p1
theorem c146 {K : CallF} (hK : Runs K) (hv : KV K) (m0 : Nat) (a b : LL) (va vb : AV) (h : AH) (ha : Lv va a) (hb : Lv vb b) (l1 : a.vars.length ≤ 100) (l2 : b.vars.length ≤ 100) (v1 : VL a) (v2 : VL b) :
    ∃ v nx, h.next ≤ nx ∧ cK K (m0 + 2) (.fn 146 [] []) [va, vb] .no h = some (.ret v, .no, ⟨nx, h.low, h.objs⟩) ∧ isLv (joinR a b, 0) v := by
  rw [cK_run hK _ 146]
  have key : ∃ v h', evFn EF (cK K (m0 + 1)) 30000 146 [va, vb] .no h = some (.ret v, .no, h') ∧ Gx (isLv (joinR a b, 0)) h v h' := by
    have e1 := fun h => cK_known (hv.r21 va a h ha (by omega)) (m0 + 1)
    have e2 := fun h => cK_known (hv.r21 vb b h hb (by omega)) (m0 + 1)
    rw [vl_t v1] at e1
    rw [vl_t v2] at e2
    have ha' := ha
    have hb' := hb
    obtain ⟨Va, rfl, a1, a2, a3, a4, a5, a6⟩ := ha.ex
    obtain ⟨Vb, rfl, b1, b2, b3, b4, b5, b6⟩ := hb.ex
    refine evFn_H cf146 (pureF _) ?_
    have n1 : ¬ (h.next = h.next + 1) := by omega
    have n2 : ¬ (h.next = h.next + 1 + 1) := by omega
    have n3 : ¬ (h.next + 1 = h.next + 1 + 1) := by omega
    unfold b146
    obtain ⟨ob, hob⟩ : ∃ ob, ob = ((h.objs.put h.next (.box [.int .i64 a.c, Va])).put (h.next + 1) (.box [.int .i64 b.c, Vb])).put (h.next + 1 + 1) (.box [.int .i64 0, .nils]) := ⟨_, rfl⟩
    have g2 : ob.get h.next = some (.box [.int .i64 a.c, Va]) := by simp only [hob, go_sem, n1, n2]
    have g3 : ob.get (h.next + 1) = some (.box [.int .i64 b.c, Vb]) := by simp only [hob, go_sem, n3]
    have g4 : ob.get (h.next + 1 + 1) = some (.box [.int .i64 0, .nils]) := by simp only [hob, go_sem]
    obtain ⟨v, nx, w1, w2, w3⟩ := c202 hK m0 a b _ _ ⟨h.next + 1 + 1 + 1, h.next, ob⟩ ha' hb' l1 l2
    have w1 : h.next + 1 + 1 + 1 ≤ nx := w1
    obtain ⟨A, ea, _, ea1, ea2, ea3, _, _⟩ := w3.ex
    rw [ea] at w2
    simp only [go_sem, Nat.reduceEqDiff, Nat.reduceAdd, reduceCtorEq]
    rw [← hob]
    simp only [go_sem, Nat.reduceEqDiff, Nat.reduceAdd, s146_1, g2, g3, e1, e2, s146_0, w2, g4]
    refine HQ_gx (.inr rfl) (by (repeat' (first | assumption | exact Nat.le_refl _ | apply le_minN)) <;> omega) (by show h.next ≤ nx; omega) (by simp only [go_sem, Nat.reduceEqDiff, Nat.reduceAdd, r146]; rfl) ?_
    rw [one_2, frz_tupS]
    simp only [List.map_cons, List.map_nil, frz_aggS, frz_int, ea3]
    exact ⟨_, rfl, by rw [← ea]; exact w3⟩
  obtain ⟨v, h', e, g⟩ := key
  obtain ⟨nx, h1, rfl⟩ := Gx_eq g
  exact ⟨v, nx, h1, e, g.1⟩
def encP (x : LV) : AV := .agg [.int .i64 0, .clip [.agg [.int .i64 x.idx, .int .i64 x.plus]]]
def partsR (l : LL) : List LL := (if 0 < l.c ∨ l.vars.length = 0 then [⟨l.c, []⟩] else []) ++ l.vars.map fun x => ⟨0, [x]⟩
def headA (l : LL) : List AV := if 0 < l.c ∨ l.vars.length = 0 then [.agg [.int .i64 l.c, .nils]] else []
def partsA (l : LL) : List AV := headA l ++ l.vars.map encP
theorem partsA_get (l : LL) {i : Nat} {x : LL} (h : (partsR l)[i]? = some x) : ∃ a, (partsA l)[i]? = some a ∧ Lv a x ∧ a.cells.length = 2 ∧ a.isAgg = true := by
  have key : ∀ (vs : List LV) (i : Nat) x, (vs.map fun x => (⟨0, [x]⟩ : LL))[i]? = some x → ∃ a, (vs.map encP)[i]? = some a ∧ Lv a x ∧ a.cells.length = 2 ∧ a.isAgg = true := by
    intro vs i x h
    rw [List.getElem?_map] at h
    cases hv : vs[i]? with
    | none => rw [hv] at h; cases h
    | some y =>
      rw [hv] at h
      cases h
      exact ⟨encP y, by rw [List.getElem?_map, hv]; rfl, Lv_clip1 0 y, rfl, rfl⟩
  unfold partsR at h
  unfold partsA headA
  by_cases hc : 0 < l.c ∨ l.vars.length = 0
  · rw [if_pos hc] at h ⊢
    cases i with
    | zero => cases h; exact ⟨_, rfl, Lv_nils _, rfl, rfl⟩
    | succ i => exact key l.vars i x h
  · rw [if_neg hc] at h ⊢
    exact key l.vars i x h
theorem partsA_len (l : LL) : (partsA l).length = (partsR l).length := by
  unfold partsA partsR headA
  by_cases hc : 0 < l.c ∨ l.vars.length = 0
  · rw [if_pos hc, if_pos hc]; simp
  · rw [if_neg hc, if_neg hc]; simp
theorem parts_RdL (l : LL) (b : Nat) (h : AH) : RdL b h (.lst (partsA l)) (partsR l) :=
  ⟨fun h => by rw [len_lst, partsA_len], fun i x e => by
    obtain ⟨a, ha, hl, hc, hg⟩ := partsA_get l e
    exact ⟨.vptr a, a, hl, fun H _ => ⟨iaddr_lst (Int.natCast_nonneg i) (by rw [Int.toNat_natCast]; exact ha) hc, load_vptr true 2 hg hc⟩⟩, rfl, rfl⟩
theorem headA_len (l : LL) : (headA l).length ≤ 1 := by unfold headA; split <;> simp
def I143 (l : LL) (V : AV) (h0 : AH) (j : Nat) (fr : AF) (h : AH) : Prop := ∃ tm m V', m + j = l.vars.length ∧ fr = ⟨tm, ⟨[], .no, none, 143⟩⟩ ∧ h0.next < h.next ∧ h0.next ≤ h.low ∧ h.get h0.next = some (.box [.int .i64 l.c, V]) ∧
    Own (h0.next + 1) 2 true h V' (headA l ++ (l.vars.take m).map encP) ∧ nth tm 1 = .ptr h0.next 0 0 ∧ nth tm 3 = V' ∧ nth tm 4 = .int .i64 (m : Int)
theorem encP_frz (m : Nat) (h : AH) (b : Nat) (x : LV) : frz m h b (encP x) = encP x := by
  cases m with
  | zero => rfl
  | succ m => unfold encP; rw [frz_aggS]; simp only [List.map_cons, List.map_nil, frz_int, frz_clip]
theorem c143 {K : CallF} (hK : Runs K) (m0 : Nat) (l : LL) (a : AV) (h : AH) (ha : Lv a l) (hl : l.vars.length ≤ 100) :
    ∃ v nx, h.next ≤ nx ∧ cK K (m0 + 1) (.fn 143 [] []) [a] .no h = some (.ret v, .no, ⟨nx, h.low, h.objs⟩) ∧ v = .lst (partsA l) := by
  rw [cK_run hK _ 143]
  have key : ∃ v h', evFn EF (cK K m0) 30000 143 [a] .no h = some (.ret v, .no, h') ∧ Gx (fun v => v = .lst (partsA l)) h v h' := by
    obtain ⟨V, rfl, a1, a2, a3, a4, a5, a6⟩ := ha.ex
    have la := (a5 0 h).len
    refine evFn_H cf143 (pureF _) ?_
    have n1 : ¬ (h.next = h.next + 1) := by omega
    have main : ∀ tm V' H, h.next < H.next → h.next ≤ H.low → H.get h.next = some (.box [.int .i64 l.c, V]) → Own (h.next + 1) 2 true H V' (headA l) → nth tm 1 = .ptr h.next 0 0 → nth tm 3 = V' →
        R (cK K m0) 30000 [.code s143_3] (HQ h r143 (Gx (fun v => v = .lst (partsA l)) h)) .normal ⟨tm, ⟨[], .no, none, 143⟩⟩ H := by
      intro tm V' H hn hlo g1 own t1 t3
      unfold s143_3
      simp only [go_sem]
      refine R_loop (I143 l V h) l.vars.length (by omega) ⟨_, 0, V', Nat.zero_add _, rfl, hn, hlo, g1, by simpa using own, by simp only [go_sem, Nat.reduceEqDiff, t1], by simp only [go_sem, Nat.reduceEqDiff, t3], by simp only [go_sem]; rfl⟩ ?_
      clear hn hlo g1 own t1 t3
      rintro j fr H ⟨tm, q, V', hq, rfl, hn, hlo, g1, own, t1, t3, t4⟩
      obtain ⟨nx, lo, ob⟩ := H
      have hn : h.next < nx := hn
      have hlo : h.next ≤ lo := hlo
      have g1 : ob.get h.next = some (.box [.int .i64 l.c, V]) := g1
      unfold b143_1
      simp only [go_sem, Nat.reduceEqDiff, t4, t1, g1, la]
      refine sB_dec (fun hlt => ?_) (fun hge => ?_)
      · have hlt : q < l.vars.length := by omega
        obtain ⟨x, hx⟩ : ∃ x, l.vars[q]? = some x := ⟨_, List.getElem?_eq_getElem hlt⟩
        have ia := a6 q x hx
        have hxv : encV x = .agg [.int .i64 x.idx, .int .i64 x.plus] := rfl
        rw [hxv] at ia
        have hw2 := wrap_succ q (by omega)
        obtain ⟨v', h', c1, c2, c3, c4, c5, c6, c7, c8⟩ := own_append (bytes := 32) (z := [.int .i64 0, .nils]) own (by show h.next + 1 ≤ nx; omega) rfl (x := encP x) rfl rfl rfl (by have := headA_len l; simp only [List.length_append, List.length_map, List.length_take]; omega) (by omega)
        have c1 : evAppend ⟨nx, lo, ob⟩ 2 true [.int .i64 0, .nils] 32 V' (.clip [.agg [.int .i64 0, .clip [.agg [.int .i64 x.idx, .int .i64 x.plus]]]]) = some (v', h') := c1
        rw [List.append_assoc, show (l.vars.take q).map encP ++ [encP x] = (l.vars.take (q + 1)).map encP by rw [take_succ_get hx]; simp] at c2
        have c4 : ∀ k, k < h.next + 1 → h'.get k = ob.get k := c4
        have c3 : nx ≤ h'.next := c3
        simp only [go_sem, Nat.reduceEqDiff, Nat.reduceAdd, Nat.reduceMul, s143_0, t3, t4, t1, g1, ia, c1, hw2]
        exact ⟨j - 1, by omega, _, q + 1, v', by omega, rfl, by omega, c5 h.next (by omega) hlo, (c4 _ (by omega)).trans g1, c2, by simp only [go_sem, Nat.reduceEqDiff, t1], by simp only [go_sem, Nat.reduceEqDiff], by simp only [go_sem]⟩
      · have hme : q = l.vars.length := by omega
        subst hme
        rw [List.take_length] at own
        simp only [go_sem, Nat.reduceEqDiff, s143_2, t3]
        refine HQ_gx (.inr rfl) hlo (by show h.next ≤ nx; omega) (by simp only [go_sem, r143]; rfl) ?_
        rw [one_1]
        rcases own_frzB (m := 3) (fb := h.next) own (by omega) (fun e => by cases e) (fun x hx => by
          rcases List.mem_append.1 hx with hx | hx
          · unfold headA at hx
            split at hx
            · simp at hx; subst hx; rw [frz_aggS]; simp only [List.map_cons, List.map_nil, frz_int, frz_nils]
            · simp at hx
          · obtain ⟨y, _, rfl⟩ := List.mem_map.1 hx; exact encP_frz _ _ _ _) with ⟨_, e0, ef⟩ | ef
        · exfalso
          have e0 : headA l ++ l.vars.map encP = [] := e0
          obtain ⟨e1, e2⟩ := List.append_eq_nil_iff.1 e0
          have e2 : l.vars.length = 0 := by rw [← List.length_map (f := encP), e2]; rfl
          unfold headA at e1
          rw [if_pos (.inr e2)] at e1
          cases e1
        · exact ef
    unfold b143
    have own0 := fun H => own_nil (h.next + 1) 2 true H
    have app1 : headA l = [.agg [.int .i64 l.c, .nils]] → ∀ H : AH, h.next + 1 ≤ H.next → ∃ v' h', evAppend H 2 true [.int .i64 0, .nils] 32 .nils (.clip [.agg [.int .i64 l.c, .nils]]) = some (v', h') ∧ Own (h.next + 1) 2 true h' v' (headA l) ∧ H.next ≤ h'.next ∧ (∀ k, k < h.next + 1 → h'.get k = H.get k) ∧ (h.next ≤ H.low → h.next ≤ h'.low) := by
      intro hh H hn
      obtain ⟨v', h', c1, c2, c3, c4, c5, c6, c7, c8⟩ := own_append (bytes := 32) (z := [.int .i64 0, .nils]) (own0 H) hn rfl (x := .agg [.int .i64 l.c, .nils]) rfl rfl rfl (by simp) (by omega)
      exact ⟨v', h', c1, by rw [hh]; exact c2, c3, c4, fun hl => c5 h.next (by omega) hl⟩
    by_cases hc : 0 < l.c
    · have d : decide (0 < l.c) = true := decide_eq_true hc
      obtain ⟨v', h', c1, c2, c3, c4, c5⟩ := app1 (if_pos (.inl hc)) ⟨h.next + 1, h.next, h.objs.put h.next (.box [.int .i64 l.c, V])⟩ (Nat.le_refl _)
      have c3 : h.next + 1 ≤ h'.next := c3
      simp only [go_sem, Nat.reduceEqDiff, Nat.reduceAdd, Nat.reduceMul, s143_5, s143_4, d, c1]
      exact main _ v' h' (by omega) (c5 (Nat.le_refl _)) (by rw [c4 _ (by omega)]; simp only [go_sem]) c2 (by simp only [go_sem, Nat.reduceEqDiff]) (by simp only [go_sem])
    · have d : decide (0 < l.c) = false := decide_eq_false hc
      by_cases hz : l.vars.length = 0
      · have dz : decide ((l.vars.length : Int) = 0) = true := decide_eq_true (by omega)
        obtain ⟨v', h', c1, c2, c3, c4, c5⟩ := app1 (if_pos (.inr hz)) ⟨h.next + 1, h.next, h.objs.put h.next (.box [.int .i64 l.c, V])⟩ (Nat.le_refl _)
        have c3 : h.next + 1 ≤ h'.next := c3
        simp only [go_sem, Nat.reduceEqDiff, Nat.reduceAdd, Nat.reduceMul, s143_5, s143_4, d, la, dz, c1]
        exact main _ v' h' (by omega) (c5 (Nat.le_refl _)) (by rw [c4 _ (by omega)]; simp only [go_sem]) c2 (by simp only [go_sem, Nat.reduceEqDiff]) (by simp only [go_sem])
      · have dz : decide ((l.vars.length : Int) = 0) = false := decide_eq_false (by omega)
        have hh : headA l = [] := if_neg (fun e => e.elim hc hz)
        simp only [go_sem, Nat.reduceEqDiff, Nat.reduceAdd, s143_5, s143_4, d, la, dz]
        exact main _ .nils _ (by show h.next < h.next + 1; omega) (Nat.le_refl _) (by simp only [go_sem]) (by rw [hh]; exact own0 _) (by simp only [go_sem, Nat.reduceEqDiff]) (by simp only [go_sem, Nat.reduceEqDiff])
  obtain ⟨v, h', e, g⟩ := key
  obtain ⟨nx, h1, rfl⟩ := Gx_eq g
  exact ⟨v, nx, h1, e, g.1⟩
attribute [local go_sem] RD_max RD_lookup birth_lookup build_1i build_2i build_p1
structure Yl (call : CallF) (q kA kB B top : Nat) (I : List LV → AH → Prop) : Prop where
  keep : ∀ os h h', I os h → h.next ≤ h'.next → (∀ k, k < h.next → k ≠ kA → k ≠ kB → h'.get k = h.get k) → B ≤ h'.low → I os h'
  low : ∀ os h, I os h → B ≤ h.low
  step : ∀ os x h, I os h → top ≤ h.next → os.length ≤ 200 → ∃ h', call (.yld q) [encV x] .no h = some (.ret (.bool true), .no, h') ∧ I (os ++ [x]) h' ∧ h.next ≤ h'.next ∧ h'.get kA = h.get kA ∧ h'.get kB = h.get kB ∧ h'.low < top
structure J241 (kA kB B top : Nat) (I : List LV → AH → Prop) (all : List LV) (h0 h : AH) (xs ys os : List LV) (VA VB : AV) : Prop where
  gA : h.get kA = some (.box [VA])
  gB : h.get kB = some (.box [VB])
  cA : Cs VA xs
  cB : Cs VB ys
  inv : I os h
  rest : os ++ mergeV xs ys = all
  next : h0.next ≤ h.next
  low : os ≠ [] → h.low < top
  first : os = [] → ∀ k, k < h0.next → h.get k = h0.get k
  cnt : os.length + (xs.length + ys.length) ≤ 200
def I241 (kA kB B top q : Nat) (I : List LV → AH → Prop) (all : List LV) (h0 : AH) (j : Nat) (fr : AF) (h : AH) : Prop := ∃ tm xs ys os VA VB, j = xs.length + ys.length ∧ fr = ⟨tm, ⟨[], .no, none, 241⟩⟩ ∧ J241 kA kB B top I all h0 h xs ys os VA VB ∧
  nth tm 0 = .yld q ∧ nth tm 1 = .ptr kA 0 0 ∧ nth tm 2 = .ptr kB 0 0
theorem call241 (call : CallF) (n : Nat) (q kA kB B top : Nat) (I : List LV → AH → Prop) (Y : Yl call q kA kB B top I) (xs ys : List LV) (VA VB : AV) (h : AH) (hA : h.get kA = some (.box [VA])) (hB : h.get kB = some (.box [VB])) (cA : Cs VA xs) (cB : Cs VB ys) (i0 : I [] h)
    (lA : kA < h.next) (lB : kB < h.next) (ne : kA ≠ kB) (bA : B ≤ kA) (bB : B ≤ kB) (htop : top ≤ h.next) (l1 : xs.length ≤ 100) (l2 : ys.length ≤ 100) (hn : 300 < n) :
    ∃ v h', evFn EF call n 241 [.yld q, .ptr kA 0 0, .ptr kB 0 0] .no h = some (.ret v, .no, h') ∧ I (mergeV xs ys) h' ∧ h.next ≤ h'.next := by
  refine evFn_H cf241 (pureF _) ?_
  unfold b241
  simp only [go_sem]
  have Bn : B ≤ h.next := by omega
  have s0 : I [] ⟨h.next, h.next, h.objs⟩ := Y.keep [] h _ i0 (Nat.le_refl _) (fun _ _ _ _ => rfl) Bn
  refine R_loop (I241 kA kB B top q I (mergeV xs ys) h) (xs.length + ys.length) (by omega) ⟨_, xs, ys, [], VA, VB, rfl, rfl, ⟨hA, hB, cA, cB, s0, rfl, Nat.le_refl _, fun e => absurd rfl e, fun _ _ _ => rfl, by simp; omega⟩, by simp only [go_sem, reduceCtorEq], by simp only [go_sem, Nat.reduceEqDiff], by simp only [go_sem]⟩ ?_
  generalize hall : mergeV xs ys = all
  clear hA hB cA cB s0 l1 l2 hall
  rintro j fr H ⟨tm, xs, ys, os, VA, VB, rfl, rfl, hJ, t0, t1, t2⟩
  obtain ⟨gA, gB, cA, cB, inv, rest, nxt, low, first, cnt⟩ := hJ
  have hlow := Y.low os H inv
  obtain ⟨nx, lo, ob⟩ := H
  have gA : ob.get kA = some (.box [VA]) := gA
  have gB : ob.get kB = some (.box [VB]) := gB
  have nxt : h.next ≤ nx := nxt
  have hlow : B ≤ lo := hlow
  have la := cA.len
  have lb := cB.len
  unfold b241_2
  have m1 : ¬ (kA = nx) := by omega
  have m2 : ¬ (kB = nx) := by omega
  have m3 : ¬ (nx = kA) := by omega
  have m4 : ¬ (nx = kB) := by omega
  have ne' : ¬ (kB = kA) := fun e => ne e.symm
  have cAc := cA.cell
  have cAl := cA.lies
  have cBc := cB.cell
  have cBl := cB.lies
  have bqA := cA.bq
  have bqB := cB.bq
  have fin : ∀ (x : LV) (xs' ys' : List LV) VA' VB' lo' ob', xs'.length + ys'.length < xs.length + ys.length → (os ++ [x]) ++ mergeV xs' ys' = all → Cs VA' xs' → Cs VB' ys' → B ≤ lo' →
      ob'.get kA = some (.box [VA']) → ob'.get kB = some (.box [VB']) → ob'.get nx = some (.box [.int .i64 x.idx, .int .i64 x.plus]) → (∀ k, k < nx → k ≠ kA → k ≠ kB → ob'.get k = ob.get k) →
      ∃ h', call (.yld q) [.agg [.int .i64 x.idx, .int .i64 x.plus]] .no ⟨nx + 1, lo', ob'⟩ = some (.ret (.bool true), .no, h') ∧
        ∀ tm'' N, xs.length + ys.length ≤ N → nth tm'' 0 = .yld q → nth tm'' 1 = .ptr kA 0 0 → nth tm'' 2 = .ptr kB 0 0 → ∃ j', j' < N ∧ I241 kA kB B top q I all h j' ⟨tm'', ⟨[], .no, none, 241⟩⟩ h' := by
    intro x xs' ys' VA' VB' lo' ob' e1 e2 e3 e4 e5 e6 e7 e8 e9
    have inv' : I os ⟨nx + 1, lo', ob'⟩ := Y.keep os _ _ inv (by show nx ≤ nx + 1; omega) (fun k hk => e9 k hk) e5
    obtain ⟨h', w1, w2, w3, w4, w5, w6⟩ := Y.step os x _ inv' (by show top ≤ nx + 1; omega) (by omega)
    have w3 : nx + 1 ≤ h'.next := w3
    refine ⟨h', w1, fun tm'' N hN v0 v1 v2 => ⟨_, Nat.lt_of_lt_of_le e1 hN, tm'', xs', ys', os ++ [x], VA', VB', rfl, rfl, ⟨w4.trans e6, w5.trans e7, e3, e4, w2, e2, by omega, fun _ => w6, fun e => absurd e (by simp), by simp; omega⟩, v0, v1, v2⟩⟩
  have z0 : decide ((0 : Int) < ((0 : Nat) : Int)) = false := by decide
  have z1 : decide (((0 : Nat) : Int) = 0) = true := by decide
  have p0 : ∀ n : Nat, decide ((0 : Int) < ((n + 1 : Nat) : Int)) = true := fun n => decide_eq_true (by omega)
  have p1 : ∀ n : Nat, decide (((n + 1 : Nat) : Int) = 0) = false := fun n => decide_eq_false (by omega)
  cases xs with
  | nil =>
    cases ys with
    | nil =>
      rw [mergeV, List.append_nil] at rest
      subst rest
      simp only [go_sem, Nat.reduceEqDiff, t1, t2, gA, gB, la, lb, z0]
      by_cases hl : h.next ≤ lo
      · have hos : os = [] := by
          cases os with
          | nil => rfl
          | cons a l => have := low (by simp); have : lo < top := this; omega
        subst hos
        exact HQ_keep (.inl rfl) hl (by simp only [go_sem, r241]; rfl) ⟨Y.keep [] h _ i0 nxt (fun _ _ _ _ => rfl) (Y.low [] h i0), nxt⟩
      · exact HQ_turn (.inl rfl) hl (by simp only [go_sem, r241]; rfl) ⟨Y.keep os _ _ inv (Nat.le_refl _) (fun k _ _ _ => rfl) (le_minN hlow (Y.low [] h i0)), nxt⟩
    | cons y ys =>
      have iB := cB.ia 0 y rfl
      have hyv : encV y = .agg [.int .i64 y.idx, .int .i64 y.plus] := rfl
      rw [hyv] at iB
      have iB : ∀ h, evIaddr VB h 2 (.int .i64 0) = .val (.vptr (.agg [.int .i64 y.idx, .int .i64 y.plus])) h := iB
      have sB : ∀ h, sl1 h 2 VB = some (.lst (ys.map encV), h) := fun h => cB.sl h (by simp)
      obtain ⟨h', w1, w2⟩ := fin y [] ys VA (.lst (ys.map encV)) (minN kB (minN nx lo)) (((ob.put nx (.box [.int .i64 0, .int .i64 0])).put nx (.box [.int .i64 y.idx, .int .i64 y.plus])).put kB (.box [.lst (ys.map encV)]))
        (by simp) (by rw [← rest, mergeV, mergeV, List.append_assoc]; rfl) cA (Cs_lst ys) (by (repeat' (first | assumption | exact Nat.le_refl _ | apply le_minN)) <;> omega) (by simp only [go_sem, ne, m1, gA]) (by simp only [go_sem]) (by simp only [go_sem, m4]) (fun k hk h1 h2 => by rw [Tr.get_put_other _ _ h2, Tr.get_put_other _ _ (by omega), Tr.get_put_other _ _ (by omega)])
      simp only [go_sem, Nat.reduceEqDiff, Nat.reduceAdd, Nat.reduceLT, t1, t2, gA, gB, la, lb, z0, z1, p0, p1, m1, m2, s241_1, slice_lo1, iB, sB]
      simp only [go_sem, Nat.reduceEqDiff, Nat.reduceAdd, reduceCtorEq, s241_0, t0, m4, w1, bqB]
      exact w2 _ _ (by simp) (by simp only [go_sem, reduceCtorEq, t0]) (by simp only [go_sem, Nat.reduceEqDiff, t1]) (by simp only [go_sem, Nat.reduceEqDiff, t2])
  | cons x xs =>
    have iA := cA.ia 0 x rfl
    have hxv : encV x = .agg [.int .i64 x.idx, .int .i64 x.plus] := rfl
    rw [hxv] at iA
    have iA : ∀ h, evIaddr VA h 2 (.int .i64 0) = .val (.vptr (.agg [.int .i64 x.idx, .int .i64 x.plus])) h := iA
    have sA : ∀ h, sl1 h 2 VA = some (.lst (xs.map encV), h) := fun h => cA.sl h (by simp)
    cases ys with
    | nil =>
      obtain ⟨h', w1, w2⟩ := fin x xs [] (.lst (xs.map encV)) VB (minN kA (minN nx lo)) (((ob.put nx (.box [.int .i64 0, .int .i64 0])).put nx (.box [.int .i64 x.idx, .int .i64 x.plus])).put kA (.box [.lst (xs.map encV)]))
        (by simp) (by rw [← rest, mergeV_nil, mergeV_nil, List.append_assoc]; rfl) (Cs_lst xs) cB (by (repeat' (first | assumption | exact Nat.le_refl _ | apply le_minN)) <;> omega) (by simp only [go_sem]) (by simp only [go_sem, ne', m2, gB]) (by simp only [go_sem, m3]) (fun k hk h1 h2 => by rw [Tr.get_put_other _ _ h1, Tr.get_put_other _ _ (by omega), Tr.get_put_other _ _ (by omega)])
      simp only [go_sem, Nat.reduceEqDiff, Nat.reduceAdd, Nat.reduceLT, t1, t2, gA, gB, la, lb, z1, p0, m1, m2, s241_1, slice_lo1, iA, sA]
      simp only [go_sem, Nat.reduceEqDiff, Nat.reduceAdd, reduceCtorEq, s241_0, t0, m3, w1, bqA]
      exact w2 _ _ (by simp) (by simp only [go_sem, reduceCtorEq, t0]) (by simp only [go_sem, Nat.reduceEqDiff, t1]) (by simp only [go_sem, Nat.reduceEqDiff, t2])
    | cons y ys =>
      have iB := cB.ia 0 y rfl
      have hyv : encV y = .agg [.int .i64 y.idx, .int .i64 y.plus] := rfl
      rw [hyv] at iB
      have iB : ∀ h, evIaddr VB h 2 (.int .i64 0) = .val (.vptr (.agg [.int .i64 y.idx, .int .i64 y.plus])) h := iB
      have sB : ∀ h, sl1 h 2 VB = some (.lst (ys.map encV), h) := fun h => cB.sl h (by simp)
      by_cases hlt : x.idx < y.idx
      · have d1 : decide (x.idx < y.idx) = true := decide_eq_true hlt
        obtain ⟨h', w1, w2⟩ := fin x xs (y :: ys) (.lst (xs.map encV)) VB (minN kA (minN nx lo)) (((ob.put nx (.box [.int .i64 0, .int .i64 0])).put nx (.box [.int .i64 x.idx, .int .i64 x.plus])).put kA (.box [.lst (xs.map encV)]))
          (by simp) (by rw [← rest, mergeV, if_pos hlt, List.append_assoc]; rfl) (Cs_lst xs) cB (by (repeat' (first | assumption | exact Nat.le_refl _ | apply le_minN)) <;> omega) (by simp only [go_sem]) (by simp only [go_sem, ne', m2, gB]) (by simp only [go_sem, m3]) (fun k hk h1 h2 => by rw [Tr.get_put_other _ _ h1, Tr.get_put_other _ _ (by omega), Tr.get_put_other _ _ (by omega)])
        simp only [go_sem, Nat.reduceEqDiff, Nat.reduceAdd, Nat.reduceLT, t1, t2, gA, gB, la, lb, p0, p1, m1, m2, s241_1, slice_lo1, iA, sA, iB, d1]
        simp only [go_sem, Nat.reduceEqDiff, Nat.reduceAdd, reduceCtorEq, s241_0, t0, m3, w1, bqA]
        exact w2 _ _ (by simp) (by simp only [go_sem, reduceCtorEq, t0]) (by simp only [go_sem, Nat.reduceEqDiff, t1]) (by simp only [go_sem, Nat.reduceEqDiff, t2])
      · have d1 : decide (x.idx < y.idx) = false := decide_eq_false hlt
        by_cases hgt : y.idx < x.idx
        · have d2 : decide (y.idx < x.idx) = true := decide_eq_true hgt
          obtain ⟨h', w1, w2⟩ := fin y (x :: xs) ys VA (.lst (ys.map encV)) (minN kB (minN nx lo)) (((ob.put nx (.box [.int .i64 0, .int .i64 0])).put nx (.box [.int .i64 y.idx, .int .i64 y.plus])).put kB (.box [.lst (ys.map encV)]))
            (by simp) (by rw [← rest, mergeV, if_neg hlt, if_pos hgt, List.append_assoc]; rfl) cA (Cs_lst ys) (by (repeat' (first | assumption | exact Nat.le_refl _ | apply le_minN)) <;> omega) (by simp only [go_sem, ne, m1, gA]) (by simp only [go_sem]) (by simp only [go_sem, m4]) (fun k hk h1 h2 => by rw [Tr.get_put_other _ _ h2, Tr.get_put_other _ _ (by omega), Tr.get_put_other _ _ (by omega)])
          simp only [go_sem, Nat.reduceEqDiff, Nat.reduceAdd, Nat.reduceLT, t1, t2, gA, gB, la, lb, p0, p1, m1, m2, s241_1, slice_lo1, iA, iB, sB, d1, d2]
          simp only [go_sem, Nat.reduceEqDiff, Nat.reduceAdd, reduceCtorEq, s241_0, t0, m4, w1, bqB]
          exact w2 _ _ (by simp) (by simp only [go_sem, reduceCtorEq, t0]) (by simp only [go_sem, Nat.reduceEqDiff, t1]) (by simp only [go_sem, Nat.reduceEqDiff, t2])
        · have d2 : decide (y.idx < x.idx) = false := decide_eq_false hgt
          obtain ⟨h', w1, w2⟩ := fin ⟨x.idx, max x.plus y.plus⟩ xs ys (.lst (xs.map encV)) (.lst (ys.map encV)) (minN kB (minN kA (minN nx lo))) ((((ob.put nx (.box [.int .i64 0, .int .i64 0])).put nx (.box [.int .i64 x.idx, .int .i64 (max x.plus y.plus)])).put kA (.box [.lst (xs.map encV)])).put kB (.box [.lst (ys.map encV)]))
            (by simp; omega) (by rw [← rest, mergeV, if_neg hlt, if_neg hgt, List.append_assoc]; rfl) (Cs_lst xs) (Cs_lst ys) (by (repeat' (first | assumption | exact Nat.le_refl _ | apply le_minN)) <;> omega) (by simp only [go_sem, ne]) (by simp only [go_sem]) (by simp only [go_sem, m3, m4]) (fun k hk h1 h2 => by rw [Tr.get_put_other _ _ h2, Tr.get_put_other _ _ h1, Tr.get_put_other _ _ (by omega), Tr.get_put_other _ _ (by omega)])
          simp only [go_sem, Nat.reduceEqDiff, Nat.reduceAdd, Nat.reduceLT, t1, t2, gA, gB, la, lb, p0, p1, m1, m2, s241_1, slice_lo1, iA, sA, iB, sB, d1, d2, max2, ne']
          simp only [go_sem, Nat.reduceEqDiff, Nat.reduceAdd, reduceCtorEq, s241_0, t0, m3, m4, w1, bqB]
          exact w2 _ _ (by simp) (by simp only [go_sem, reduceCtorEq, t0]) (by simp only [go_sem, Nat.reduceEqDiff, t1]) (by simp only [go_sem, Nat.reduceEqDiff, t2])
end Go.Proofs.YtnacljdablhbgaaGreat
