/- SolverFinishes: Leq of the program (no condition). -/
import Derived.Test.YtnacljdablhbgaaGreatDd
namespace Go.Proofs.YtnacljdablhbgaaGreat
open Go.AG
attribute [local go_sem] RD_max RD_lookup birth_lookup build_1i build_2i
def botV (l : LL) : Int := l.vars.foldl (fun m x => max m x.plus) l.c
def hasB (x y : LV) : Bool := decide (y.idx = x.idx) && decide (x.plus ≤ y.plus)
def leqB (a b : LL) : Bool := !decide (botV b < a.c) && a.vars.all fun x => b.vars.any (hasB x)
theorem c197 {K : CallF} (hK : Runs K) (m : Nat) (x y : LV) (kb : Nat) (h : AH) (hkb : h.get kb = some (.box [.int .i64 x.idx, .int .i64 x.plus])) (hlt : kb < h.next) :
    ∃ nx, h.next ≤ nx ∧ cK K (m + 1) (.fn 197 [] [.ptr kb 0 0]) [encV y] .no h = some (.ret (.bool (hasB x y)), .no, ⟨nx, h.low, h.objs⟩) := by
  rw [cK_run hK _ 197]
  have key : ∃ v h', evFn EF (cK K m) 30000 197 [encV y, .ptr kb 0 0] .no h = some (.ret v, .no, h') ∧ Gx (fun v => v = .bool (hasB x y)) h v h' := by
    refine evFn_H cf197 (pureF _) ?_
    unfold b197 encV
    have hne : ¬ (kb = h.next) := by omega
    have gk : h.objs.get kb = some (.box [.int .i64 x.idx, .int .i64 x.plus]) := hkb
    by_cases he : y.idx = x.idx
    · have d : decide (y.idx = x.idx) = true := decide_eq_true he
      simp only [go_sem, Nat.reduceEqDiff, Nat.reduceAdd, reduceCtorEq, s197_0, hne, gk, d]
      exact HQ_gx (.inr rfl) (Nat.le_refl _) (by show h.next ≤ h.next + 1; omega) (by simp only [go_sem, r197]; rfl) (by rw [one_1, frz_bool]; simp only [hasB, d, Bool.true_and])
    · have d : decide (y.idx = x.idx) = false := decide_eq_false he
      simp only [go_sem, Nat.reduceEqDiff, Nat.reduceAdd, reduceCtorEq, s197_0, hne, gk, d]
      exact HQ_gx (.inr rfl) (Nat.le_refl _) (by show h.next ≤ h.next + 1; omega) (by simp only [go_sem, r197]; rfl) (by rw [one_1, frz_bool]; simp only [hasB, d, Bool.false_and])
  obtain ⟨v, h', e, g⟩ := key
  obtain ⟨nx, h1, rfl⟩ := Gx_eq g
  obtain ⟨rfl, _⟩ := g
  exact ⟨nx, h1, e⟩
def I138a (a b : LL) (Va Vb : AV) (h0 : AH) (j : Nat) (fr : AF) (h : AH) : Prop := ∃ tm m nx lo ob, m + j = b.vars.length ∧ fr = ⟨tm, ⟨[], .no, none, 138⟩⟩ ∧ h = ⟨nx, lo, ob⟩ ∧ h0.next + 2 ≤ nx ∧ h0.next ≤ lo ∧
    ob.get h0.next = some (.box [.int .i64 a.c, Va]) ∧ ob.get (h0.next + 1) = some (.box [.int .i64 b.c, Vb]) ∧
    nth tm 2 = .ptr h0.next 0 0 ∧ nth tm 3 = .ptr (h0.next + 1) 0 0 ∧ nth tm 5 = .int .i64 ((b.vars.take m).foldl (fun m x => max m x.plus) b.c) ∧ nth tm 21 = Vb ∧ nth tm 22 = .int .i64 (b.vars.length : Int) ∧ nth tm 23 = .int .i64 (m : Int)
def I138b (a b : LL) (Va Vb : AV) (h0 : AH) (j : Nat) (fr : AF) (h : AH) : Prop := ∃ tm m nx lo ob, m + j = a.vars.length ∧ fr = ⟨tm, ⟨[], .no, none, 138⟩⟩ ∧ h = ⟨nx, lo, ob⟩ ∧ h0.next + 2 ≤ nx ∧ h0.next ≤ lo ∧
    ob.get (h0.next + 1) = some (.box [.int .i64 b.c, Vb]) ∧
    nth tm 3 = .ptr (h0.next + 1) 0 0 ∧ nth tm 37 = Va ∧ nth tm 38 = .int .i64 (a.vars.length : Int) ∧ nth tm 39 = .int .i64 (m : Int) ∧ ∀ (i : Nat) x, i < m → a.vars[i]? = some x → b.vars.any (hasB x) = true
theorem all_true {α : Type} {p : α → Bool} {l : List α} (h : ∀ (i : Nat) x, i < l.length → l[i]? = some x → p x = true) : l.all p = true := by
  rw [List.all_eq_true]
  intro x hx
  obtain ⟨i, hi, rfl⟩ := List.mem_iff_getElem.1 hx
  exact h i _ hi (List.getElem?_eq_getElem hi)
theorem all_false {α : Type} {p : α → Bool} {l : List α} {i : Nat} {x : α} (hx : l[i]? = some x) (hp : p x = false) : l.all p = false := by
  cases h : l.all p with
  | false => rfl
  | true => rw [List.all_eq_true.1 h x (List.mem_of_getElem? hx)] at hp; cases hp
theorem c138 {K : CallF} (hK : Runs K) (hv : KV K) (m0 : Nat) (a b : LL) (va vb : AV) (h : AH) (ha : Lv va a) (hb : Lv vb b) (l1 : a.vars.length ≤ 100) (l2 : b.vars.length ≤ 100) (v1 : VL a) (v2 : VL b) :
    ∃ nx, h.next ≤ nx ∧ cK K (m0 + 4) (.fn 138 [] []) [va, vb] .no h = some (.ret (.bool (leqB a b)), .no, ⟨nx, h.low, h.objs⟩) := by
  rw [cK_run hK _ 138]
  have key : ∃ v h', evFn EF (cK K (m0 + 3)) 30000 138 [va, vb] .no h = some (.ret v, .no, h') ∧ Gx (fun v => v = .bool (leqB a b)) h v h' := by
    have e1 := fun h => cK_known (hv.r135 va a h ha (by omega)) (m0 + 3)
    have e2 := fun h => cK_known (hv.r135 vb b h hb (by omega)) (m0 + 3)
    rw [vl_t v1] at e1
    rw [vl_t v2] at e2
    obtain ⟨Va, rfl, a1, a2, a3, a4, a5, a6⟩ := ha.ex
    obtain ⟨Vb, rfl, b1, b2, b3, b4, b5, b6⟩ := hb.ex
    have la := (a5 0 h).len
    have lb := (b5 0 h).len
    refine evFn_H cf138 (pureF _) ?_
    have n1 : ¬ (h.next = h.next + 1) := by omega
    unfold b138
    simp only [go_sem, Nat.reduceEqDiff, Nat.reduceAdd, reduceCtorEq, s138_12, n1, e1, e2, s138_11, s138_10, lb]
    refine R_loop (I138a a b Va Vb h) b.vars.length (by omega) ⟨_, 0, _, _, _, Nat.zero_add _, rfl, rfl, by omega, Nat.le_refl _, by simp only [go_sem, n1], by simp only [go_sem], by simp only [go_sem, Nat.reduceEqDiff], by simp only [go_sem, Nat.reduceEqDiff], by simp only [go_sem, Nat.reduceEqDiff]; rfl, by simp only [go_sem, Nat.reduceEqDiff], by simp only [go_sem, Nat.reduceEqDiff], by simp only [go_sem]; rfl⟩ ?_
    rintro j fr H ⟨tm, q, nx, lo, ob, hq, rfl, rfl, hnx, hlo, g2, g3, t2, t3, t5, t21, t22, t23⟩
    unfold b138_2
    simp only [go_sem, s138_1, t22, t23]
    refine sB_dec (fun hlt => ?_) (fun hge => ?_)
    · have hlt : q < b.vars.length := by omega
      obtain ⟨x, hx⟩ : ∃ x, b.vars[q]? = some x := ⟨_, List.getElem?_eq_getElem hlt⟩
      have ib := b6 q x hx
      have hxv : encV x = .agg [.int .i64 x.idx, .int .i64 x.plus] := rfl
      rw [hxv] at ib
      have hw2 := wrap_succ q (by omega)
      simp only [go_sem, Nat.reduceEqDiff, Nat.reduceAdd, s138_0, t21, t23, ib, t5, max2, hw2]
      refine ⟨j - 1, by omega, _, q + 1, _, _, _, by omega, rfl, rfl, by omega, (by (repeat' (first | assumption | exact Nat.le_refl _ | apply le_minN)) <;> omega), ?_, ?_, by simp only [go_sem, Nat.reduceEqDiff, t2], by simp only [go_sem, Nat.reduceEqDiff, t3], by simp only [go_sem, Nat.reduceEqDiff]; rw [take_succ_get hx, List.foldl_append]; rfl, by simp only [go_sem, Nat.reduceEqDiff, t21], by simp only [go_sem, Nat.reduceEqDiff, t22], by simp only [go_sem]⟩
      · rw [Tr.get_put_other _ _ (by omega), Tr.get_put_other _ _ (by omega)]; exact g2
      · rw [Tr.get_put_other _ _ (by omega), Tr.get_put_other _ _ (by omega)]; exact g3
    · have hme : q = b.vars.length := by omega
      subst hme
      rw [List.take_length] at t5
      have t5 : nth tm 5 = .int .i64 (botV b) := t5
      simp only [go_sem, Nat.reduceEqDiff, s138_9, t2, g2, t5]
      refine sB_dec (fun hbig => ?_) (fun hsm => ?_)
      · simp only [go_sem]
        exact HQ_gx (.inr rfl) hlo (by show h.next ≤ nx; omega) (by simp only [go_sem, r138]; rfl) (by rw [one_1, frz_bool]; simp only [leqB, decide_eq_true hbig, Bool.not_true, Bool.false_and])
      · simp only [go_sem, Nat.reduceEqDiff, s138_8, t2, g2, la]
        refine R_loop (I138b a b Va Vb h) a.vars.length (by omega) ⟨_, 0, _, _, _, Nat.zero_add _, rfl, rfl, hnx, hlo, g3, by simp only [go_sem, Nat.reduceEqDiff, t3], by simp only [go_sem, Nat.reduceEqDiff], by simp only [go_sem, Nat.reduceEqDiff], by simp only [go_sem]; rfl, fun i x hi => absurd hi (by omega)⟩ ?_
        clear t2 t3 t5 t21 t22 t23 hnx hlo g2 g3 hq hge
        rintro j fr H ⟨tm, q, nx, lo, ob, hq, rfl, rfl, hnx, hlo, g3, t3, t37, t38, t39, hp⟩
        unfold b138_6
        simp only [go_sem, s138_5, t38, t39]
        refine sB_dec (fun hlt => ?_) (fun hge => ?_)
        · have hlt : q < a.vars.length := by omega
          obtain ⟨x, hx⟩ : ∃ x, a.vars[q]? = some x := ⟨_, List.getElem?_eq_getElem hlt⟩
          have ia := a6 q x hx
          have hxv : encV x = .agg [.int .i64 x.idx, .int .i64 x.plus] := rfl
          rw [hxv] at ia
          have hw2 := wrap_succ q (by omega)
          have m1 : ¬ (h.next + 1 = nx) := by omega
          obtain ⟨ob2, hob2⟩ : ∃ ob2, ob2 = (ob.put nx (.box [.int .i64 0, .int .i64 0])).put nx (.box [.int .i64 x.idx, .int .i64 x.plus]) := ⟨_, rfl⟩
          have k2 : ob2.get nx = some (.box [.int .i64 x.idx, .int .i64 x.plus]) := by rw [hob2, Tr.get_put_same]
          have k3 : ob2.get (h.next + 1) = some (.box [.int .i64 b.c, Vb]) := by rw [hob2, Tr.get_put_other _ _ (by omega), Tr.get_put_other _ _ (by omega)]; exact g3
          obtain ⟨nx2, w1, w2⟩ := c109 hK (m0 + 1) Vb b.vars [.ptr nx 0 0] 197 (hasB x) ⟨nx + 1, minN nx lo, ob2⟩ (b5 _ _) (by omega) (fun i y nx' lo' hy hn => by
            have hn : nx + 1 ≤ nx' := hn
            exact c197 hK m0 x y nx ⟨nx', lo', ob2⟩ k2 (by show nx < nx'; omega))
          have w1 : nx + 1 ≤ nx2 := w1
          simp only [go_sem, Nat.reduceEqDiff, Nat.reduceAdd, s138_4, t37, t39, ia]
          rw [← hob2]
          simp only [go_sem, Nat.reduceEqDiff, s138_3, t3, k3, w2]
          refine sB_nbool (fun hb => ?_) (fun hb => ?_)
          · simp only [go_sem]
            refine HQ_gx (.inr rfl) (by (repeat' (first | assumption | exact Nat.le_refl _ | apply le_minN)) <;> omega) (by show h.next ≤ nx2; omega) (by simp only [go_sem, r138]; rfl) ?_
            rw [one_1, frz_bool]
            simp only [leqB, decide_eq_false hsm, Bool.not_false, Bool.true_and]
            rw [all_false hx hb]
          · simp only [go_sem, Nat.reduceEqDiff, hw2, t39]
            refine ⟨j - 1, by omega, _, q + 1, _, _, _, by omega, rfl, rfl, by omega, (by (repeat' (first | assumption | exact Nat.le_refl _ | apply le_minN)) <;> omega), k3, by simp only [go_sem, Nat.reduceEqDiff, t3], by simp only [go_sem, Nat.reduceEqDiff, t37], by simp only [go_sem, Nat.reduceEqDiff, t38], by simp only [go_sem], fun i y hi hy => ?_⟩
            by_cases hi' : i < q
            · exact hp i y hi' hy
            · obtain rfl : i = q := by omega
              rw [hx] at hy; cases hy; exact hb
        · have hme : q = a.vars.length := by omega
          subst hme
          simp only [go_sem, s138_7]
          refine HQ_gx (.inr rfl) hlo (by show h.next ≤ nx; omega) (by simp only [go_sem, r138]; rfl) ?_
          rw [one_1, frz_bool]
          simp only [leqB, decide_eq_false hsm, Bool.not_false, Bool.true_and]
          rw [all_true (fun i x hi hx => hp i x hi hx)]
  obtain ⟨v, h', e, g⟩ := key
  obtain ⟨nx, h1, rfl⟩ := Gx_eq g
  obtain ⟨rfl, _⟩ := g
  exact ⟨nx, h1, e⟩
attribute [local go_sem] RD_max RD_lookup birth_lookup build_1i build_2i
def I144a (b : LL) (H0 : AH) (b0 : Nat) (j : Nat) (fr : AF) (h : AH) : Prop := ∃ tm m, m + j = b.vars.length ∧ fr = ⟨tm, ⟨[], .no, none, 144⟩⟩ ∧ h = H0 ∧
    nth tm 2 = .ptr b0 0 0 ∧ nth tm 3 = .ptr (b0 + 1) 0 0 ∧ nth tm 5 = .int .i64 ((b.vars.take m).foldl (fun m x => max m x.plus) b.c) ∧ nth tm 6 = .int .i64 (m : Int)
def I144b (a b : LL) (H0 : AH) (b0 : Nat) (j : Nat) (fr : AF) (h : AH) : Prop := ∃ tm m, m + j = a.vars.length ∧ fr = ⟨tm, ⟨[], .no, none, 144⟩⟩ ∧ h = H0 ∧
    nth tm 2 = .ptr b0 0 0 ∧ nth tm 3 = .ptr (b0 + 1) 0 0 ∧ nth tm 7 = .int .i64 (m : Int) ∧ ∀ (i : Nat) x, i < m → a.vars[i]? = some x → b.vars.any (hasB x) = true
def I144c (b : LL) (x : LV) (q : Nat) (H0 : AH) (b0 : Nat) (j : Nat) (fr : AF) (h : AH) : Prop := ∃ tm m, m + j = b.vars.length ∧ fr = ⟨tm, ⟨[], .no, none, 144⟩⟩ ∧ h = H0 ∧
    nth tm 2 = .ptr b0 0 0 ∧ nth tm 3 = .ptr (b0 + 1) 0 0 ∧ nth tm 7 = .int .i64 (q : Int) ∧ nth tm 8 = .bool ((b.vars.take m).any (hasB x)) ∧ nth tm 9 = .int .i64 (m : Int)
theorem c144 {K : CallF} (hK : Runs K) (hv : KV K) (m0 : Nat) (a b : LL) (va vb : AV) (h : AH) (ha : Lv va a) (hb : Lv vb b) (l1 : a.vars.length ≤ 100) (l2 : b.vars.length ≤ 100) (v1 : VL a) (v2 : VL b) :
    ∃ nx, h.next ≤ nx ∧ cK K (m0 + 1) (.fn 144 [] []) [va, vb] .no h = some (.ret (.bool (leqB a b)), .no, ⟨nx, h.low, h.objs⟩) := by
  rw [cK_run hK _ 144]
  have key : ∃ v h', evFn EF (cK K m0) 30000 144 [va, vb] .no h = some (.ret v, .no, h') ∧ Gx (fun v => v = .bool (leqB a b)) h v h' := by
    have e1 := fun h => cK_known (hv.r21 va a h ha (by omega)) m0
    have e2 := fun h => cK_known (hv.r21 vb b h hb (by omega)) m0
    rw [vl_t v1] at e1
    rw [vl_t v2] at e2
    obtain ⟨Va, rfl, a1, a2, a3, a4, a5, a6⟩ := ha.ex
    obtain ⟨Vb, rfl, b1, b2, b3, b4, b5, b6⟩ := hb.ex
    have la := (a5 0 h).len
    have lb := (b5 0 h).len
    refine evFn_H cf144 (pureF _) ?_
    have n1 : ¬ (h.next = h.next + 1) := by omega
    unfold b144
    obtain ⟨ob, hob⟩ : ∃ ob, ob = (h.objs.put h.next (.box [.int .i64 a.c, Va])).put (h.next + 1) (.box [.int .i64 b.c, Vb]) := ⟨_, rfl⟩
    have g2 : ob.get h.next = some (.box [.int .i64 a.c, Va]) := by simp only [hob, go_sem, n1]
    have g3 : ob.get (h.next + 1) = some (.box [.int .i64 b.c, Vb]) := by simp only [hob, go_sem]
    simp only [go_sem, Nat.reduceEqDiff, Nat.reduceAdd, reduceCtorEq]
    rw [← hob]
    simp only [go_sem, Nat.reduceEqDiff, Nat.reduceAdd, s144_13, g2, g3, e1, e2, s144_12, s144_11]
    refine R_loop (I144a b ⟨h.next + 1 + 1, h.next, ob⟩ h.next) b.vars.length (by omega) ⟨_, 0, Nat.zero_add _, rfl, rfl, by simp only [go_sem, Nat.reduceEqDiff], by simp only [go_sem, Nat.reduceEqDiff], by simp only [go_sem, Nat.reduceEqDiff]; rfl, by simp only [go_sem]; rfl⟩ ?_
    rintro j fr H ⟨tm, q, hq, rfl, rfl, t2, t3, t5, t6⟩
    unfold b144_1
    simp only [go_sem, Nat.reduceEqDiff, t3, t6, g3, lb]
    refine sB_dec (fun hlt => ?_) (fun hge => ?_)
    · have hlt : q < b.vars.length := by omega
      obtain ⟨x, hx⟩ : ∃ x, b.vars[q]? = some x := ⟨_, List.getElem?_eq_getElem hlt⟩
      have ib := b6 q x hx
      have hxv : encV x = .agg [.int .i64 x.idx, .int .i64 x.plus] := rfl
      rw [hxv] at ib
      have hw2 := wrap_succ q (by omega)
      simp only [go_sem, Nat.reduceEqDiff, s144_0, t3, t6, g3, ib, t5, max2, hw2]
      exact ⟨j - 1, by omega, _, q + 1, by omega, rfl, rfl, by simp only [go_sem, Nat.reduceEqDiff, t2], by simp only [go_sem, Nat.reduceEqDiff, t3], by simp only [go_sem, Nat.reduceEqDiff]; rw [take_succ_get hx, List.foldl_append]; rfl, by simp only [go_sem]⟩
    · have hme : q = b.vars.length := by omega
      subst hme
      rw [List.take_length] at t5
      have t5 : nth tm 5 = .int .i64 (botV b) := t5
      simp only [go_sem, Nat.reduceEqDiff, s144_10, t2, g2, t5]
      refine sB_dec (fun hbig => ?_) (fun hsm => ?_)
      · simp only [go_sem]
        exact HQ_gx (.inr rfl) (Nat.le_refl _) (by show h.next ≤ h.next + 1 + 1; omega) (by simp only [go_sem, r144]; rfl) (by rw [one_1, frz_bool]; simp only [leqB, decide_eq_true hbig, Bool.not_true, Bool.false_and])
      · simp only [go_sem, s144_9]
        refine R_loop (I144b a b ⟨h.next + 1 + 1, h.next, ob⟩ h.next) a.vars.length (by omega) ⟨_, 0, Nat.zero_add _, rfl, rfl, by simp only [go_sem, Nat.reduceEqDiff, t2], by simp only [go_sem, Nat.reduceEqDiff, t3], by simp only [go_sem]; rfl, fun i x hi => absurd hi (by omega)⟩ ?_
        clear t2 t3 t5 t6 hq hge
        rintro j fr H ⟨tm, q, hq, rfl, rfl, t2, t3, t7, hp⟩
        unfold b144_7
        simp only [go_sem, Nat.reduceEqDiff, t2, t7, g2, la]
        refine sB_dec (fun hlt => ?_) (fun hge => ?_)
        · have hlt : q < a.vars.length := by omega
          obtain ⟨x, hx⟩ : ∃ x, a.vars[q]? = some x := ⟨_, List.getElem?_eq_getElem hlt⟩
          have ia := a6 q x hx
          have hxv : encV x = .agg [.int .i64 x.idx, .int .i64 x.plus] := rfl
          rw [hxv] at ia
          have hw2 := wrap_succ q (by omega)
          simp only [go_sem, s144_6, s144_5]
          refine R_loop (I144c b x q ⟨h.next + 1 + 1, h.next, ob⟩ h.next) b.vars.length (by omega) ⟨_, 0, Nat.zero_add _, rfl, rfl, by simp only [go_sem, Nat.reduceEqDiff, t2], by simp only [go_sem, Nat.reduceEqDiff, t3], by simp only [go_sem, Nat.reduceEqDiff, t7], by simp only [go_sem, Nat.reduceEqDiff, List.any_nil], by simp only [go_sem]; rfl⟩ ?_
          clear t2 t3 t7
          rintro jj fr H ⟨tm, k, hk, rfl, rfl, t2, t3, t7, t8, t9⟩
          unfold b144_3
          simp only [go_sem, Nat.reduceEqDiff, t3, t9, g3, lb]
          refine sB_dec (fun hlt2 => ?_) (fun hge2 => ?_)
          · have hlt2 : k < b.vars.length := by omega
            obtain ⟨y, hy⟩ : ∃ y, b.vars[k]? = some y := ⟨_, List.getElem?_eq_getElem hlt2⟩
            have ib := b6 k y hy
            have hyv : encV y = .agg [.int .i64 y.idx, .int .i64 y.plus] := rfl
            rw [hyv] at ib
            have hw3 := wrap_succ k (by omega)
            have hany : (b.vars.take (k + 1)).any (hasB x) = ((b.vars.take k).any (hasB x) || hasB x y) := by rw [take_succ_get hy, List.any_append]; simp
            cases hf : (b.vars.take k).any (hasB x) with
            | true =>
              rw [hf] at t8
              simp only [go_sem, Nat.reduceEqDiff, s144_2, t8, t9, hw3]
              exact ⟨jj - 1, by omega, _, k + 1, by omega, rfl, rfl, by simp only [go_sem, Nat.reduceEqDiff, t2], by simp only [go_sem, Nat.reduceEqDiff, t3], by simp only [go_sem, Nat.reduceEqDiff, t7], by simp only [go_sem, Nat.reduceEqDiff]; rw [hany, hf]; rfl, by simp only [go_sem]⟩
            | false =>
              rw [hf] at t8
              by_cases he : y.idx = x.idx
              · have d : decide (y.idx = x.idx) = true := decide_eq_true he
                simp only [go_sem, Nat.reduceEqDiff, s144_2, t8, t9, hw3, t3, t2, t7, g2, g3, ia, ib, d]
                exact ⟨jj - 1, by omega, _, k + 1, by omega, rfl, rfl, by simp only [go_sem, Nat.reduceEqDiff, t2], by simp only [go_sem, Nat.reduceEqDiff, t3], by simp only [go_sem, Nat.reduceEqDiff, t7], by simp only [go_sem, Nat.reduceEqDiff]; rw [hany, hf]; simp only [hasB, d, Bool.true_and, Bool.false_or], by simp only [go_sem]⟩
              · have d : decide (y.idx = x.idx) = false := decide_eq_false he
                simp only [go_sem, Nat.reduceEqDiff, s144_2, t8, t9, hw3, t3, t2, t7, g2, g3, ia, ib, d]
                exact ⟨jj - 1, by omega, _, k + 1, by omega, rfl, rfl, by simp only [go_sem, Nat.reduceEqDiff, t2], by simp only [go_sem, Nat.reduceEqDiff, t3], by simp only [go_sem, Nat.reduceEqDiff, t7], by simp only [go_sem, Nat.reduceEqDiff]; rw [hany, hf]; simp only [hasB, d, Bool.false_and, Bool.false_or], by simp only [go_sem]⟩
          · have hme : k = b.vars.length := by omega
            subst hme
            rw [List.take_length] at t8
            simp only [go_sem, Nat.reduceEqDiff, s144_4, t8]
            refine sB_nbool (fun hb => ?_) (fun hb => ?_)
            · simp only [go_sem]
              refine HQ_gx (.inr rfl) (Nat.le_refl _) (by show h.next ≤ h.next + 1 + 1; omega) (by simp only [go_sem, r144]; rfl) ?_
              rw [one_1, frz_bool]
              simp only [leqB, decide_eq_false hsm, Bool.not_false, Bool.true_and]
              rw [all_false hx hb]
            · simp only [go_sem, Nat.reduceEqDiff, hw2, t7]
              refine ⟨j - 1, by omega, _, q + 1, by omega, rfl, rfl, by simp only [go_sem, Nat.reduceEqDiff, t2], by simp only [go_sem, Nat.reduceEqDiff, t3], by simp only [go_sem], fun i y hi hy => ?_⟩
              by_cases hi' : i < q
              · exact hp i y hi' hy
              · obtain rfl : i = q := by omega
                rw [hx] at hy; cases hy; exact hb
        · have hme : q = a.vars.length := by omega
          subst hme
          simp only [go_sem, s144_8]
          refine HQ_gx (.inr rfl) (Nat.le_refl _) (by show h.next ≤ h.next + 1 + 1; omega) (by simp only [go_sem, r144]; rfl) ?_
          rw [one_1, frz_bool]
          simp only [leqB, decide_eq_false hsm, Bool.not_false, Bool.true_and]
          rw [all_true (fun i x hi hx => hp i x hi hx)]
  obtain ⟨v, h', e, g⟩ := key
  obtain ⟨nx, h1, rfl⟩ := Gx_eq g
  obtain ⟨rfl, _⟩ := g
  exact ⟨nx, h1, e⟩
attribute [local go_sem] RD_max RD_lookup birth_lookup build_1i build_2i build_p1
def lastNeg (vs : List LV) : Option LV := vs.foldl (fun o x => if x.idx < 0 then some x else o) none
def pivR (vs : List LV) : Int × Int := match lastNeg vs with
  | some x => (-1 - x.idx, x.plus)
  | none => (-1, 0)
theorem lastNeg_snoc (vs : List LV) (x : LV) : lastNeg (vs ++ [x]) = if x.idx < 0 then some x else lastNeg vs := by unfold lastNeg; rw [List.foldl_append]; rfl
def I139 (l : LL) (V : AV) (h0 : AH) (j : Nat) (fr : AF) (h : AH) : Prop := ∃ tm nx lo ob, j ≤ l.vars.length ∧ fr = ⟨tm, ⟨[], .no, none, 139⟩⟩ ∧ h = ⟨nx, lo, ob⟩ ∧ h0.next < nx ∧ h0.next ≤ lo ∧ ob.get h0.next = some (.box [.int .i64 l.c, V]) ∧
    nth tm 1 = .ptr h0.next 0 0 ∧ nth tm 4 = .int .i64 ((j : Int) - 1) ∧ lastNeg (l.vars.take j) = lastNeg l.vars
theorem c139 {K : CallF} (hK : Runs K) (m0 : Nat) (l : LL) (a : AV) (h : AH) (ha : Lv a l) (hl : l.vars.length ≤ 100) (hvl : VL l) :
    ∃ nx, h.next ≤ nx ∧ cK K (m0 + 1) (.fn 139 [] []) [a] .no h = some (.ret (.tup [.int .i64 (pivR l.vars).1, .int .i64 (pivR l.vars).2]), .no, ⟨nx, h.low, h.objs⟩) := by
  rw [cK_run hK _ 139]
  have key : ∃ v h', evFn EF (cK K m0) 30000 139 [a] .no h = some (.ret v, .no, h') ∧ Gx (fun v => v = .tup [.int .i64 (pivR l.vars).1, .int .i64 (pivR l.vars).2]) h v h' := by
    obtain ⟨V, rfl, a1, a2, a3, a4, a5, a6⟩ := ha.ex
    have la := (a5 0 h).len
    refine evFn_H cf139 (pureF _) ?_
    have hw1 : IntKind.wrap .i64 ((l.vars.length : Int) - 1) = (l.vars.length : Int) - 1 := wrap_fits _ (by omega) (by omega)
    unfold b139
    simp only [go_sem, Nat.reduceEqDiff, Nat.reduceAdd, s139_4, la, hw1]
    refine R_loop (I139 l V h) l.vars.length (by omega) ⟨_, _, _, _, Nat.le_refl _, rfl, rfl, by omega, Nat.le_refl _, by simp only [go_sem], by simp only [go_sem, Nat.reduceEqDiff], by simp only [go_sem], by rw [List.take_length]⟩ ?_
    rintro j fr H ⟨tm, nx, lo, ob, hj, rfl, rfl, hnx, hlo, g1, t1, t4, hln⟩
    unfold b139_2
    cases j with
    | zero =>
      have d : decide ((0 : Int) ≤ ((0 : Nat) : Int) - 1) = false := decide_eq_false (by omega)
      simp only [go_sem, Int.reduceNeg, t4, d, s139_3]
      refine HQ_gx (.inr rfl) hlo (by show h.next ≤ nx; omega) (by simp only [go_sem, Nat.reduceEqDiff, Int.reduceNeg, r139]; rfl) ?_
      rw [one_2, frz_tupS]
      simp only [List.map_cons, List.map_nil, frz_int, pivR]
      rw [← hln]; rfl
    | succ p =>
      have d : decide ((0 : Int) ≤ ((p + 1 : Nat) : Int) - 1) = true := decide_eq_true (by omega)
      have hp : ((p + 1 : Nat) : Int) - 1 = (p : Int) := by omega
      obtain ⟨x, hx⟩ : ∃ x, l.vars[p]? = some x := ⟨_, List.getElem?_eq_getElem (by omega)⟩
      have ia := a6 p x hx
      have hxv : encV x = .agg [.int .i64 x.idx, .int .i64 x.plus] := rfl
      rw [hxv] at ia
      obtain ⟨r1, r2, _, _⟩ := hvl.rng p x hx
      have hw2 : IntKind.wrap .i64 ((p : Int) - 1) = (p : Int) - 1 := wrap_fits _ (by omega) (by omega)
      have hw3 : IntKind.wrap .i64 (-1 - x.idx) = -1 - x.idx := wrap_fits _ (by omega) (by omega)
      have m1 : ¬ (h.next = nx) := by omega
      rw [take_succ_get hx, lastNeg_snoc] at hln
      rw [hp] at t4 d
      simp only [go_sem, Nat.reduceEqDiff, Nat.reduceAdd, Int.reduceNeg, t4, d, s139_1, t1, g1, ia, s139_0]
      refine sB_dec (fun hn => ?_) (fun hn => ?_)
      · simp only [go_sem, Nat.reduceEqDiff, Int.reduceNeg, hw3]
        refine HQ_gx (.inr rfl) (by (repeat' (first | assumption | exact Nat.le_refl _ | apply le_minN)) <;> omega) (by show h.next ≤ nx + 1; omega) (by simp only [go_sem, Nat.reduceEqDiff, Int.reduceNeg, r139]; rfl) ?_
        rw [one_2, frz_tupS]
        simp only [List.map_cons, List.map_nil, frz_int, pivR]
        rw [← hln, if_pos hn]
      · rw [if_neg hn] at hln
        simp only [go_sem, Nat.reduceEqDiff, t4, hw2]
        exact ⟨p, by omega, _, _, _, _, by omega, rfl, rfl, by omega, (by (repeat' (first | assumption | exact Nat.le_refl _ | apply le_minN)) <;> omega), by rw [Tr.get_put_other _ _ (by omega), Tr.get_put_other _ _ (by omega)]; exact g1, by simp only [go_sem, Nat.reduceEqDiff, t1], by simp only [go_sem], hln⟩
  obtain ⟨v, h', e, g⟩ := key
  obtain ⟨nx, h1, rfl⟩ := Gx_eq g
  obtain ⟨rfl, _⟩ := g
  exact ⟨nx, h1, e⟩
def I145 (l : LL) (V : AV) (h0 : AH) (j : Nat) (fr : AF) (h : AH) : Prop := ∃ tm m nx lo ob, m + j = l.vars.length ∧ fr = ⟨tm, ⟨[], .no, none, 145⟩⟩ ∧ h = ⟨nx, lo, ob⟩ ∧ h0.next < nx ∧ h0.next ≤ lo ∧ ob.get h0.next = some (.box [.int .i64 l.c, V]) ∧
    nth tm 1 = .ptr h0.next 0 0 ∧ nth tm 6 = .int .i64 (m : Int) ∧ nth tm 4 = .int .i64 (pivR (l.vars.take m)).1 ∧ nth tm 5 = .int .i64 (pivR (l.vars.take m)).2
theorem lastNeg_some {vs : List LV} {y : LV} (h : lastNeg vs = some y) : y ∈ vs ∧ y.idx < 0 := by
  have : ∀ (vs : List LV) o, vs.foldl (fun o x => if x.idx < 0 then some x else o) o = some y → o = some y ∨ (y ∈ vs ∧ y.idx < 0) := by
    intro vs
    induction vs with
    | nil => intro o h; exact .inl h
    | cons x vs ih =>
      intro o h
      rcases ih _ h with h | h
      · replace h : (if x.idx < 0 then some x else o) = some y := h
        by_cases hx : x.idx < 0
        · rw [if_pos hx] at h; cases h; exact .inr ⟨by simp, hx⟩
        · rw [if_neg hx] at h; exact .inl h
      · exact .inr ⟨List.mem_cons_of_mem _ h.1, h.2⟩
  rcases this vs none h with h | h
  · cases h
  · exact h
theorem VL.asc {l : LL} (h : VL l) : ∀ (d i : Nat) x y, l.vars[i]? = some x → l.vars[i + d + 1]? = some y → x.idx < y.idx
  | 0, i, x, y, hx, hy => h.ord i x y hx hy
  | d + 1, i, x, y, hx, hy => by
    obtain ⟨z, hz⟩ : ∃ z, l.vars[i + d + 1]? = some z := by
      have := (List.getElem?_eq_some_iff.1 hy).1
      exact ⟨_, List.getElem?_eq_getElem (by omega)⟩
    have := VL.asc h d i x z hx hz
    have := h.ord (i + d + 1) z y hz hy
    omega
theorem c145 {K : CallF} (hK : Runs K) (m0 : Nat) (l : LL) (a : AV) (h : AH) (ha : Lv a l) (hl : l.vars.length ≤ 100) (hvl : VL l) :
    ∃ nx, h.next ≤ nx ∧ cK K (m0 + 1) (.fn 145 [] []) [a] .no h = some (.ret (.tup [.int .i64 (pivR l.vars).1, .int .i64 (pivR l.vars).2]), .no, ⟨nx, h.low, h.objs⟩) := by
  rw [cK_run hK _ 145]
  have key : ∃ v h', evFn EF (cK K m0) 30000 145 [a] .no h = some (.ret v, .no, h') ∧ Gx (fun v => v = .tup [.int .i64 (pivR l.vars).1, .int .i64 (pivR l.vars).2]) h v h' := by
    obtain ⟨V, rfl, a1, a2, a3, a4, a5, a6⟩ := ha.ex
    have la := (a5 0 h).len
    refine evFn_H cf145 (pureF _) ?_
    unfold b145
    simp only [go_sem, Nat.reduceAdd, Int.reduceNeg, s145_5, s145_4]
    refine R_loop (I145 l V h) l.vars.length (by omega) ⟨_, 0, _, _, _, Nat.zero_add _, rfl, rfl, by omega, Nat.le_refl _, by simp only [go_sem], by simp only [go_sem, Nat.reduceEqDiff, Int.reduceNeg], by simp only [go_sem, Int.reduceNeg]; rfl, by simp only [go_sem, Nat.reduceEqDiff, Int.reduceNeg]; rfl, by simp only [go_sem, Nat.reduceEqDiff, Int.reduceNeg]; rfl⟩ ?_
    rintro j fr H ⟨tm, q, nx, lo, ob, hj, rfl, rfl, hnx, hlo, g1, t1, t6, t4, t5⟩
    unfold b145_2
    simp only [go_sem, Nat.reduceEqDiff, t6, t1, g1, la]
    refine sB_dec (fun hlt => ?_) (fun hge => ?_)
    · have hlt : q < l.vars.length := by omega
      obtain ⟨x, hx⟩ : ∃ x, l.vars[q]? = some x := ⟨_, List.getElem?_eq_getElem hlt⟩
      have ia := a6 q x hx
      have hxv : encV x = .agg [.int .i64 x.idx, .int .i64 x.plus] := rfl
      rw [hxv] at ia
      obtain ⟨r1, r2, _, _⟩ := hvl.rng q x hx
      have hw2 := wrap_succ q (by omega)
      have hw3 : IntKind.wrap .i64 (-1 - x.idx) = -1 - x.idx := wrap_fits _ (by omega) (by omega)
      have hs : lastNeg (l.vars.take (q + 1)) = if x.idx < 0 then some x else lastNeg (l.vars.take q) := by rw [take_succ_get hx, lastNeg_snoc]
      have go : ∀ tm', nth tm' 1 = .ptr h.next 0 0 → nth tm' 6 = .int .i64 ((q + 1 : Nat) : Int) → nth tm' 4 = .int .i64 (pivR (l.vars.take (q + 1))).1 → nth tm' 5 = .int .i64 (pivR (l.vars.take (q + 1))).2 → ∀ nx' lo' ob', nx ≤ nx' → h.next ≤ lo' → ob'.get h.next = some (.box [.int .i64 l.c, V]) →
          ∃ j', j' < j ∧ I145 l V h j' ⟨tm', ⟨[], .no, none, 145⟩⟩ ⟨nx', lo', ob'⟩ := fun tm' u1 u6 u4 u5 nx' lo' ob' w1 w2 w3 => ⟨j - 1, by omega, tm', q + 1, nx', lo', ob', by omega, rfl, rfl, by omega, w2, w3, u1, u6, u4, u5⟩
      have gk : ((ob.put nx (.box [.int .i64 0, .int .i64 0])).put nx (.box [.int .i64 x.idx, .int .i64 x.plus])).get h.next = some (.box [.int .i64 l.c, V]) := by
        rw [Tr.get_put_other _ _ (by omega), Tr.get_put_other _ _ (by omega)]; exact g1
      by_cases hn : x.idx < 0
      · have d1 : decide (x.idx < 0) = true := decide_eq_true hn
        rw [if_pos hn] at hs
        have hp : pivR (l.vars.take (q + 1)) = (-1 - x.idx, x.plus) := by unfold pivR; rw [hs]
        rw [hp] at go
        cases hq : lastNeg (l.vars.take q) with
        | none =>
          have hp0 : pivR (l.vars.take q) = (-1, 0) := by unfold pivR; rw [hq]
          rw [hp0] at t4 t5
          have d2 : decide ((-1 : Int) < 0) = true := by decide
          have t4 : nth tm 4 = .int .i64 (-1) := t4
          simp only [go_sem, Nat.reduceEqDiff, Nat.reduceAdd, Int.reduceLT, Int.reduceNeg, s145_1, t1, g1, t6, ia, s145_0, d1, t4, hw3, hw2]
          exact go _ (by simp only [go_sem, Nat.reduceEqDiff, Int.reduceNeg, t1]) (by simp only [go_sem, Int.reduceNeg]) (by simp only [go_sem, Nat.reduceEqDiff, Int.reduceNeg]) (by simp only [go_sem, Nat.reduceEqDiff, Int.reduceNeg]) _ _ _ (by omega) (by (repeat' (first | assumption | exact Nat.le_refl _ | apply le_minN)) <;> omega) gk
        | some y =>
          have hp0 : pivR (l.vars.take q) = (-1 - y.idx, y.plus) := by unfold pivR; rw [hq]
          rw [hp0] at t4 t5
          obtain ⟨hy1, hy2⟩ := lastNeg_some hq
          obtain ⟨i, hi⟩ := List.mem_iff_getElem?.1 hy1
          have hil := (List.getElem?_eq_some_iff.1 hi).1
          rw [List.length_take] at hil
          rw [List.getElem?_take, if_pos (by omega)] at hi
          have hlt' := hvl.asc (q - i - 1) i y x hi (by rw [show i + (q - i - 1) + 1 = q by omega]; exact hx)
          have d2 : decide (-1 - y.idx < 0) = false := decide_eq_false (by omega)
          have d3 : decide (-1 - x.idx < -1 - y.idx) = true := decide_eq_true (by omega)
          simp only [go_sem, Nat.reduceEqDiff, Nat.reduceAdd, Int.reduceNeg, s145_1, t1, g1, t6, ia, s145_0, d1, t4, d2, d3, hw3, hw2]
          exact go _ (by simp only [go_sem, Nat.reduceEqDiff, Int.reduceNeg, t1]) (by simp only [go_sem, Int.reduceNeg]) (by simp only [go_sem, Nat.reduceEqDiff, Int.reduceNeg]) (by simp only [go_sem, Nat.reduceEqDiff, Int.reduceNeg]) _ _ _ (by omega) (by (repeat' (first | assumption | exact Nat.le_refl _ | apply le_minN)) <;> omega) gk
      · have d1 : decide (x.idx < 0) = false := decide_eq_false hn
        rw [if_neg hn] at hs
        have hp : pivR (l.vars.take (q + 1)) = pivR (l.vars.take q) := by unfold pivR; rw [hs]
        rw [hp] at go
        simp only [go_sem, Nat.reduceEqDiff, Nat.reduceAdd, Int.reduceNeg, s145_1, t1, g1, t6, ia, s145_0, d1, hw2]
        exact go _ (by simp only [go_sem, Nat.reduceEqDiff, t1]) (by simp only [go_sem]) (by simp only [go_sem, Nat.reduceEqDiff, t4]) (by simp only [go_sem, Nat.reduceEqDiff, t5]) _ _ _ (by omega) (by (repeat' (first | assumption | exact Nat.le_refl _ | apply le_minN)) <;> omega) gk
    · have hme : q = l.vars.length := by omega
      subst hme
      rw [List.take_length] at t4 t5
      simp only [go_sem, Nat.reduceEqDiff, s145_3, t4, t5]
      refine HQ_gx (.inr rfl) hlo (by show h.next ≤ nx; omega) (by simp only [go_sem, Nat.reduceEqDiff, r145]; rfl) ?_
      rw [one_2, frz_tupS]
      simp only [List.map_cons, List.map_nil, frz_int]
  obtain ⟨v, h', e, g⟩ := key
  obtain ⟨nx, h1, rfl⟩ := Gx_eq g
  obtain ⟨rfl, _⟩ := g
  exact ⟨nx, h1, e⟩
attribute [local go_sem] RD_max RD_lookup birth_lookup build_1i build_2i build_p1
def lowR (l : LL) (k : Int) : LL := match l.vars with
  | [] => ⟨max 0 (l.c - k), []⟩
  | x :: _ => ⟨0, [⟨x.idx, max 0 (x.plus - k)⟩]⟩
theorem c141 {K : CallF} (hK : Runs K) (m0 : Nat) (l : LL) (k : Int) (a : AV) (h : AH) (ha : Lv a l) (hl : l.vars.length ≤ 1) (hc : 0 ≤ l.c ∧ l.c ≤ 1000) (hp : ∀ x ∈ l.vars, 0 ≤ x.plus ∧ x.plus ≤ 1000) (hk : 0 ≤ k ∧ k ≤ 1000) :
    ∃ v nx, h.next ≤ nx ∧ cK K (m0 + 1) (.fn 141 [] []) [a, .int .i64 k] .no h = some (.ret v, .no, ⟨nx, h.low, h.objs⟩) ∧ Lv v (lowR l k) := by
  rw [cK_run hK _ 141]
  have key : ∃ v h', evFn EF (cK K m0) 30000 141 [a, .int .i64 k] .no h = some (.ret v, .no, h') ∧ Gx (fun v => Lv v (lowR l k)) h v h' := by
    obtain ⟨V, rfl, a1, a2, a3, a4, a5, a6⟩ := ha.ex
    have la := (a5 0 h).len
    have n1 : ¬ (h.next = h.next + 1) := by omega
    have n2 : ¬ (h.next = h.next + 1 + 1) := by omega
    have n3 : ¬ (h.next + 1 = h.next + 1 + 1) := by omega
    have n4 : ¬ (h.next + 1 = h.next) := by omega
    refine evFn_H cf141 (pureF _) ?_
    unfold b141
    rcases l with ⟨c, vs⟩
    cases vs with
    | nil =>
      have d : decide (((0 : Nat) : Int) = 0) = true := by decide
      have hw : IntKind.wrap .i64 (c - k) = c - k := wrap_fits _ (by simp at hc; omega) (by simp at hc; omega)
      simp only [go_sem, Nat.reduceEqDiff, Nat.reduceAdd, reduceCtorEq, s141_2, la, d, n1, hw, max2]
      refine HQ_gx (.inr rfl) (by (repeat' (first | assumption | exact Nat.le_refl _ | apply le_minN)) <;> omega) (by show h.next ≤ h.next + 1 + 1; omega) (by simp only [go_sem, Nat.reduceEqDiff, Nat.reduceAdd, r141]; rfl) ?_
      rw [one_1, frz_aggS]
      simp only [List.map_cons, List.map_nil, frz_int, frz_nils]
      exact Lv_nils _
    | cons x vs =>
      have hvs : vs = [] := by cases vs with
        | nil => rfl
        | cons y l => simp at hl
      subst hvs
      have d : decide (((1 : Nat) : Int) = 0) = false := by decide
      have ia : ∀ h, evIaddr V h 2 (.int .i64 0) = .val (.vptr (.agg [.int .i64 x.idx, .int .i64 x.plus])) h := a6 0 x rfl
      have hpx := hp x (by simp)
      have hw : IntKind.wrap .i64 (x.plus - k) = x.plus - k := wrap_fits _ (by omega) (by omega)
      simp only [go_sem, Nat.reduceEqDiff, Nat.reduceAdd, Nat.reduceMul, reduceCtorEq, s141_2, la, d, n1, n3, s141_1, ia, s141_0, hw, max2]
      refine HQ_gx (.inr rfl) (by (repeat' (first | assumption | exact Nat.le_refl _ | apply le_minN)) <;> omega) (by show h.next ≤ h.next + 1 + 1 + 1; omega) (by simp only [go_sem, Nat.reduceEqDiff, Nat.reduceAdd, r141]; rfl) ?_
      rw [one_1, frz_aggS]
      simp only [List.map_cons, List.map_nil, frz_int, frz_clip]
      exact Lv_clip1 0 ⟨x.idx, max 0 (x.plus - k)⟩
  obtain ⟨v, h', e, g⟩ := key
  obtain ⟨nx, h1, rfl⟩ := Gx_eq g
  exact ⟨v, nx, h1, e, g.1⟩
theorem c147 {K : CallF} (hK : Runs K) (m0 : Nat) (l : LL) (k : Int) (a : AV) (h : AH) (ha : Lv a l) (hl : l.vars.length ≤ 1) (hc : 0 ≤ l.c ∧ l.c ≤ 1000) (hp : ∀ x ∈ l.vars, 0 ≤ x.plus ∧ x.plus ≤ 1000) (hk : 0 ≤ k ∧ k ≤ 1000) :
    ∃ v nx, h.next ≤ nx ∧ cK K (m0 + 1) (.fn 147 [] []) [a, .int .i64 k] .no h = some (.ret v, .no, ⟨nx, h.low, h.objs⟩) ∧ Lv v (lowR l k) := by
  rw [cK_run hK _ 147]
  have key : ∃ v h', evFn EF (cK K m0) 30000 147 [a, .int .i64 k] .no h = some (.ret v, .no, h') ∧ Gx (fun v => Lv v (lowR l k)) h v h' := by
    obtain ⟨V, rfl, a1, a2, a3, a4, a5, a6⟩ := ha.ex
    have la := (a5 0 h).len
    have n1 : ¬ (h.next = h.next + 1) := by omega
    have n2 : ¬ (h.next = h.next + 1 + 1) := by omega
    have n3 : ¬ (h.next + 1 = h.next + 1 + 1) := by omega
    have n4 : ¬ (h.next + 1 = h.next) := by omega
    refine evFn_H cf147 (pureF _) ?_
    unfold b147
    rcases l with ⟨c, vs⟩
    cases vs with
    | nil =>
      have d : decide (((0 : Nat) : Int) = 0) = true := by decide
      have hw : IntKind.wrap .i64 (c - k) = c - k := wrap_fits _ (by simp at hc; omega) (by simp at hc; omega)
      simp only [go_sem, Nat.reduceEqDiff, Nat.reduceAdd, reduceCtorEq, s147_2, la, d, n1, hw, max2]
      refine HQ_gx (.inr rfl) (by (repeat' (first | assumption | exact Nat.le_refl _ | apply le_minN)) <;> omega) (by show h.next ≤ h.next + 1 + 1; omega) (by simp only [go_sem, Nat.reduceEqDiff, Nat.reduceAdd, r147]; rfl) ?_
      rw [one_1, frz_aggS]
      simp only [List.map_cons, List.map_nil, frz_int, frz_nils]
      rw [Int.max_comm]
      exact Lv_nils _
    | cons x vs =>
      have hvs : vs = [] := by cases vs with
        | nil => rfl
        | cons y l => simp at hl
      subst hvs
      have d : decide (((1 : Nat) : Int) = 0) = false := by decide
      have ia : ∀ h, evIaddr V h 2 (.int .i64 0) = .val (.vptr (.agg [.int .i64 x.idx, .int .i64 x.plus])) h := a6 0 x rfl
      have hpx := hp x (by simp)
      have hw : IntKind.wrap .i64 (x.plus - k) = x.plus - k := wrap_fits _ (by omega) (by omega)
      simp only [go_sem, Nat.reduceEqDiff, Nat.reduceAdd, Nat.reduceMul, reduceCtorEq, s147_2, la, d, n1, n3, s147_1, ia, s147_0, hw, max2]
      refine HQ_gx (.inr rfl) (by (repeat' (first | assumption | exact Nat.le_refl _ | apply le_minN)) <;> omega) (by show h.next ≤ h.next + 1 + 1 + 1; omega) (by simp only [go_sem, Nat.reduceEqDiff, Nat.reduceAdd, r147]; rfl) ?_
      rw [one_1, frz_aggS]
      simp only [List.map_cons, List.map_nil, frz_int, frz_clip]
      rw [Int.max_comm]
      exact Lv_clip1 0 ⟨x.idx, max 0 (x.plus - k)⟩
  obtain ⟨v, h', e, g⟩ := key
  obtain ⟨nx, h1, rfl⟩ := Gx_eq g
  exact ⟨v, nx, h1, e, g.1⟩
end Go.Proofs.YtnacljdablhbgaaGreat
