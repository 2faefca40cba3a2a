/- SolverFinishes: number, Plus of the reference (no condition). -/
import Derived.Test.YtnacljdablhbgaaGreatDc
namespace Go.Proofs.YtnacljdablhbgaaGreat
open Go.AG
attribute [local go_sem] RD_max RD_lookup birth_lookup build_1i build_2i
theorem own_Lv {base fb nx nx' lo lo' : Nat} {ob ob' : Tr AObj} {v : AV} {vs : List LV} (o : Own base 2 true ⟨nx, lo, ob⟩ v (vs.map encV)) (hfb : fb ≤ base) (hn : nx ≤ nx') (hk : ∀ k, base ≤ k → ob'.get k = ob.get k) (c : Int) (m : Nat) : Lv (.agg [.int .i64 c, AG.frz (m + 2) ⟨nx', lo', ob'⟩ fb v]) ⟨c, vs⟩ := by
  rcases own_frzB (m := m + 1) (fb := fb) (own_keep (h' := ⟨nx', lo', ob'⟩) o hn (fun k h1 _ => hk k h1)) hfb (fun e => by cases e) (fun x hx => by obtain ⟨y, _, rfl⟩ := List.mem_map.1 hx; exact encV_frz _ _ _ _) with ⟨_, e0, ef⟩ | ef
  · rw [ef]
    have e0 : vs = [] := by simpa using e0
    rw [e0]; exact Lv_nils _
  · rw [ef]; exact Lv_lst _ _
theorem call242 (call : CallF) (n : Nat) (c : Int) (h : AH) : ∃ v h', evFn EF call n 242 [.int .i64 c] .no h = some (.ret v, .no, h') ∧ Gx (fun v => v = .agg [.int .i64 c, .nils]) h v h' := by
  refine evFn_H cf242 (pureF _) ?_
  unfold b242
  simp only [go_sem, Nat.reduceEqDiff, Nat.reduceAdd, reduceCtorEq, s242_0]
  refine HQ_gx (.inr rfl) (by (repeat' (first | assumption | exact Nat.le_refl _ | apply le_minN)) <;> omega) (by show h.next ≤ h.next + 1; omega) (by simp only [go_sem, Nat.reduceEqDiff, Nat.reduceAdd, r242]; rfl) ?_
  rw [one_1, frz_aggS]; simp only [List.map_cons, List.map_nil, frz_int, frz_nils]
def pcR (l : LL) (n : Int) : Int := if 0 < l.c ∨ l.vars.length = 0 then l.c + n else 0
def upV (vs : List LV) (n : Int) : List LV := vs.map fun x => ⟨x.idx, x.plus + n⟩
def plusR (l : LL) (n : Int) : LL × Int := cond (decide (100 < pcR l n) || l.vars.any fun x => decide (100 < x.plus + n)) (⟨0, []⟩, 15) (⟨pcR l n, upV l.vars n⟩, 0)
structure J243 (l : LL) (nn : Int) (V : AV) (h0 h : AH) (m : Nat) (V' : AV) : Prop where
  b2 : h.get h0.next = some (.box [.int .i64 l.c, V])
  b4 : h.get (h0.next + 1) = some (.box [.int .i64 0, .nils])
  b6 : h.get (h0.next + 2) = some (.box [.int .i64 (pcR l nn), V'])
  own : Own (h0.next + 3) 2 true h V' ((upV (l.vars.take m) nn).map encV)
  low : h0.next ≤ h.low
  next : h0.next + 3 ≤ h.next
  keep : ∀ k, k < h0.next → h.get k = h0.get k
def I243 (l : LL) (nn : Int) (V : AV) (h0 : AH) (j : Nat) (fr : AF) (h : AH) : Prop := ∃ tm m V', m + j = l.vars.length ∧ fr = ⟨tm, ⟨[], .no, none, 243⟩⟩ ∧ J243 l nn V h0 h m V' ∧
    nth tm 1 = .int .i64 nn ∧ nth tm 2 = .ptr h0.next 0 0 ∧ nth tm 4 = .ptr (h0.next + 1) 0 0 ∧ nth tm 5 = .int .i64 0 ∧ nth tm 6 = .ptr (h0.next + 2) 0 0 ∧ nth tm 7 = .int .i64 (m : Int) ∧ ∀ (i : Nat) x, i < m → l.vars[i]? = some x → decide (100 < x.plus + nn) = false
theorem call243 {K : CallF} (hv : KV K) (q : Nat) (n : Nat) (l : LL) (nn : Int) (a : AV) (h : AH) (ha : Lv a l) (hvl : VL l) (hn : 300 < n) (hl : l.vars.length ≤ 100) (n0 : 0 ≤ nn) (n1 : nn ≤ 100) :
    ∃ v h', evFn EF (cK K q) n 243 [a, .int .i64 nn] .no h = some (.ret v, .no, h') ∧ Gx (isLv (plusR l nn)) h v h' := by
  have e21 := fun h => cK_known (hv.r21 a l h ha (by omega)) q
  rw [vl_t hvl] at e21
  obtain ⟨V, rfl, a1, a2, a3, a4, a5, a6⟩ := ha.ex
  refine evFn_H cf243 (pureF _) ?_
  have m1 : ¬ (h.next = h.next + 1) := by omega
  have m2 : ¬ (h.next = h.next + 1 + 1) := by omega
  have m3 : ¬ (h.next + 1 = h.next + 1 + 1) := by omega
  have la := (a5 0 h).len
  have d1 : decide (nn < 0) = false := decide_eq_false (by omega)
  have d2 : decide (100 < nn) = false := decide_eq_false (by omega)
  obtain ⟨c0, c1, rng, _, _⟩ := hvl
  have hw : IntKind.wrap .i64 (l.c + nn) = l.c + nn := wrap_fits _ (by omega) (by omega)
  have main : ∀ tm ob lo, h.next ≤ lo → ob.get h.next = some (.box [.int .i64 l.c, V]) → ob.get (h.next + 1) = some (.box [.int .i64 0, .nils]) → ob.get (h.next + 2) = some (.box [.int .i64 (pcR l nn), .nils]) → (∀ k, k < h.next → ob.get k = h.objs.get k) →
      nth tm 1 = .int .i64 nn → nth tm 2 = .ptr h.next 0 0 → nth tm 4 = .ptr (h.next + 1) 0 0 → nth tm 5 = .int .i64 0 → nth tm 6 = .ptr (h.next + 2) 0 0 →
      R (cK K q) n [.code s243_4] (HQ h r243 (Gx (isLv (plusR l nn)) h)) .normal ⟨tm, ⟨[], .no, none, 243⟩⟩ ⟨h.next + 3, lo, ob⟩ := by
    intro tm ob lo hlo g2 g4 g6 gk t1 t2 t4 t5 t6
    have q1 : ¬ (h.next + 1 = h.next + 2) := by omega
    unfold s243_4
    simp only [go_sem, t6, g6]
    refine sB_dec (fun hbig => ?_) (fun hsm => ?_)
    · simp only [go_sem, Nat.reduceEqDiff, Nat.reduceAdd, t4, g4]
      refine HQ_gx (.inr rfl) (by (repeat' (first | assumption | exact Nat.le_refl _ | apply le_minN)) <;> omega) (by show h.next ≤ h.next + 3; omega) (by simp only [go_sem, Nat.reduceEqDiff, Nat.reduceAdd, r243, t4]; rfl) ⟨.agg [.int .i64 0, .nils], ?_, ?_⟩
      · rw [one_2, frz_tupS]; simp only [List.map_cons, List.map_nil, frz_aggS, frz_int, frz_nils, plusR, decide_eq_true hbig, Bool.true_or, cond_true]
      · rw [show (plusR l nn).1 = ⟨0, []⟩ by simp only [plusR, decide_eq_true hbig, Bool.true_or, cond_true]]
        exact Lv_nils 0
    · simp only [go_sem, s243_3]
      refine R_loop (I243 l nn V h) l.vars.length (by omega) ⟨_, 0, .nils, by omega, rfl, ⟨g2, g4, g6, own_nil _ _ _ _, hlo, by show h.next + 3 ≤ h.next + 3; omega, gk⟩, by simp only [go_sem, Nat.reduceEqDiff, t1], by simp only [go_sem, Nat.reduceEqDiff, t2], by simp only [go_sem, Nat.reduceEqDiff, t4], by simp only [go_sem, Nat.reduceEqDiff, t5], by simp only [go_sem, Nat.reduceEqDiff, t6], by simp only [go_sem]; rfl, fun i x hi => absurd hi (by omega)⟩ ?_
      rintro j fr H ⟨tm, m, V', hm, rfl, hJ, t1, t2, t4, t5, t6, t7, hp⟩
      obtain ⟨g2, g4, g6, own, low, nxt, keep⟩ := hJ
      obtain ⟨nx, lo, ob⟩ := H
      have g2 : ob.get h.next = some (.box [.int .i64 l.c, V]) := g2
      have g4 : ob.get (h.next + 1) = some (.box [.int .i64 0, .nils]) := g4
      have g6 : ob.get (h.next + 2) = some (.box [.int .i64 (pcR l nn), V']) := g6
      have low : h.next ≤ lo := low
      have nxt : h.next + 3 ≤ nx := nxt
      unfold b243_1
      simp only [go_sem, Nat.reduceEqDiff, t7, t2, g2, la]
      refine sB_dec (fun hlt => ?_) (fun hge => ?_)
      · have hlt : m < l.vars.length := by omega
        obtain ⟨x, hx⟩ : ∃ x, l.vars[m]? = some x := ⟨_, List.getElem?_eq_getElem hlt⟩
        have ia := a6 m x hx
        have hxv : encV x = .agg [.int .i64 x.idx, .int .i64 x.plus] := rfl
        rw [hxv] at ia
        have hw2 := wrap_succ m (by omega)
        obtain ⟨_, _, p0, p1⟩ := rng m x hx
        have hw3 : IntKind.wrap .i64 (x.plus + nn) = x.plus + nn := wrap_fits _ (by omega) (by omega)
        simp only [go_sem, Nat.reduceEqDiff, s243_0, t2, t7, t1, g2, ia, hw3]
        refine sB_dec (fun hbig => ?_) (fun hok => ?_)
        · have hany : (l.vars.any fun x => decide (100 < x.plus + nn)) = true := any_true hx (decide_eq_true hbig)
          simp only [go_sem, Nat.reduceEqDiff, Nat.reduceAdd, t4, g4]
          refine HQ_gx (.inr rfl) (by (repeat' (first | assumption | exact Nat.le_refl _ | apply le_minN)) <;> omega) (by show h.next ≤ nx; omega) (by simp only [go_sem, Nat.reduceEqDiff, Nat.reduceAdd, r243, t4]; rfl) ⟨.agg [.int .i64 0, .nils], ?_, ?_⟩
          · rw [one_2, frz_tupS]; simp only [List.map_cons, List.map_nil, frz_aggS, frz_int, frz_nils, plusR, hany, Bool.or_true, cond_true]
          · rw [show (plusR l nn).1 = ⟨0, []⟩ by simp only [plusR, hany, Bool.or_true, cond_true]]
            exact Lv_nils 0
        · obtain ⟨v', h', c1, c2, c3, c4, c5, c6, c7, c8⟩ := own_append (bytes := 16) (z := [.int .i64 0, .int .i64 0]) own (by show h.next + 3 ≤ nx; omega) rfl (x := encV ⟨x.idx, x.plus + nn⟩) rfl rfl rfl (by simp only [upV, List.length_map, List.length_take]; omega) (by omega)
          have c1 : evAppend ⟨nx, lo, ob⟩ 2 true [.int .i64 0, .int .i64 0] 16 V' (.clip [.agg [.int .i64 x.idx, .int .i64 (x.plus + nn)]]) = some (v', h') := c1
          rw [show (upV (l.vars.take m) nn).map encV ++ [encV ⟨x.idx, x.plus + nn⟩] = (upV (l.vars.take (m + 1)) nn).map encV by rw [take_succ_get hx]; simp [upV]] at c2
          have rd := own_Rd c2
          have hvc := rd.cell
          have hvl := rd.lies
          obtain ⟨nx2, lo2, ob2⟩ := h'
          have c3 : nx ≤ nx2 := c3
          have c4 : ∀ k, k < h.next + 3 → ob2.get k = ob.get k := c4
          have c5 : h.next ≤ lo2 := c5 h.next (by omega) low
          have f6 : ob2.get (h.next + 2) = some (.box [.int .i64 (pcR l nn), V']) := (c4 _ (by omega)).trans g6
          have q1 : ¬ (h.next + 1 = h.next + 2) := by omega
          simp only [go_sem, Nat.reduceEqDiff, Nat.reduceAdd, Nat.reduceMul, t2, t7, t1, t6, g2, g6, ia, hw3, c1, f6, hvc, hvl, hw2]
          refine ⟨j - 1, by omega, _, m + 1, v', by omega, rfl, ⟨?_, ?_, ?_, ?_, (by (repeat' (first | assumption | exact Nat.le_refl _ | apply le_minN)) <;> omega), by show h.next + 3 ≤ nx2; omega, fun k hk => ?_⟩, by simp only [go_sem, Nat.reduceEqDiff, t1], by simp only [go_sem, Nat.reduceEqDiff, t2], by simp only [go_sem, Nat.reduceEqDiff, t4], by simp only [go_sem, Nat.reduceEqDiff, t5], by simp only [go_sem, Nat.reduceEqDiff, t6], by simp only [go_sem], fun i y hi hy => ?_⟩
          · rw [get_mk, Tr.get_put_other _ _ (by omega), c4 _ (by omega)]; exact g2
          · rw [get_mk, Tr.get_put_other _ _ (by omega), c4 _ (by omega)]; exact g4
          · rw [get_mk, Tr.get_put_same]
          · exact own_keep c2 (Nat.le_refl _) fun k h1 _ => by rw [get_mk, Tr.get_put_other _ _ (by omega)]; rfl
          · rw [get_mk, Tr.get_put_other _ _ (by omega), c4 _ (by omega)]; exact keep k hk
          · by_cases hi' : i < m
            · exact hp i y hi' hy
            · obtain rfl : i = m := by omega
              rw [hx] at hy; cases hy; exact decide_eq_false hok
      · have hme : m = l.vars.length := by omega
        subst hme
        rw [List.take_length] at own
        have rd := own_Rd own
        have hvc := rd.cell
        have hvl := rd.lies
        have hnone := any_false (fun i x hi hx => hp i x hi hx)
        simp only [go_sem, Nat.reduceEqDiff, Nat.reduceAdd, s243_2, t6, g6, t4, g4]
        refine HQ_gx (.inr rfl) (by (repeat' (first | assumption | exact Nat.le_refl _ | apply le_minN)) <;> omega) (by show h.next ≤ nx; omega) (by simp only [go_sem, Nat.reduceEqDiff, Nat.reduceAdd, r243, t4]; rfl) ?_
        have er : plusR l nn = (⟨pcR l nn, upV l.vars nn⟩, 0) := by unfold plusR; rw [hnone, decide_eq_false hsm]; rfl
        rw [one_2, frz_tupS, er]
        simp only [List.map_cons, List.map_nil, frz_aggS, frz_int]
        refine ⟨_, rfl, ?_⟩
        exact own_Lv own (by omega) (Nat.le_refl _) (by intros; (repeat rw [Tr.get_put_other _ _ (by omega)])) _ 0
  unfold b243
  have q1 : ¬ (h.next + 1 + 1 = h.next) := by omega
  by_cases hc : 0 < l.c
  · have dc : decide (0 < l.c) = true := decide_eq_true hc
    have hpc : pcR l nn = l.c + nn := if_pos (.inl hc)
    simp only [go_sem, Nat.reduceEqDiff, Nat.reduceAdd, Nat.reduceLeDiff, reduceCtorEq, s243_9, m1, m2, e21, s243_8, d1, s243_7, d2, s243_6, s243_5, dc, hw]
    exact main _ _ _ (by (repeat' (first | assumption | exact Nat.le_refl _ | apply le_minN)) <;> omega) (by simp only [go_sem, m2, m1]) (by simp only [go_sem, m3]) (by simp only [go_sem, hpc]) (by intros; (repeat rw [Tr.get_put_other _ _ (by omega)])) (by simp only [go_sem, Nat.reduceEqDiff]) (by simp only [go_sem, Nat.reduceEqDiff]) (by simp only [go_sem, Nat.reduceEqDiff]) (by simp only [go_sem, Nat.reduceEqDiff]) (by simp only [go_sem, Nat.reduceEqDiff])
  · have dc : decide (0 < l.c) = false := decide_eq_false hc
    by_cases hz : l.vars.length = 0
    · have dz : decide ((l.vars.length : Int) = 0) = true := decide_eq_true (by omega)
      have hpc : pcR l nn = l.c + nn := if_pos (.inr hz)
      simp only [go_sem, Nat.reduceEqDiff, Nat.reduceAdd, Nat.reduceLeDiff, reduceCtorEq, s243_9, m1, m2, e21, s243_8, d1, s243_7, d2, s243_6, s243_5, dc, hw, la, dz]
      exact main _ _ _ (by (repeat' (first | assumption | exact Nat.le_refl _ | apply le_minN)) <;> omega) (by simp only [go_sem, m2, m1]) (by simp only [go_sem, m3]) (by simp only [go_sem, hpc]) (by intros; (repeat rw [Tr.get_put_other _ _ (by omega)])) (by simp only [go_sem, Nat.reduceEqDiff]) (by simp only [go_sem, Nat.reduceEqDiff]) (by simp only [go_sem, Nat.reduceEqDiff]) (by simp only [go_sem, Nat.reduceEqDiff]) (by simp only [go_sem, Nat.reduceEqDiff])
    · have dz : decide ((l.vars.length : Int) = 0) = false := decide_eq_false (by omega)
      have hpc : pcR l nn = 0 := if_neg (fun e => e.elim hc hz)
      simp only [go_sem, Nat.reduceEqDiff, Nat.reduceAdd, reduceCtorEq, s243_9, m1, m2, e21, s243_8, d1, s243_7, d2, s243_6, s243_5, dc, la, dz]
      exact main _ _ _ (by (repeat' (first | assumption | exact Nat.le_refl _ | apply le_minN)) <;> omega) (by simp only [go_sem, m2, m1]) (by simp only [go_sem, m3]) (by simp only [go_sem, hpc]) (by intros; (repeat rw [Tr.get_put_other _ _ (by omega)])) (by simp only [go_sem, Nat.reduceEqDiff]) (by simp only [go_sem, Nat.reduceEqDiff]) (by simp only [go_sem, Nat.reduceEqDiff]) (by simp only [go_sem, Nat.reduceEqDiff]) (by simp only [go_sem, Nat.reduceEqDiff])
attribute [local go_sem] RD_max RD_lookup birth_lookup build_1i build_2i
theorem c242 {K : CallF} (hK : Runs K) (m : Nat) (c : Int) (h : AH) : ∃ nx, h.next ≤ nx ∧ cK K (m + 1) (.fn 242 [] []) [.int .i64 c] .no h = some (.ret (.agg [.int .i64 c, .nils]), .no, ⟨nx, h.low, h.objs⟩) := by
  rw [cK_run hK _ 242]
  obtain ⟨v, h', e, g⟩ := call242 (cK K m) 30000 c h
  obtain ⟨nx, g1, rfl⟩ := Gx_eq g
  obtain ⟨rfl, _⟩ := g
  exact ⟨nx, g1, e⟩
theorem c202 {K : CallF} (hK : Runs K) (m : Nat) (a b : LL) (va vb : AV) (h : AH) (ha : Lv va a) (hb : Lv vb b) (l1 : a.vars.length ≤ 100) (l2 : b.vars.length ≤ 100) :
    ∃ v nx, h.next ≤ nx ∧ cK K (m + 1) (.fn 202 [] []) [va, vb] .no h = some (.ret v, .no, ⟨nx, h.low, h.objs⟩) ∧ Lv v (joinR a b) := by
  rw [cK_run hK _ 202]
  obtain ⟨v, h', e, g⟩ := call202 (cK K m) 30000 a b va vb h ha hb (by omega) l1 l2
  obtain ⟨nx, g1, rfl⟩ := Gx_eq g
  exact ⟨v, nx, g1, e, g.1⟩
theorem c243 {K : CallF} (hK : Runs K) (hv : KV K) (m : Nat) (l : LL) (nn : Int) (a : AV) (h : AH) (ha : Lv a l) (hvl : VL l) (hl : l.vars.length ≤ 100) (n0 : 0 ≤ nn) (n1 : nn ≤ 100) :
    ∃ v nx, h.next ≤ nx ∧ cK K (m + 1) (.fn 243 [] []) [a, .int .i64 nn] .no h = some (.ret v, .no, ⟨nx, h.low, h.objs⟩) ∧ isLv (plusR l nn) v := by
  rw [cK_run hK _ 243]
  obtain ⟨v, h', e, g⟩ := call243 hv m 30000 l nn a h ha hvl (by omega) hl n0 n1
  obtain ⟨nx, g1, rfl⟩ := Gx_eq g
  exact ⟨v, nx, g1, e, g.1⟩
def I200 (V : AV) (ls : List LL) (b : Nat) (ob : Tr AObj) (j : Nat) (fr : AF) (h : AH) : Prop := ∃ tm m, m + j = ls.length ∧ fr = ⟨tm, ⟨[], .no, none, 200⟩⟩ ∧ h = ⟨b, b, ob⟩ ∧ nth tm 0 = V ∧ nth tm 3 = .int .i64 (m : Int)
theorem c200 {K : CallF} (hK : Runs K) (hv : KV K) (m : Nat) (V : AV) (ls : List LL) (h : AH) (hV : RdL h.next h V ls) (hl : ls.length < 30000) (hx : ∀ x ∈ ls, VL x ∧ x.vars.length ≤ 100) :
    ∃ nx, h.next ≤ nx ∧ cK K (m + 1) (.fn 200 [] []) [V] .no h = some (.ret (.bool true), .no, ⟨nx, h.low, h.objs⟩) := by
  rw [cK_run hK _ 200]
  have key : ∃ v h', evFn EF (cK K m) 30000 200 [V] .no h = some (.ret v, .no, h') ∧ Gx (fun v => v = .bool true) h v h' := by
    refine evFn_H cf200 (pureF _) ?_
    unfold b200
    have hlen := hV.len
    simp only [go_sem, s200_3]
    refine R_loop (I200 V ls h.next h.objs) ls.length (by omega) ⟨_, 0, Nat.zero_add _, rfl, rfl, by simp only [go_sem, reduceCtorEq], by simp only [go_sem]; rfl⟩ ?_
    rintro j fr H ⟨tm, q, hm, rfl, rfl, t0, t3⟩
    unfold b200_1
    simp only [go_sem, Nat.reduceEqDiff, reduceCtorEq, t0, t3, hlen]
    refine sB_dec (fun hlt => ?_) (fun hge => ?_)
    · have hlt : q < ls.length := by omega
      have hget : ls[q]? = some ls[q] := List.getElem?_eq_getElem hlt
      obtain ⟨p', a, hla, hp'⟩ := hV.get q _ hget
      have ha := (hp' ⟨h.next, h.next, h.objs⟩ (fun _ _ => rfl)).1
      have hb := (hp' ⟨h.next, h.next, h.objs⟩ (fun _ _ => rfl)).2
      have hw2 := wrap_succ q (by omega)
      obtain ⟨hvx, hxl⟩ := hx _ (List.getElem_mem hlt)
      have e21 := fun h => cK_known (hv.r21 a _ h hla (by omega)) m
      rw [vl_t hvx] at e21
      simp only [go_sem, Nat.reduceEqDiff, reduceCtorEq, s200_0, t0, t3, ha, hb, e21, hw2]
      exact ⟨j - 1, by omega, _, q + 1, by omega, rfl, rfl, by simp only [go_sem, reduceCtorEq, t0], by simp only [go_sem]⟩
    · simp only [go_sem, s200_2]
      exact HQ_gx (.inr rfl) (Nat.le_refl _) (Nat.le_refl _) (by simp only [go_sem, r200]; rfl) (by rw [one_1, frz_bool])
  obtain ⟨v, h', e, g⟩ := key
  obtain ⟨nx, g1, rfl⟩ := Gx_eq g
  obtain ⟨rfl, _⟩ := g
  exact ⟨nx, g1, e⟩
theorem mergeV_len : ∀ xs ys : List LV, (mergeV xs ys).length ≤ xs.length + ys.length
  | [], ys => by simp [mergeV]
  | x :: xs, [] => by simp [mergeV]
  | x :: xs, y :: ys => by
    have h1 := mergeV_len xs (y :: ys)
    have h2 := mergeV_len (x :: xs) ys
    have h3 := mergeV_len xs ys
    rw [mergeV]
    split
    · simp at *; omega
    · split <;> (simp at *; omega)
termination_by xs ys => xs.length + ys.length
def repOne (vals : List LL) (s : Option LL) (x : LV) : Option LL := match s with
  | none => none
  | some out => if x.idx < 0 ∧ -1 - x.idx < (vals.length : Int) then
      match vals[(-1 - x.idx).toNat]? with
      | some y => if (plusR y x.plus).2 = 0 then some (joinR out (plusR y x.plus).1) else none
      | none => some out
    else some (joinR out ⟨0, [x]⟩)
def repS (l : LL) (vals : List LL) : Option LL := l.vars.foldl (repOne vals) (some ⟨l.c, []⟩)
def repR (l : LL) (vals : List LL) : LL × Int := match repS l vals with
  | some r => (r, 0)
  | none => (⟨0, []⟩, 15)
theorem rep_none (vals : List LL) (vs : List LV) : vs.foldl (repOne vals) none = none := by
  induction vs with
  | nil => rfl
  | cons x vs ih => exact ih
theorem plusR_err (l : LL) (n : Int) : (plusR l n).2 = 0 ∨ (plusR l n).2 = 15 := by
  unfold plusR
  cases (decide (100 < pcR l n) || l.vars.any fun x => decide (100 < x.plus + n)) <;> simp
attribute [local go_sem] RD_max RD_lookup birth_lookup build_1i build_2i
theorem Lv_clip1 (c : Int) (x : LV) : Lv (.agg [.int .i64 c, .clip [.agg [.int .i64 x.idx, .int .i64 x.plus]]]) ⟨c, [x]⟩ := by
  have hia : ∀ (i : Nat) y, [x][i]? = some y → ∀ h, evIaddr (.clip [.agg [.int .i64 x.idx, .int .i64 x.plus]]) h 2 (.int .i64 (i : Int)) = .val (.vptr (encV y)) h := by
    intro i y e h
    cases i with
    | zero => cases e; rfl
    | succ i => simp at e
  refine ⟨⟨_, rfl, by simp [AV.norm, AV.norms, encV], rfl, rfl, fun m h b => frz_clip m b _, fun b h => ⟨fun h => rfl, fun i y e => ⟨.vptr (encV y), fun H _ => ⟨hia i y e H, load_vptr true 2 rfl rfl⟩⟩, rfl, rfl, fun m h b' _ => frz_clip m b' _⟩, hia⟩, fun V e => ?_⟩
  cases e
  exact ⟨⟨fun _ => rfl, hia, fun h _ => (sl1_at (es := [encV x]) (.inr rfl) (fun y hy => by simp at hy; subst hy; rfl) h (by simp)).trans rfl, rfl, rfl, beq_free (by simp [AV.free, AV.frees])⟩, fun _ => rfl⟩
theorem build_p1 (h : AH) (x y : AV) : evBuild h [.int .i64 0, .nils] [(1, 1, .clip [.agg [x, y]])] = .val (.agg [.int .i64 0, .clip [.agg [x, y]]]) h := (rfl)
theorem plusR_len (l : LL) (n : Int) : (plusR l n).1.vars.length ≤ l.vars.length := by
  unfold plusR
  cases (decide (100 < pcR l n) || l.vars.any fun x => decide (100 < x.plus + n)) <;> simp [upV]
structure J201 (l : LL) (W : AV) (kO : Nat) (h0 h : AH) (out : LL) (a : AV) : Prop where
  b3 : h.get h0.next = some (.box [.int .i64 l.c, W])
  b6 : h.get (h0.next + 1) = some (.box [.int .i64 0, .nils])
  b8 : h.get kO = some (.box a.cells)
  lv : Lv a out
  lk : h0.next + 2 ≤ kO
  lo : kO < h.next
  low : h0.next ≤ h.low
  keep : ∀ k, k < h0.next → h.get k = h0.get k
def I201 (l : LL) (vals : List LL) (V W : AV) (kO : Nat) (h0 : AH) (j : Nat) (fr : AF) (h : AH) : Prop := ∃ tm m out a, m + j = l.vars.length ∧ fr = ⟨tm, ⟨[], .no, none, 201⟩⟩ ∧ J201 l W kO h0 h out a ∧
    (l.vars.take m).foldl (repOne vals) (some ⟨l.c, []⟩) = some out ∧ out.vars.length ≤ 9 * m ∧
    nth tm 1 = V ∧ nth tm 2 = .bool true ∧ nth tm 3 = .ptr h0.next 0 0 ∧ nth tm 6 = .ptr (h0.next + 1) 0 0 ∧ nth tm 7 = .int .i64 0 ∧ nth tm 8 = .ptr kO 0 0 ∧ nth tm 9 = .int .i64 (m : Int)
theorem call201 {K : CallF} (hK : Runs K) (hv : KV K) (m0 : Nat) (a : AV) (l : LL) (V : AV) (vals : List LL) (h : AH) (ha : Lv a l) (hV : RdL h.next h V vals) (h1 : l.vars.length ≤ 10) (_h2 : vals.length < 30000) (h3 : ∀ y ∈ vals, y.vars.length ≤ 9) (hvl : VL l) (hvs : ∀ y ∈ vals, VL y) :
    ∃ v h', evFn EF (cK K (m0 + 2)) 30000 201 [a, V, .bool true] .no h = some (.ret v, .no, h') ∧ Gx (isLv (repR l vals)) h v h' := by
  obtain ⟨W, rfl, hn, hc, hli, hfz, hr, hia⟩ := ha.ex
  refine evFn_H cf201 (pureF _) ?_
  have n1 : ¬ (h.next = h.next + 1) := by omega
  unfold b201
  obtain ⟨ob, hob⟩ : ∃ ob, ob = (h.objs.put h.next (.box [.int .i64 l.c, W])).put (h.next + 1) (.box [.int .i64 0, .nils]) := ⟨_, rfl⟩
  obtain ⟨nx1, g1, e242⟩ := c242 hK (m0 + 1) l.c ⟨h.next + 1 + 1, h.next, ob⟩
  have g1 : h.next + 1 + 1 ≤ nx1 := g1
  simp only [go_sem, Nat.reduceEqDiff, Nat.reduceAdd, reduceCtorEq, s201_8, n1]
  rw [← hob]
  simp only [go_sem, Nat.reduceEqDiff, Nat.reduceAdd, e242, s201_7]
  refine R_loop (I201 l vals V W nx1 h) l.vars.length (by omega) ⟨_, 0, ⟨l.c, []⟩, .agg [.int .i64 l.c, .nils], Nat.zero_add _, rfl, ⟨?_, ?_, ?_, Lv_nils _, by omega, ?_, (by (repeat' (first | assumption | exact Nat.le_refl _ | apply le_minN)) <;> omega), ?_⟩, rfl, by simp, by simp only [go_sem, Nat.reduceEqDiff], by simp only [go_sem, Nat.reduceEqDiff], by simp only [go_sem, Nat.reduceEqDiff], by simp only [go_sem, Nat.reduceEqDiff], by simp only [go_sem, Nat.reduceEqDiff], by simp only [go_sem, Nat.reduceEqDiff], by simp only [go_sem]; rfl⟩ ?_
  · rw [get_mk, Tr.get_put_other _ _ (by omega), Tr.get_put_other _ _ (by omega), hob, Tr.get_put_other _ _ (by omega), Tr.get_put_same]
  · rw [get_mk, Tr.get_put_other _ _ (by omega), Tr.get_put_other _ _ (by omega), hob, Tr.get_put_same]
  · rw [get_mk, Tr.get_put_same]; rfl
  · show nx1 < nx1 + 1; omega
  · intro k hk
    rw [get_mk, Tr.get_put_other _ _ (by omega), Tr.get_put_other _ _ (by omega), hob, Tr.get_put_other _ _ (by omega), Tr.get_put_other _ _ (by omega)]; rfl
  rintro j fr H ⟨tm, q, out, a, hq, rfl, hJ, hf, hlen, t1, t2, t3, t6, t7, t8, t9⟩
  obtain ⟨g3, g6, g8, lv, lk, lo, low, keep⟩ := hJ
  obtain ⟨nx, l0, ob2⟩ := H
  have g3 : ob2.get h.next = some (.box [.int .i64 l.c, W]) := g3
  have g6 : ob2.get (h.next + 1) = some (.box [.int .i64 0, .nils]) := g6
  have g8 : ob2.get nx1 = some (.box a.cells) := g8
  have lo : nx1 < nx := lo
  have low : h.next ≤ l0 := low
  have la := (hr 0 h).len
  have lav := hV.len
  unfold b201_5
  simp only [go_sem, Nat.reduceEqDiff, t9, t3, g3, la]
  refine sB_dec (fun hlt => ?_) (fun hge => ?_)
  · have hlt : q < l.vars.length := by omega
    obtain ⟨x, hx⟩ : ∃ x, l.vars[q]? = some x := ⟨_, List.getElem?_eq_getElem hlt⟩
    have ia := hia q x hx
    have hxv : encV x = .agg [.int .i64 x.idx, .int .i64 x.plus] := rfl
    rw [hxv] at ia
    have hw2 := wrap_succ q (by omega)
    obtain ⟨r1, r2, r3, r4⟩ := hvl.rng q x hx
    have hw3 : IntKind.wrap .i64 (-1 - x.idx) = -1 - x.idx := wrap_fits _ (by omega) (by omega)
    have m1 : ¬ (h.next = nx) := by omega
    have m2 : ¬ (nx = nx + 1) := by omega
    have m3 : ¬ (nx + 1 = nx) := by omega
    have m4 : ¬ (nx1 = nx) := by omega
    have m5 : ¬ (nx1 = nx + 1) := by omega
    have hfold : (l.vars.take (q + 1)).foldl (repOne vals) (some ⟨l.c, []⟩) = repOne vals (some out) x := by
      rw [take_succ_get hx, List.foldl_append, hf]; rfl
    have fin : ∀ (pa : AV) (p : LL) tm' lo' ob' nx' (z8 : AV), z8 = .ptr nx1 0 0 → Lv pa p → p.vars.length ≤ 9 → repOne vals (some out) x = some (joinR out p) → nx + 2 ≤ nx' → h.next ≤ lo' → ob'.get (nx + 1) = some (.box pa.cells) → (∀ k, k < nx → ob'.get k = ob2.get k) →
        nth tm' 1 = V → nth tm' 2 = .bool true → nth tm' 3 = .ptr h.next 0 0 → nth tm' 6 = .ptr (h.next + 1) 0 0 → nth tm' 7 = .int .i64 0 → nth tm' 8 = .ptr nx1 0 0 → nth tm' 9 = .int .i64 (q : Int) → nth tm' 12 = .ptr (nx + 1) 0 0 →
        sR (cK K (m0 + 2)) 30000 (okV (evLoad z8 ⟨nx', lo', ob'⟩ true 2) ⟨nx', lo', ob'⟩) (some 65) [⟨some 66, .load true 2 (.t 12), none⟩, ⟨some 67, .call (.c (.fn 202 [] [])) [.t 65, .t 66], none⟩, ⟨none, .store 2 (.t 8) (.t 67), none⟩] [.out 1, .code (.region [⟨some 23, .mv (.t 9), none⟩, ⟨some 24, .bin .add .num (.t 23) (.c (.int .i64 1)), none⟩, ⟨some 9, .mv (.t 24), none⟩])] (LQ (cK K (m0 + 2)) 30000 (I201 l vals V W nx1 h) j [.out 0, .code s201_6] (HQ h r201 (Gx (isLv (repR l vals)) h))) tm' ⟨[], .no, none, 201⟩ ⟨nx', lo', ob'⟩ := by
      intro pa p tm' lo' ob' nx' z8 hz8 hp hpl hrep hnx hlo hpo hk u1 u2 u3 u6 u7 u8 u9 u12
      obtain ⟨v, nx2, w1, w2, w3⟩ := c202 hK (m0 + 1) out p a pa ⟨nx', lo', ob'⟩ lv hp (by omega) (by omega)
      have w1 : nx' ≤ nx2 := w1
      obtain ⟨A1, ea, _, _, _, _, _, _⟩ := lv.ex
      obtain ⟨A2, ep, _, _, _, _, _, _⟩ := hp.ex
      obtain ⟨A3, ev, _, ev1, ev2, _, _, _⟩ := w3.ex
      have hpo' : ob'.get nx1 = some (.box [.int .i64 out.c, A1]) := by rw [hk _ lo, g8, ea]; rfl
      have hpo : ob'.get (nx + 1) = some (.box [.int .i64 p.c, A2]) := by rw [hpo, ep]; rfl
      have w2 : cK K (m0 + 2) (.fn 202 [] []) [.agg [.int .i64 out.c, A1], .agg [.int .i64 p.c, A2]] .no ⟨nx', lo', ob'⟩ = some (.ret (.agg [.int .i64 (joinR out p).c, A3]), .no, ⟨nx2, lo', ob'⟩) := by rw [← ea, ← ep, ← ev]; exact w2
      subst hz8
      simp only [go_sem, Nat.reduceEqDiff, Nat.reduceAdd, u8, u12, hpo', hpo, w2, u9, hw2]
      refine ⟨j - 1, by omega, _, q + 1, joinR out p, .agg [.int .i64 (joinR out p).c, A3], by omega, rfl, ⟨?_, ?_, ?_, by rw [← ev]; exact w3, lk, by show nx1 < nx2; omega, (by (repeat' (first | assumption | exact Nat.le_refl _ | apply le_minN)) <;> omega), fun k hk' => ?_⟩, by rw [hfold, hrep], ?_, by simp only [go_sem, Nat.reduceEqDiff, u1], by simp only [go_sem, Nat.reduceEqDiff, u2], by simp only [go_sem, Nat.reduceEqDiff, u3], by simp only [go_sem, Nat.reduceEqDiff, u6], by simp only [go_sem, Nat.reduceEqDiff, u7], by simp only [go_sem, Nat.reduceEqDiff, u8], by simp only [go_sem]⟩
      · rw [get_mk, Tr.get_put_other _ _ (by omega), hk _ (by omega)]; exact g3
      · rw [get_mk, Tr.get_put_other _ _ (by omega), hk _ (by omega)]; exact g6
      · rw [get_mk, Tr.get_put_same]; rfl
      · rw [get_mk, Tr.get_put_other _ _ (by omega), hk _ (by omega)]; exact keep k hk'
      · have := mergeV_len out.vars p.vars
        show (mergeV out.vars p.vars).length ≤ _
        omega
    obtain ⟨ob3, hob3⟩ : ∃ ob3, ob3 = (((ob2.put nx (.box [.int .i64 0, .int .i64 0])).put nx (.box [.int .i64 x.idx, .int .i64 x.plus])).put (nx + 1) (.box [.int .i64 0, .nils])).put (nx + 1) (.box [.int .i64 0, .clip [.agg [.int .i64 x.idx, .int .i64 x.plus]]]) := ⟨_, rfl⟩
    have k3 : ∀ k, k < nx → ob3.get k = ob2.get k := fun k hk => by rw [hob3, Tr.get_put_other _ _ (by omega), Tr.get_put_other _ _ (by omega), Tr.get_put_other _ _ (by omega), Tr.get_put_other _ _ (by omega)]
    have k3x : ob3.get nx = some (.box [.int .i64 x.idx, .int .i64 x.plus]) := by rw [hob3, Tr.get_put_other _ _ (by omega), Tr.get_put_other _ _ (by omega), Tr.get_put_same]
    have k3p : ob3.get (nx + 1) = some (.box [.int .i64 0, .clip [.agg [.int .i64 x.idx, .int .i64 x.plus]]]) := by rw [hob3, Tr.get_put_same]
    have b1 : evBin (.bool true) .eql .boolK (.bool true) = some (.bool true) := rfl
    have b2 : evBin (.bool false) .eql .boolK (.bool true) = some (.bool false) := rfl
    by_cases hneg : x.idx < 0
    · have d1 : decide (x.idx < 0) = true := decide_eq_true hneg
      by_cases hin : -1 - x.idx < (vals.length : Int)
      · have d2 : decide (-1 - x.idx < (vals.length : Int)) = true := decide_eq_true hin
        obtain ⟨i, hi⟩ : ∃ i : Nat, -1 - x.idx = (i : Int) := ⟨(-1 - x.idx).toNat, by omega⟩
        have hil : i < vals.length := by omega
        have hgi : vals[i]? = some vals[i] := List.getElem?_eq_getElem hil
        obtain ⟨p2, a2, hla, hp2⟩ := hV.get i _ hgi
        have hkk : ∀ lo', ∀ k, k < h.next → AH.get ⟨nx + 1 + 1 + 1, lo', ob3.put (nx + 1 + 1) (.box [.int .i64 0, .nils])⟩ k = h.get k := fun lo' k hk => by
          rw [get_mk, Tr.get_put_other _ _ (by omega), k3 k (by omega)]; exact keep k hk
        have hc1 := fun lo' => (hp2 ⟨nx + 1 + 1 + 1, lo', ob3.put (nx + 1 + 1) (.box [.int .i64 0, .nils])⟩ (hkk lo')).1
        have hc2 := fun lo' => (hp2 ⟨nx + 1 + 1 + 1, lo', ob3.put (nx + 1 + 1) (.box [.int .i64 0, .nils])⟩ (hkk lo')).2
        rw [← hi] at hc1
        obtain ⟨v9, nx9, w1, w2, a9, rfl, w3⟩ := c243 hK hv (m0 + 1) vals[i] x.plus a2 ⟨nx + 1 + 1 + 1, minN (nx + 1) (minN nx l0), ob3.put (nx + 1 + 1) (.box [.int .i64 0, .nils])⟩ hla (hvs _ (List.getElem_mem hil)) (by have := h3 _ (List.getElem_mem hil); omega) r3 r4
        have w1 : nx + 1 + 1 + 1 ≤ nx9 := w1
        obtain ⟨A9, e9, _, e9c, e9l, _, _, _⟩ := w3.ex
        have m6 : ¬ (nx = nx + 1 + 1) := by omega
        have m7 : ¬ (nx + 1 = nx + 1 + 1) := by omega
        have m8 : ¬ (nx + 1 + 1 = nx + 1) := by omega
        have m9 : ¬ (h.next + 1 = nx + 1 + 1) := by omega
        rw [e9] at w2
        simp only [go_sem, Nat.reduceEqDiff, Nat.reduceAdd, Nat.reduceMul, Int.reduceNeg, s201_4, t3, g3, t9, ia, s201_3, s201_2, t2, hw3, s201_1, build_p1]
        rw [← hob3]
        simp only [go_sem, Nat.reduceEqDiff, Nat.reduceAdd, Int.reduceNeg, s201_0, k3x, t2, d1, b1, t1, lav, d2, hc1, hc2, m6, w2]
        rcases plusR_err vals[i] x.plus with herr | herr
        · have hz : decide ((plusR vals[i] x.plus).2 = 0) = true := decide_eq_true herr
          simp only [go_sem, Nat.reduceEqDiff, Nat.reduceAdd, Int.reduceNeg, hz, k3p, m7]
          refine fin a9 (plusR vals[i] x.plus).1 _ _ _ _ _ t8 w3 ?_ ?_ (by omega) (by (repeat' (first | assumption | exact Nat.le_refl _ | apply le_minN)) <;> omega) ?_ ?_ (by simp only [go_sem, Nat.reduceEqDiff, Int.reduceNeg, t1]) (by simp only [go_sem, Nat.reduceEqDiff, Int.reduceNeg, t2]) (by simp only [go_sem, Nat.reduceEqDiff, Int.reduceNeg, t3]) (by simp only [go_sem, Nat.reduceEqDiff, Int.reduceNeg, t6]) (by simp only [go_sem, Nat.reduceEqDiff, Int.reduceNeg, t7]) (by simp only [go_sem, Nat.reduceEqDiff, Int.reduceNeg, t8]) (by simp only [go_sem, Nat.reduceEqDiff, Int.reduceNeg, t9]) (by simp only [go_sem, Nat.reduceEqDiff, Int.reduceNeg])
          · have := plusR_len vals[i] x.plus
            have := h3 _ (List.getElem_mem hil)
            omega
          · unfold repOne
            show (if x.idx < 0 ∧ -1 - x.idx < (vals.length : Int) then _ else _) = _
            rw [if_pos ⟨hneg, hin⟩, hi, Int.toNat_natCast, hgi]
            exact if_pos herr
          · rw [Tr.get_put_same, e9]; rfl
          · intro k hk
            rw [Tr.get_put_other _ _ (by omega), Tr.get_put_other _ _ (by omega), Tr.get_put_other _ _ (by omega)]; exact k3 k hk
        · have hz : decide ((plusR vals[i] x.plus).2 = 0) = false := decide_eq_false (by omega)
          have g6' : ob3.get (h.next + 1) = some (.box [.int .i64 0, .nils]) := (k3 _ (by omega)).trans g6
          simp only [go_sem, Nat.reduceEqDiff, Nat.reduceAdd, Int.reduceNeg, hz, t6, m9, g6']
          refine HQ_gx (.inr rfl) (by (repeat' (first | assumption | exact Nat.le_refl _ | apply le_minN)) <;> omega) (by show h.next ≤ nx9; omega) (by simp only [go_sem, Nat.reduceEqDiff, Nat.reduceAdd, Int.reduceNeg, r201, t6]; rfl) ⟨.agg [.int .i64 0, .nils], ?_, ?_⟩
          all_goals have hrn : repS l vals = none := (by
            unfold repS
            rw [← List.take_append_drop (q + 1) l.vars, List.foldl_append, hfold]
            have : repOne vals (some out) x = none := (by
              unfold repOne
              show (if x.idx < 0 ∧ -1 - x.idx < (vals.length : Int) then _ else _) = _
              rw [if_pos ⟨hneg, hin⟩, hi, Int.toNat_natCast, hgi]
              exact if_neg (by omega))
            rw [this]; exact rep_none vals _)
          · rw [one_2, frz_tupS, show repR l vals = (⟨0, []⟩, 15) by unfold repR; rw [hrn]]
            simp only [List.map_cons, List.map_nil, frz_aggS, frz_int, frz_nils, herr]
          · rw [show (repR l vals).1 = ⟨0, []⟩ by unfold repR; rw [hrn]]
            exact Lv_nils 0
      · have d2 : decide (-1 - x.idx < (vals.length : Int)) = false := decide_eq_false hin
        simp only [go_sem, Nat.reduceEqDiff, Nat.reduceAdd, Nat.reduceMul, Int.reduceNeg, s201_4, t3, g3, t9, ia, s201_3, s201_2, t2, hw3, s201_1, build_p1]
        rw [← hob3]
        simp only [go_sem, Nat.reduceEqDiff, Int.reduceNeg, s201_0, k3x, t2, d1, b1, t1, lav, d2]
        exact fin (.agg [.int .i64 0, .clip [.agg [.int .i64 x.idx, .int .i64 x.plus]]]) ⟨0, [x]⟩ _ _ _ _ _ t8 (Lv_clip1 0 x) (by simp) (by unfold repOne; exact if_neg (fun e => hin e.2)) (by omega) (by (repeat' (first | assumption | exact Nat.le_refl _ | apply le_minN)) <;> omega) k3p k3 (by simp only [go_sem, Nat.reduceEqDiff, Int.reduceNeg, t1]) (by simp only [go_sem, Nat.reduceEqDiff, Int.reduceNeg, t2]) (by simp only [go_sem, Nat.reduceEqDiff, Int.reduceNeg, t3]) (by simp only [go_sem, Nat.reduceEqDiff, Int.reduceNeg, t6]) (by simp only [go_sem, Nat.reduceEqDiff, Int.reduceNeg, t7]) (by simp only [go_sem, Nat.reduceEqDiff, Int.reduceNeg, t8]) (by simp only [go_sem, Nat.reduceEqDiff, Int.reduceNeg, t9]) (by simp only [go_sem, Nat.reduceEqDiff, Int.reduceNeg])
    · have d1 : decide (x.idx < 0) = false := decide_eq_false hneg
      simp only [go_sem, Nat.reduceEqDiff, Nat.reduceAdd, Nat.reduceMul, Int.reduceNeg, s201_4, t3, g3, t9, ia, s201_3, s201_2, t2, hw3, s201_1, build_p1]
      rw [← hob3]
      simp only [go_sem, Nat.reduceEqDiff, Int.reduceNeg, s201_0, k3x, t2, d1, b2]
      exact fin (.agg [.int .i64 0, .clip [.agg [.int .i64 x.idx, .int .i64 x.plus]]]) ⟨0, [x]⟩ _ _ _ _ _ t8 (Lv_clip1 0 x) (by simp) (by unfold repOne; exact if_neg (fun e => hneg e.1)) (by omega) (by (repeat' (first | assumption | exact Nat.le_refl _ | apply le_minN)) <;> omega) k3p k3 (by simp only [go_sem, Nat.reduceEqDiff, Int.reduceNeg, t1]) (by simp only [go_sem, Nat.reduceEqDiff, Int.reduceNeg, t2]) (by simp only [go_sem, Nat.reduceEqDiff, Int.reduceNeg, t3]) (by simp only [go_sem, Nat.reduceEqDiff, Int.reduceNeg, t6]) (by simp only [go_sem, Nat.reduceEqDiff, Int.reduceNeg, t7]) (by simp only [go_sem, Nat.reduceEqDiff, Int.reduceNeg, t8]) (by simp only [go_sem, Nat.reduceEqDiff, Int.reduceNeg, t9]) (by simp only [go_sem, Nat.reduceEqDiff, Int.reduceNeg])
  · have hme : q = l.vars.length := by omega
    subst hme
    rw [List.take_length] at hf
    obtain ⟨A1, ea, _, ea1, ea2, ea3, _, _⟩ := lv.ex
    have g8 : ob2.get nx1 = some (.box [.int .i64 out.c, A1]) := by rw [g8, ea]; rfl
    simp only [go_sem, Nat.reduceEqDiff, Nat.reduceAdd, s201_6, t8, g8, t6, g6]
    refine HQ_gx (.inr rfl) (by (repeat' (first | assumption | exact Nat.le_refl _ | apply le_minN)) <;> omega) (by show h.next ≤ nx; omega) (by simp only [go_sem, Nat.reduceEqDiff, Nat.reduceAdd, r201, t6]; rfl) ?_
    have er : repR l vals = (out, 0) := by unfold repR repS; rw [hf]
    rw [one_2, frz_tupS, er]
    simp only [List.map_cons, List.map_nil, frz_aggS, frz_int, ea3]
    exact ⟨_, rfl, by rw [← ea]; exact lv⟩
theorem c142 {K : CallF} (hK : Runs K) (hv : KV K) (m : Nat) (a : AV) (l : LL) (V : AV) (vals : List LL) (h : AH) (ha : Lv a l) (hV : RdL h.next h V vals) (h1 : l.vars.length ≤ 10) (h2 : vals.length < 30000) (h3 : ∀ y ∈ vals, y.vars.length ≤ 9) (hvl : VL l) (hvs : ∀ y ∈ vals, VL y) :
    ∃ v nx, h.next ≤ nx ∧ cK K (m + 4) (.fn 142 [] []) [a, V] .no h = some (.ret v, .no, ⟨nx, h.low, h.objs⟩) ∧ isLv (repR l vals) v := by
  rw [cK_run hK _ 142]
  have key : ∃ v h', evFn EF (cK K (m + 3)) 30000 142 [a, V] .no h = some (.ret v, .no, h') ∧ Gx (isLv (repR l vals)) h v h' := by
    have e21 := fun h => cK_known (hv.r21 a l h ha (by omega)) (m + 3)
    rw [vl_t hvl] at e21
    have ha' := ha
    obtain ⟨W, rfl, hn, hc, hli, hfz, hr, hia⟩ := ha.ex
    refine evFn_H cf142 (pureF _) ?_
    have n1 : ¬ (h.next = h.next + 1) := by omega
    have n2 : ¬ (h.next + 1 = h.next) := by omega
    unfold b142
    simp only [go_sem, Nat.reduceEqDiff, Nat.reduceAdd, reduceCtorEq, s142_1, n1, e21]
    obtain ⟨ob, hob⟩ : ∃ ob, ob = (h.objs.put h.next (.box [.int .i64 l.c, W])).put (h.next + 1) (.box [.int .i64 0, .nils]) := ⟨_, rfl⟩
    rw [← hob]
    have G1 : ob.get h.next = some (.box [.int .i64 l.c, W]) := by simp only [hob, go_sem, n1]
    have G2 : ob.get (h.next + 1) = some (.box [.int .i64 0, .nils]) := by simp only [hob, go_sem]
    have G3 : ∀ k, k < h.next → ob.get k = h.objs.get k := fun k hk => by rw [hob, Tr.get_put_other _ _ (by omega), Tr.get_put_other _ _ (by omega)]
    obtain ⟨nx1, g1, e200⟩ := c200 hK hv (m + 2) V vals ⟨h.next + 1 + 1, h.next, ob⟩ (hV.mono (by show h.next ≤ h.next + 1 + 1; omega) G3) h2 (fun x hx => ⟨hvs x hx, by have := h3 x hx; omega⟩)
    have g1 : h.next + 1 + 1 ≤ nx1 := g1
    obtain ⟨v, h', e201, g⟩ := call201 hK hv m (.agg [.int .i64 l.c, W]) l V vals ⟨nx1, h.next, ob⟩ ha' (hV.mono (by show h.next ≤ nx1; omega) G3) h1 h2 h3 hvl hvs
    obtain ⟨nx2, g2, rfl⟩ := Gx_eq g
    have g2 : nx1 ≤ nx2 := g2
    obtain ⟨⟨a2, rfl, hla⟩, _⟩ := g
    obtain ⟨A2, ea, _, ea1, ea2, ea3, _, _⟩ := hla.ex
    have e201 : cK K (m + 3) (.fn 201 [] []) [.agg [.int .i64 l.c, W], V, .bool true] .no ⟨nx1, h.next, ob⟩ = some (.ret (.tup [.agg [.int .i64 (repR l vals).1.c, A2], .int .i64 (repR l vals).2]), .no, ⟨nx2, h.next, ob⟩) := by
      rw [cK_run hK _ 201, ← ea]; exact e201
    simp only [go_sem, Nat.reduceEqDiff, Nat.reduceAdd, e200, s142_0, G1, e201, G2]
    refine HQ_gx (.inr rfl) (by (repeat' (first | assumption | exact Nat.le_refl _ | apply le_minN)) <;> omega) (by show h.next ≤ nx2; omega) (by simp only [go_sem, Nat.reduceEqDiff, Nat.reduceAdd, r142]; rfl) ?_
    rw [one_2, frz_tupS]
    simp only [List.map_cons, List.map_nil, frz_aggS, frz_int, ea3]
    exact ⟨_, rfl, by rw [← ea]; exact hla⟩
  obtain ⟨v, h', e, g⟩ := key
  obtain ⟨nx, g1, rfl⟩ := Gx_eq g
  exact ⟨v, nx, g1, e, g.1⟩
end Go.Proofs.YtnacljdablhbgaaGreat
