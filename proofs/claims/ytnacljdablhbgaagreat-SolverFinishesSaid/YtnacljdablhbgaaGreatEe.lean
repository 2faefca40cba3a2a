/- SolverFinishes: Same of levels; whether a store is good (no condition). -/
import Derived.Test.YtnacljdablhbgaaGreatEd
namespace Go.Proofs.YtnacljdablhbgaaGreat
open Go.AG
attribute [local go_sem] RD_max RD_lookup birth_lookup build_1i build_2i build_p1 load_vptrB
theorem iaddr_at {es : List AV} {i sz : Nat} {a : AV} (e : es[i]? = some a) (hc : a.cells.length = sz) (h : AH) : evIaddr (.lst es) h sz (.int .i64 (i : Int)) = .val (.vptr a) h := by
  show okV (bindO (some i) fun n => bindO (nthL n es) fun v => cond (Nat.beq (len v.cells) sz) (some (.vptr v)) none) h = _
  rw [bindO_some, nthL_eq, e, bindO_some, len_eq, hc, beq_t]; rfl
structure K58 (K : CallF) : Prop where
  r58 : ∀ a b x h, Lv a x → Lv b x → x.vars.length < 9000 → K (.fn 58 [] []) [a, b] .no h = some (.ret (.bool true), .no, h)
def I17 (vals : List LL) (a b : AV) (h0 : AH) (j : Nat) (fr : AF) (h : AH) : Prop := ∃ tm m, m + j = vals.length ∧ fr = ⟨tm, ⟨[], .no, none, 17⟩⟩ ∧ h = ⟨h0.next, h0.next, h0.objs⟩ ∧ nth tm 0 = a ∧ nth tm 1 = b ∧ nth tm 5 = .int .i64 (m : Int)
theorem c17 {K : CallF} (hK : Runs K) (h5 : K58 K) (m0 : Nat) (vals : List LL) (a b : AV) (h : AH) (ha : isLs vals a) (hb : isLs vals b) (hl : vals.length ≤ 1000) (hx : ∀ x ∈ vals, x.vars.length < 9000) :
    ∃ nx, h.next ≤ nx ∧ cK K (m0 + 1) (.fn 17 [] []) [a, b] .no h = some (.ret (.bool true), .no, ⟨nx, h.low, h.objs⟩) := by
  rw [cK_run hK _ 17]
  have key : ∃ v h', evFn EF (cK K m0) 30000 17 [a, b] .no h = some (.ret v, .no, h') ∧ Gx (fun v => v = .bool true) h v h' := by
    obtain ⟨es, rfl, el, ee⟩ := ha
    obtain ⟨fs, rfl, fl, fe⟩ := hb
    refine evFn_H cf17 (pureF _) ?_
    unfold b17
    have hl1 : ∀ H, lenOf (.lst es) H 1 = some vals.length := fun H => by rw [len_lst, el]
    have hl2 : ∀ H, lenOf (.lst fs) H 1 = some vals.length := fun H => by rw [len_lst, fl]
    simp only [go_sem, Nat.reduceEqDiff, reduceCtorEq, s17_4, hl1, hl2, s17_3]
    refine R_loop (I17 vals (.lst es) (.lst fs) h) vals.length (by omega) ⟨_, 0, Nat.zero_add _, rfl, rfl, by simp only [go_sem, reduceCtorEq], by simp only [go_sem, Nat.reduceEqDiff], by simp only [go_sem]; rfl⟩ ?_
    rintro j fr H ⟨tm, m, hm, rfl, rfl, t0, t1, t5⟩
    unfold b17_1
    simp only [go_sem, Nat.reduceEqDiff, reduceCtorEq, t0, t5, hl1]
    refine sB_dec (fun hlt => ?_) (fun hge => ?_)
    · have hlt : m < vals.length := by omega
      obtain ⟨x, hx'⟩ : ∃ x, vals[m]? = some x := ⟨_, List.getElem?_eq_getElem hlt⟩
      obtain ⟨y, hy⟩ : ∃ y, es[m]? = some y := ⟨_, List.getElem?_eq_getElem (by omega)⟩
      obtain ⟨z, hz⟩ : ∃ z, fs[m]? = some z := ⟨_, List.getElem?_eq_getElem (by omega)⟩
      have ly := ee m y x hy hx'
      have lz := fe m z x hz hx'
      have hcy : y.cells.length = 2 := by obtain ⟨V, rfl, _⟩ := ly.ex; rfl
      have hcz : z.cells.length = 2 := by obtain ⟨V, rfl, _⟩ := lz.ex; rfl
      have hay : y.isAgg = true := by obtain ⟨V, rfl, _⟩ := ly.ex; rfl
      have haz : z.isAgg = true := by obtain ⟨V, rfl, _⟩ := lz.ex; rfl
      have ia := fun H => iaddr_at hy hcy H
      have ib := fun H => iaddr_at hz hcz H
      have la : ∀ H, evLoad (.vptr y) H true 2 = some y := fun H => load_vptr true 2 hay hcy
      have lb : ∀ H, evLoad (.vptr z) H true 2 = some z := fun H => load_vptr true 2 haz hcz
      have e1 := fun h => cK_known (h5.r58 y z x h ly lz (hx x (List.mem_of_getElem? hx'))) m0
      have bq1 := ly.bq
      have bq2 := lz.bq
      have hw2 := wrap_succ m (by omega)
      simp only [go_sem, Nat.reduceEqDiff, reduceCtorEq, s17_0, t0, t1, t5, ia, ib, la, lb, e1, hw2]
      exact ⟨j - 1, by omega, _, m + 1, by omega, rfl, rfl, by simp only [go_sem, reduceCtorEq, t0], by simp only [go_sem, Nat.reduceEqDiff, t1], by simp only [go_sem]⟩
    · simp only [go_sem, s17_2]
      exact HQ_gx (.inr rfl) (Nat.le_refl _) (Nat.le_refl _) (by simp only [go_sem, r17]; rfl) (by rw [one_1, frz_bool])
  obtain ⟨v, h', e, g⟩ := key
  obtain ⟨nx, h1, rfl⟩ := Gx_eq g
  obtain ⟨rfl, _⟩ := g
  exact ⟨nx, h1, e⟩
theorem c17n {K : CallF} (hK : Runs K) (m0 : Nat) (h : AH) :
    ∃ nx, h.next ≤ nx ∧ cK K (m0 + 1) (.fn 17 [] []) [.nils, .nils] .no h = some (.ret (.bool true), .no, ⟨nx, h.low, h.objs⟩) := by
  rw [cK_run hK _ 17]
  have key : ∃ v h', evFn EF (cK K m0) 30000 17 [.nils, .nils] .no h = some (.ret v, .no, h') ∧ Gx (fun v => v = .bool true) h v h' := by
    refine evFn_H cf17 (pureF _) ?_
    unfold b17
    have z0 : decide (((0 : Nat) : Int) < ((0 : Nat) : Int)) = false := by decide
    simp only [go_sem, Nat.reduceEqDiff, reduceCtorEq, s17_4, s17_3]
    refine R_loop (I17 [] .nils .nils h) 0 (by omega) ⟨_, 0, Nat.zero_add _, rfl, rfl, by simp only [go_sem, reduceCtorEq], by simp only [go_sem, Nat.reduceEqDiff], by simp only [go_sem]; rfl⟩ ?_
    rintro j fr H ⟨tm, m, hm, rfl, rfl, t0, t1, t5⟩
    have hm0 : m = 0 := by simp at hm; omega
    subst hm0
    unfold b17_1
    simp only [go_sem, Nat.reduceEqDiff, reduceCtorEq, t0, t5, z0, s17_2]
    exact HQ_gx (.inr rfl) (Nat.le_refl _) (Nat.le_refl _) (by simp only [go_sem, r17]; rfl) (by rw [one_1, frz_bool])
  obtain ⟨v, h', e, g⟩ := key
  obtain ⟨nx, h1, rfl⟩ := Gx_eq g
  obtain ⟨rfl, _⟩ := g
  exact ⟨nx, h1, e⟩
structure GoodS (s : SV) (n : Nat) : Prop where
  hn : s.n = (n : Int)
  n20 : n ≤ 20
  ms : s.ms.length ≤ 8
  qs : s.qs.length ≤ 5
  bs : s.bs.length ≤ 8
  ok : ∀ b ∈ s.bs, Okb n b ∧ b.1.vars.length ≤ 8 ∧ b.2.vars.length ≤ 8
def isG (s : SV) (v : AV) : Prop := ∃ b, v = .bool b ∧ (b = true → ∃ n, GoodS s n)
theorem isG_f (s : SV) : isG s (.bool false) := ⟨false, rfl, fun h => by cases h⟩
def bx (s : SV) : AObj := .box [.lst (s.ms.map encM), .lst (s.qs.map encQ), .lst (s.bs.map encBd), .int .i64 s.n]
structure J12 (s : SV) (h0 h : AH) : Prop where
  g : h.get h0.next = some (bx s)
  next : h0.next < h.next
  low : h0.next ≤ h.low
theorem J12.fin {s : SV} {h0 h : AH} (J : J12 s h0 h) (tm : Tm) (v : AV) (hv : isG s v) (hf : ∀ m H b, frz m H b v = v) (hr : nth tm 2 = v) : HQ h0 r12 (Gx (isG s) h0) .ret ⟨tm, ⟨[], .no, none, 12⟩⟩ h :=
  HQ_gx (.inr rfl) J.low (by have := J.next; omega) (by simp only [go_sem, r12]; rfl) (by rw [one_1, hr, hf]; exact hv)
theorem t12_8 {K : CallF} (hK : Runs K) (hv : KV K) (m0 : Nat) (s : SV) (n : Nat) (hsn : s.n = (n : Int)) (h1 : n ≤ 20) (h2 : s.ms.length ≤ 8) (h3 : s.qs.length ≤ 5) (h4 : s.bs.length ≤ 8) (h5 : ∀ b ∈ s.bs, b.1.vars.length ≤ 8 ∧ b.2.vars.length ≤ 8)
    (h0 H : AH) (J : J12 s h0 H) (tm : Tm) (t1 : nth tm 1 = .ptr h0.next 0 0) : R (cK K (m0 + 1)) 30000 [.code s12_8] (HQ h0 r12 (Gx (isG s) h0)) .normal ⟨tm, ⟨[], .no, none, 12⟩⟩ H := by
  obtain ⟨v, nx1, w1, w2, i, e, rfl, w3, _⟩ := c50 hK hv m0 n s.bs H (by omega) (by omega) (fun b hb => by have := h5 b hb; omega)
  rw [← hsn] at w2
  obtain ⟨nx, lo, ob⟩ := H
  have g1 : ob.get h0.next = some (.box [.lst (s.ms.map encM), .lst (s.qs.map encQ), .lst (s.bs.map encBd), .int .i64 s.n]) := J.g
  have w1 : nx ≤ nx1 := w1
  simp only [go_sem, Nat.reduceEqDiff, s12_8, t1, g1, w2, s12_7]
  have J2 : J12 s h0 ⟨nx1, lo, ob⟩ := ⟨J.g, Nat.lt_of_lt_of_le J.next w1, J.low⟩
  refine J2.fin _ (.bool (decide (e = 0))) ⟨_, rfl, fun hd => ?_⟩ (fun m H b => frz_bool m b _) (by simp only [go_sem])
  have := w3 (of_decide_eq_true hd)
  exact ⟨n, hsn, h1, h2, h3, h4, fun b hb => ⟨this b hb, h5 b hb⟩⟩
def I12c (s : SV) (h0 : AH) (j : Nat) (fr : AF) (h : AH) : Prop := ∃ tm m, m + j = s.bs.length ∧ fr = ⟨tm, ⟨[], .no, none, 12⟩⟩ ∧ J12 s h0 h ∧ nth tm 1 = .ptr h0.next 0 0 ∧ nth tm 6 = .int .i64 (m : Int) ∧ ∀ b ∈ s.bs.take m, b.1.vars.length ≤ 8 ∧ b.2.vars.length ≤ 8
theorem faddr_B0 (b : LL × LL) (h : AH) : evFaddr (.vptr (encBd b)) h 0 2 true = .val (.vptr (.agg [.int .i64 b.1.c, .lst (b.1.vars.map encV)])) h := (rfl)
theorem faddr_B2 (b : LL × LL) (h : AH) : evFaddr (.vptr (encBd b)) h 2 2 true = .val (.vptr (.agg [.int .i64 b.2.c, .lst (b.2.vars.map encV)])) h := (rfl)
theorem t12_9 {K : CallF} (hK : Runs K) (hv : KV K) (m0 : Nat) (s : SV) (n : Nat) (hsn : s.n = (n : Int)) (h1 : n ≤ 20) (h2 : s.ms.length ≤ 8) (h3 : s.qs.length ≤ 5) (h4 : s.bs.length ≤ 8)
    (h0 H : AH) (J : J12 s h0 H) (tm : Tm) (t1 : nth tm 1 = .ptr h0.next 0 0) : R (cK K (m0 + 1)) 30000 [.code s12_9] (HQ h0 r12 (Gx (isG s) h0)) .normal ⟨tm, ⟨[], .no, none, 12⟩⟩ H := by
  have hlen : ∀ H, lenOf (.lst (s.bs.map encBd)) H 1 = some s.bs.length := fun H => by rw [len_lst, List.length_map]
  simp only [go_sem, s12_9]
  refine R_loop (I12c s h0) s.bs.length (by omega) ⟨_, 0, Nat.zero_add _, rfl, J, by simp only [go_sem, Nat.reduceEqDiff, t1], by simp only [go_sem]; rfl, by simp⟩ ?_
  clear J t1
  rintro j fr H ⟨tm, m, hm, rfl, J, t1, t6, hA⟩
  obtain ⟨nx, lo, ob⟩ := H
  have g1 : ob.get h0.next = some (.box [.lst (s.ms.map encM), .lst (s.qs.map encQ), .lst (s.bs.map encBd), .int .i64 s.n]) := J.g
  unfold b12_6
  simp only [go_sem, Nat.reduceEqDiff, t1, t6, g1, hlen]
  refine sB_dec (fun hlt => ?_) (fun hge => ?_)
  · have hlt : m < s.bs.length := by omega
    obtain ⟨b, hbq⟩ : ∃ b, s.bs[m]? = some b := ⟨_, List.getElem?_eq_getElem hlt⟩
    have ia := fun H => iaddr_map encBd_cells hbq .i64 H
    have hw2 := wrap_succ m (by omega)
    by_cases l1 : (8 : Int) < (b.1.vars.length : Int)
    · have d1 := decide_eq_true l1
      simp only [go_sem, Nat.reduceEqDiff, s12_5, t1, t6, g1, ia, faddr_B0, d1]
      exact J.fin _ _ (isG_f s) (fun m H b => frz_bool m b _) (by simp only [go_sem])
    · have d1 := decide_eq_false l1
      by_cases l2 : (8 : Int) < (b.2.vars.length : Int)
      · have d2 := decide_eq_true l2
        simp only [go_sem, Nat.reduceEqDiff, s12_5, t1, t6, g1, ia, faddr_B0, faddr_B2, d1, d2]
        exact J.fin _ _ (isG_f s) (fun m H b => frz_bool m b _) (by simp only [go_sem])
      · have d2 := decide_eq_false l2
        simp only [go_sem, Nat.reduceEqDiff, s12_5, t1, t6, g1, ia, faddr_B0, faddr_B2, d1, d2, hw2]
        exact ⟨j - 1, by omega, _, m + 1, by omega, rfl, J, by simp only [go_sem, Nat.reduceEqDiff, t1], by simp only [go_sem], take_mem hbq hA ⟨by omega, by omega⟩⟩
  · have hme : m = s.bs.length := by omega
    subst hme
    rw [List.take_length] at hA
    simp only [go_sem]
    exact t12_8 hK hv m0 s n hsn h1 h2 h3 h4 hA h0 _ J _ (by simp only [go_sem, Nat.reduceEqDiff, t1])
attribute [local go_sem] RD_max RD_lookup birth_lookup build_1i build_2i build_p1 load_vptrB
structure FitM (m : MV) : Prop where
  ty : Fit m.ty
  val : Fit m.val
structure FitQ (q : QV) : Prop where
  len : q.ctx.length < 1125899906842624
  ctx : ∀ t ∈ q.ctx, Fit t
  lt : Fit q.lt
  rt : Fit q.rt
structure FitS (s : SV) : Prop where
  lm : s.ms.length < 1125899906842624
  ms : ∀ m ∈ s.ms, FitM m
  lq : s.qs.length < 1125899906842624
  qs : ∀ q ∈ s.qs, FitQ q
  lb : s.bs.length < 1125899906842624
  bs : ∀ b ∈ s.bs, b.1.vars.length < 1125899906842624 ∧ b.2.vars.length < 1125899906842624
structure KG (K : CallF) : Prop where
  r48 : ∀ (ms : List MV), ms.length < 1125899906842624 → (∀ m ∈ ms, FitM m) → ∃ b : Bool, (b = true → ms.length ≤ 8) ∧ ∀ h, K (.fn 48 [] []) [.lst (ms.map encM)] .no h = some (.ret (.bool b), .no, h)
  r20 : ∀ t (n : Int), Fit t → ∃ b : Bool, ∀ a h, AV.norms a = [enc t, .int .i64 n] → K (.fn 20 [] []) a .no h = some (.ret (.bool b), .no, h)
  r18 : ∀ (ms : List MV) (ctx ts : List T), ms.length < 1125899906842624 → ctx.length < 1125899906842624 → (∀ t ∈ ctx, Fit t) → ts.length < 1125899906842624 → (∀ t ∈ ts, Fit t) → ∃ b : Bool, ∀ a h, AV.norms a = [.lst (ms.map encM), .lst (ctx.map enc), .lst (ts.map enc)] → K (.fn 18 [] []) a .no h = some (.ret (.bool b), .no, h)
  r49 : ∀ (n : Int) (ctx : List T), ctx.length < 1125899906842624 → (∀ t ∈ ctx, Fit t) → ∃ b : Bool, ∀ h, K (.fn 49 [] []) [.int .i64 n, .lst (ctx.map enc)] .no h = some (.ret (.bool b), .no, h)
theorem encM_norm (m : MV) : (encM m).norm = encM m := by simp [encM, AV.norm, AV.norms, encL_norms, encT_norms]
theorem encM_norms (l : List MV) : AV.norms (l.map encM) = l.map encM := by
  induction l with
  | nil => rfl
  | cons x l ih => rw [List.map_cons, AV.norms, ih, encM_norm]
theorem faddr_M0 (m : MV) (h : AH) : evFaddr (.vptr (encM m)) h 0 5 true = .val (.vptr (enc m.ty)) h := by rw [enc_parts]; rfl
theorem faddr_M6 (m : MV) (h : AH) : evFaddr (.vptr (encM m)) h 6 5 true = .val (.vptr (enc m.val)) h := by rw [enc_parts]; rfl
theorem lit_agg55 (h : AH) (a b c d e a' b' c' d' e' z1 z2 z3 z4 z5 : AV) : evLit true true 5 [z1, z2, z3, z4, z5] 2 [(0, 5, .agg [a, b, c, d, e]), (5, 5, .agg [a', b', c', d', e'])] h = .val (.clip [.agg [a, b, c, d, e], .agg [a', b', c', d', e']]) h := (rfl)
theorem litParts_2 (i j : Nat) (x y : AX) (tm : Tm) (sz : Nat) : evLitParts [(i, x), (j, y)] tm sz = [(i * sz, sz, ev x tm), (j * sz, sz, ev y tm)] := (rfl)
attribute [local go_sem] lit_agg55 litParts_2
theorem J12.new {s : SV} {h0 : AH} {nx lo : Nat} {ob : Tr AObj} (J : J12 s h0 ⟨nx, lo, ob⟩) (x y : AObj) : J12 s h0 ⟨nx + 1, minN nx lo, (ob.put nx x).put nx y⟩ := by
  have h1 : h0.next < nx := J.next
  have h2 : h0.next ≤ lo := J.low
  exact ⟨by rw [get_mk, Tr.get_put_other _ _ (by omega), Tr.get_put_other _ _ (by omega)]; exact J.g, by show h0.next < nx + 1; omega, le_minN (by omega) h2⟩
def I12b (s : SV) (h0 : AH) (j : Nat) (fr : AF) (h : AH) : Prop := ∃ tm m, m + j = s.qs.length ∧ fr = ⟨tm, ⟨[], .no, none, 12⟩⟩ ∧ J12 s h0 h ∧ nth tm 1 = .ptr h0.next 0 0 ∧ nth tm 4 = .int .i64 (m : Int)
theorem t12_10 {K : CallF} (hK : Runs K) (hv : KV K) (hg : KG K) (m0 : Nat) (s : SV) (fs : FitS s) (n : Nat) (hsn : s.n = (n : Int)) (h1 : n ≤ 20) (h2 : s.ms.length ≤ 8) (h3 : s.qs.length ≤ 5) (h4 : s.bs.length ≤ 8)
    (h0 H : AH) (J : J12 s h0 H) (tm : Tm) (t1 : nth tm 1 = .ptr h0.next 0 0) : R (cK K (m0 + 1)) 30000 [.code s12_10] (HQ h0 r12 (Gx (isG s) h0)) .normal ⟨tm, ⟨[], .no, none, 12⟩⟩ H := by
  have hlen : ∀ H, lenOf (.lst (s.qs.map encQ)) H 1 = some s.qs.length := fun H => by rw [len_lst, List.length_map]
  simp only [go_sem, s12_10]
  refine R_loop (I12b s h0) s.qs.length (by omega) ⟨_, 0, Nat.zero_add _, rfl, J, by simp only [go_sem, Nat.reduceEqDiff, t1], by simp only [go_sem]; rfl⟩ ?_
  clear J t1
  rintro j fr H ⟨tm, m, hm, rfl, J, t1, t4⟩
  obtain ⟨nx, lo, ob⟩ := H
  have g1 : ob.get h0.next = some (.box [.lst (s.ms.map encM), .lst (s.qs.map encQ), .lst (s.bs.map encBd), .int .i64 s.n]) := J.g
  unfold b12_4
  simp only [go_sem, Nat.reduceEqDiff, t1, t4, g1, hlen]
  refine sB_dec (fun hlt => ?_) (fun hge => ?_)
  · have hlt : m < s.qs.length := by omega
    obtain ⟨q, hq⟩ : ∃ q, s.qs[m]? = some q := ⟨_, List.getElem?_eq_getElem hlt⟩
    obtain ⟨f1, f2, f3, f4⟩ := fs.qs q (List.mem_of_getElem? hq)
    have ia := fun H => iaddr_map encQ_cells hq .i64 H
    have eq : encQ q = .agg [.lst (q.ctx.map enc), .int .i64 q.lt.kind, .int .i64 q.lt.idx, .str q.lt.name, .lst (q.lt.levels.map encL), .lst (q.lt.kids.map enc), .int .i64 q.rt.kind, .int .i64 q.rt.idx, .str q.rt.name, .lst (q.rt.levels.map encL), .lst (q.rt.kids.map enc), .bool q.sub] := rfl
    rw [eq] at ia
    have hw2 := wrap_succ m (by omega)
    have JJ := J.new (.box [.nils, .int .i64 0, .int .i64 0, .str (bs []), .nils, .nils, .int .i64 0, .int .i64 0, .str (bs []), .nils, .nils, .bool false]) (.box [.lst (q.ctx.map enc), .int .i64 q.lt.kind, .int .i64 q.lt.idx, .str q.lt.name, .lst (q.lt.levels.map encL), .lst (q.lt.kids.map enc), .int .i64 q.rt.kind, .int .i64 q.rt.idx, .str q.rt.name, .lst (q.rt.levels.map encL), .lst (q.rt.kids.map enc), .bool q.sub])
    obtain ⟨ob2, hob2⟩ : ∃ ob2, ob2 = (ob.put nx (.box [.nils, .int .i64 0, .int .i64 0, .str (bs []), .nils, .nils, .int .i64 0, .int .i64 0, .str (bs []), .nils, .nils, .bool false])).put nx (.box [.lst (q.ctx.map enc), .int .i64 q.lt.kind, .int .i64 q.lt.idx, .str q.lt.name, .lst (q.lt.levels.map encL), .lst (q.lt.kids.map enc), .int .i64 q.rt.kind, .int .i64 q.rt.idx, .str q.rt.name, .lst (q.rt.levels.map encL), .lst (q.rt.kids.map enc), .bool q.sub]) := ⟨_, rfl⟩
    have g5 : ob2.get nx = some (.box [.lst (q.ctx.map enc), .int .i64 q.lt.kind, .int .i64 q.lt.idx, .str q.lt.name, .lst (q.lt.levels.map encL), .lst (q.lt.kids.map enc), .int .i64 q.rt.kind, .int .i64 q.rt.idx, .str q.rt.name, .lst (q.rt.levels.map encL), .lst (q.rt.kids.map enc), .bool q.sub]) := by rw [hob2, Tr.get_put_same]
    rw [← hob2] at JJ
    have g1' : ob2.get h0.next = some (.box [.lst (s.ms.map encM), .lst (s.qs.map encQ), .lst (s.bs.map encBd), .int .i64 s.n]) := JJ.g
    obtain ⟨b1, u1⟩ := hg.r18 s.ms q.ctx [q.lt, q.rt] fs.lm f1 f2 (by simp) (fun t ht => by simp at ht; rcases ht with rfl | rfl; exact f3; exact f4)
    obtain ⟨b2, u2⟩ := hg.r20 q.lt s.n f3
    obtain ⟨b3, u3⟩ := hg.r20 q.rt s.n f4
    obtain ⟨b4, u4⟩ := hg.r49 s.n q.ctx f1 f2
    have e1 := fun h => cK_known (u1 [.lst (s.ms.map encM), .lst (q.ctx.map enc), .clip [(.agg [.int .i64 q.lt.kind, .int .i64 q.lt.idx, .str q.lt.name, .lst (q.lt.levels.map encL), .lst (q.lt.kids.map enc)]), (.agg [.int .i64 q.rt.kind, .int .i64 q.rt.idx, .str q.rt.name, .lst (q.rt.levels.map encL), .lst (q.rt.kids.map enc)])]] h (by rw [← enc_parts, ← enc_parts]; simp [AV.norms, AV.norm, encM_norms, encT_norms, enc_norm])) (m0 + 1)
    have e2 := fun h => cK_known (u2 [(.agg [.int .i64 q.lt.kind, .int .i64 q.lt.idx, .str q.lt.name, .lst (q.lt.levels.map encL), .lst (q.lt.kids.map enc)]), .int .i64 s.n] h (by rw [← enc_parts]; simp [AV.norms, AV.norm, enc_norm])) (m0 + 1)
    have e3 := fun h => cK_known (u3 [(.agg [.int .i64 q.rt.kind, .int .i64 q.rt.idx, .str q.rt.name, .lst (q.rt.levels.map encL), .lst (q.rt.kids.map enc)]), .int .i64 s.n] h (by rw [← enc_parts]; simp [AV.norms, AV.norm, enc_norm])) (m0 + 1)
    have e4 := fun h => cK_known (u4 h) (m0 + 1)
    simp only [go_sem, Nat.reduceEqDiff, Nat.reduceAdd, s12_3, t1, t4, g1, ia]
    rw [← hob2]
    have bad : ∀ tm, nth tm 2 = .bool false → HQ h0 r12 (Gx (isG s) h0) .ret ⟨tm, ⟨[], .no, none, 12⟩⟩ ⟨nx + 1, minN nx lo, ob2⟩ := fun tm ht => JJ.fin _ _ (isG_f s) (fun m H b => frz_bool m b _) ht
    cases b1 with
    | false =>
      simp only [go_sem, Nat.reduceEqDiff, Nat.reduceAdd, Nat.reduceMul, Nat.reduceLeDiff, s12_2, t1, g1', g5, e1]
      exact bad _ (by simp only [go_sem])
    | true =>
      cases b2 with
      | false =>
        simp only [go_sem, Nat.reduceEqDiff, Nat.reduceAdd, Nat.reduceMul, Nat.reduceLeDiff, s12_2, t1, g1', g5, e1, e2]
        exact bad _ (by simp only [go_sem])
      | true =>
        cases b3 with
        | false =>
          simp only [go_sem, Nat.reduceEqDiff, Nat.reduceAdd, Nat.reduceMul, Nat.reduceLeDiff, s12_2, t1, g1', g5, e1, e2, e3]
          exact bad _ (by simp only [go_sem])
        | true =>
          cases b4 with
          | false =>
            simp only [go_sem, Nat.reduceEqDiff, Nat.reduceAdd, Nat.reduceMul, Nat.reduceLeDiff, s12_2, t1, g1', g5, e1, e2, e3, e4]
            exact bad _ (by simp only [go_sem])
          | true =>
            simp only [go_sem, Nat.reduceEqDiff, Nat.reduceAdd, Nat.reduceMul, Nat.reduceLeDiff, s12_2, t1, t4, g1', g5, e1, e2, e3, e4, hw2]
            exact ⟨j - 1, by omega, _, m + 1, by omega, rfl, JJ, by simp only [go_sem, Nat.reduceEqDiff, t1], by simp only [go_sem]⟩
  · simp only [go_sem]
    exact t12_9 hK hv m0 s n hsn h1 h2 h3 h4 h0 _ J _ (by simp only [go_sem, Nat.reduceEqDiff, t1])
def I12a (s : SV) (h0 : AH) (j : Nat) (fr : AF) (h : AH) : Prop := ∃ tm m, m + j = s.ms.length ∧ fr = ⟨tm, ⟨[], .no, none, 12⟩⟩ ∧ J12 s h0 h ∧ nth tm 1 = .ptr h0.next 0 0 ∧ nth tm 3 = .int .i64 (m : Int)
theorem t12_11 {K : CallF} (hK : Runs K) (hv : KV K) (hg : KG K) (m0 : Nat) (s : SV) (fs : FitS s) (n : Nat) (hsn : s.n = (n : Int)) (h1 : n ≤ 20) (h2 : s.ms.length ≤ 8) (h3 : s.qs.length ≤ 5) (h4 : s.bs.length ≤ 8)
    (h0 H : AH) (J : J12 s h0 H) (tm : Tm) (t1 : nth tm 1 = .ptr h0.next 0 0) : R (cK K (m0 + 1)) 30000 [.code s12_11] (HQ h0 r12 (Gx (isG s) h0)) .normal ⟨tm, ⟨[], .no, none, 12⟩⟩ H := by
  have hlen : ∀ H, lenOf (.lst (s.ms.map encM)) H 1 = some s.ms.length := fun H => by rw [len_lst, List.length_map]
  simp only [go_sem, s12_11]
  refine R_loop (I12a s h0) s.ms.length (by omega) ⟨_, 0, Nat.zero_add _, rfl, J, by simp only [go_sem, Nat.reduceEqDiff, t1], by simp only [go_sem]; rfl⟩ ?_
  clear J t1
  rintro j fr H ⟨tm, m, hm, rfl, J, t1, t3⟩
  obtain ⟨nx, lo, ob⟩ := H
  have g1 : ob.get h0.next = some (.box [.lst (s.ms.map encM), .lst (s.qs.map encQ), .lst (s.bs.map encBd), .int .i64 s.n]) := J.g
  unfold b12_1
  simp only [go_sem, Nat.reduceEqDiff, t1, t3, g1, hlen]
  refine sB_dec (fun hlt => ?_) (fun hge => ?_)
  · have hlt : m < s.ms.length := by omega
    obtain ⟨x, hx⟩ : ∃ x, s.ms[m]? = some x := ⟨_, List.getElem?_eq_getElem hlt⟩
    obtain ⟨f1, f2⟩ := fs.ms x (List.mem_of_getElem? hx)
    have ia := fun H => iaddr_map encM_cells hx .i64 H
    have hw2 := wrap_succ m (by omega)
    obtain ⟨b1, u1⟩ := hg.r20 x.ty s.n f1
    obtain ⟨b2, u2⟩ := hg.r20 x.val s.n f2
    have e1 := fun h => cK_known (u1 [enc x.ty, .int .i64 s.n] h (by simp [AV.norms, AV.norm, enc_norm])) (m0 + 1)
    have e2 := fun h => cK_known (u2 [enc x.val, .int .i64 s.n] h (by simp [AV.norms, AV.norm, enc_norm])) (m0 + 1)
    have bq := bq_ms s.ms
    have bq1 : AV.beq (enc x.ty) (enc x.ty) = true := beq_free (enc_free _)
    have bq2 : AV.beq (enc x.val) (enc x.val) = true := beq_free (enc_free _)
    cases b1 with
    | false =>
      simp only [go_sem, Nat.reduceEqDiff, s12_0, t1, t3, g1, ia, faddr_M0, e1]
      exact J.fin _ _ (isG_f s) (fun m H b => frz_bool m b _) (by simp only [go_sem])
    | true =>
      cases b2 with
      | false =>
        simp only [go_sem, Nat.reduceEqDiff, s12_0, t1, t3, g1, ia, faddr_M0, faddr_M6, e1, e2]
        exact J.fin _ _ (isG_f s) (fun m H b => frz_bool m b _) (by simp only [go_sem])
      | true =>
        simp only [go_sem, Nat.reduceEqDiff, s12_0, t1, t3, g1, ia, faddr_M0, faddr_M6, e1, e2, hw2]
        exact ⟨j - 1, by omega, _, m + 1, by omega, rfl, J, by simp only [go_sem, Nat.reduceEqDiff, t1], by simp only [go_sem]⟩
  · simp only [go_sem]
    exact t12_10 hK hv hg m0 s fs n hsn h1 h2 h3 h4 h0 _ J _ (by simp only [go_sem, Nat.reduceEqDiff, t1])
theorem c12 {K : CallF} (hK : Runs K) (hv : KV K) (hg : KG K) (m0 : Nat) (s : SV) (fs : FitS s) (h : AH) :
    ∃ v nx, h.next ≤ nx ∧ cK K (m0 + 2) (.fn 12 [] []) [.agg [.lst (s.ms.map encM), .lst (s.qs.map encQ), .lst (s.bs.map encBd), .int .i64 s.n]] .no h = some (.ret v, .no, ⟨nx, h.low, h.objs⟩) ∧ isG s v := by
  rw [cK_run hK _ 12]
  have key : ∃ v h', evFn EF (cK K (m0 + 1)) 30000 12 [.agg [.lst (s.ms.map encM), .lst (s.qs.map encQ), .lst (s.bs.map encBd), .int .i64 s.n]] .no h = some (.ret v, .no, h') ∧ Gx (isG s) h v h' := by
    refine evFn_H cf12 (pureF _) ?_
    unfold b12
    have hl1 : ∀ H, lenOf (.lst (s.qs.map encQ)) H 1 = some s.qs.length := fun H => by rw [len_lst, List.length_map]
    have hl2 : ∀ H, lenOf (.lst (s.bs.map encBd)) H 1 = some s.bs.length := fun H => by rw [len_lst, List.length_map]
    obtain ⟨ob, hob⟩ : ∃ ob, ob = h.objs.put h.next (.box [.lst (s.ms.map encM), .lst (s.qs.map encQ), .lst (s.bs.map encBd), .int .i64 s.n]) := ⟨_, rfl⟩
    have g1 : ob.get h.next = some (.box [.lst (s.ms.map encM), .lst (s.qs.map encQ), .lst (s.bs.map encBd), .int .i64 s.n]) := by rw [hob, Tr.get_put_same]
    have J : J12 s h ⟨h.next + 1, h.next, ob⟩ := ⟨g1, by show h.next < h.next + 1; omega, Nat.le_refl _⟩
    have bad : ∀ tm, nth tm 2 = .bool false → HQ h r12 (Gx (isG s) h) .ret ⟨tm, ⟨[], .no, none, 12⟩⟩ ⟨h.next + 1, h.next, ob⟩ := fun tm ht => J.fin _ _ (isG_f s) (fun m H b => frz_bool m b _) ht
    obtain ⟨b1, hb1, u1⟩ := hg.r48 s.ms fs.lm fs.ms
    have e1 := fun h => cK_known (u1 h) (m0 + 1)
    simp only [go_sem, Nat.reduceAdd]
    rw [← hob]
    cases b1 with
    | false =>
      simp only [go_sem, Nat.reduceEqDiff, s12_12, g1, e1]
      exact bad _ (by simp only [go_sem])
    | true =>
      by_cases l1 : (5 : Int) < (s.qs.length : Int)
      · have d1 := decide_eq_true l1
        simp only [go_sem, Nat.reduceEqDiff, s12_12, g1, e1, hl1, d1]
        exact bad _ (by simp only [go_sem])
      have d1 := decide_eq_false l1
      by_cases l2 : (8 : Int) < (s.bs.length : Int)
      · have d2 := decide_eq_true l2
        simp only [go_sem, Nat.reduceEqDiff, s12_12, g1, e1, hl1, hl2, d1, d2]
        exact bad _ (by simp only [go_sem])
      have d2 := decide_eq_false l2
      by_cases l3 : s.n < 0
      · have d3 := decide_eq_true l3
        simp only [go_sem, Nat.reduceEqDiff, s12_12, g1, e1, hl1, hl2, d1, d2, d3]
        exact bad _ (by simp only [go_sem])
      have d3 := decide_eq_false l3
      by_cases l4 : 20 < s.n
      · have d4 := decide_eq_true l4
        simp only [go_sem, Nat.reduceEqDiff, s12_12, g1, e1, hl1, hl2, d1, d2, d3, d4]
        exact bad _ (by simp only [go_sem])
      have d4 := decide_eq_false l4
      simp only [go_sem, Nat.reduceEqDiff, s12_12, g1, e1, hl1, hl2, d1, d2, d3, d4]
      exact t12_11 hK hv hg m0 s fs s.n.toNat (by omega) (by omega) (hb1 rfl) (by omega) (by omega) h _ J _ (by simp only [go_sem, Nat.reduceEqDiff])
  obtain ⟨v, h', e, g⟩ := key
  obtain ⟨nx, h1, rfl⟩ := Gx_eq g
  exact ⟨v, nx, h1, e, g.1⟩
end Go.Proofs.YtnacljdablhbgaaGreat
