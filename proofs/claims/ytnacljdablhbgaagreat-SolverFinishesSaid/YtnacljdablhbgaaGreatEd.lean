/- SolverFinishes: Check of the program accepts valid bounds in scope (no condition). -/
import Derived.Test.YtnacljdablhbgaaGreatEc
namespace Go.Proofs.YtnacljdablhbgaaGreat
open Go.AG
attribute [local go_sem] RD_max RD_lookup birth_lookup build_1i build_2i build_p1
theorem c195 {K : CallF} (hK : Runs K) (m : Nat) (n z : Int) (kb : Nat) (h : AH) (hkb : h.get kb = some (.box [.int .i64 n])) :
    ∃ nx, h.next ≤ nx ∧ cK K (m + 1) (.fn 195 [] [.ptr kb 0 0]) [.int .i64 z] .no h = some (.ret (.bool (decide (n ≤ z))), .no, ⟨nx, h.low, h.objs⟩) := by
  rw [cK_run hK _ 195]
  have key : ∃ v h', evFn EF (cK K m) 30000 195 [.int .i64 z, .ptr kb 0 0] .no h = some (.ret v, .no, h') ∧ Gx (fun v => v = .bool (decide (n ≤ z))) h v h' := by
    refine evFn_H cf195 (pureF _) ?_
    unfold b195
    have gk : h.objs.get kb = some (.box [.int .i64 n]) := hkb
    simp only [go_sem, Nat.reduceEqDiff, reduceCtorEq, s195_0, gk]
    exact HQ_gx (.inr rfl) (Nat.le_refl _) (Nat.le_refl _) (by simp only [go_sem, r195]; rfl) (by rw [one_1, frz_bool])
  obtain ⟨v, h', e, g⟩ := key
  obtain ⟨nx, h1, rfl⟩ := Gx_eq g
  obtain ⟨rfl, _⟩ := g
  exact ⟨nx, h1, e⟩
def I239 (V f : AV) (ms : List Int) (b : Nat) (ob : Tr AObj) (j : Nat) (fr : AF) (h : AH) : Prop := ∃ tm m nx, m + j = ms.length ∧ fr = ⟨tm, ⟨[], .no, none, 239⟩⟩ ∧ h = ⟨nx, b, ob⟩ ∧ b ≤ nx ∧
  nth tm 0 = V ∧ nth tm 1 = f ∧ nth tm 7 = .int .i64 (ms.length : Int) ∧ nth tm 8 = .int .i64 (m : Int)
theorem c239 {K : CallF} (hK : Runs K) (m0 : Nat) (V : AV) (ms : List Int) (n : Int) (kb : Nat) (h : AH) (hV : Zs V ms) (hl : ms.length ≤ 1000) (hkb : h.get kb = some (.box [.int .i64 n])) (hz : ∀ z ∈ ms, z < n) :
    ∃ nx, h.next ≤ nx ∧ cK K (m0 + 2) (.fn 239 [] []) [V, .fn 195 [] [.ptr kb 0 0]] .no h = some (.ret (.int .i64 (-1)), .no, ⟨nx, h.low, h.objs⟩) := by
  rw [cK_run hK _ 239]
  have key : ∃ v h', evFn EF (cK K (m0 + 1)) 30000 239 [V, .fn 195 [] [.ptr kb 0 0]] .no h = some (.ret v, .no, h') ∧ Gx (fun v => v = .int .i64 (-1)) h v h' := by
    refine evFn_H cf239 (pureF _) ?_
    unfold b239
    have la := hV.len
    simp only [go_sem, reduceCtorEq, Int.reduceNeg, s239_5, la]
    refine R_loop (I239 V (.fn 195 [] [.ptr kb 0 0]) ms h.next h.objs) ms.length (by omega) ⟨_, 0, _, Nat.zero_add _, rfl, rfl, Nat.le_refl _, by simp only [go_sem, reduceCtorEq], by simp only [go_sem, Nat.reduceEqDiff], by simp only [go_sem, Nat.reduceEqDiff], by simp only [go_sem]; rfl⟩ ?_
    rintro j fr H ⟨tm, m, nx, hm, rfl, rfl, hnx, t0, t1, t7, t8⟩
    unfold b239_3
    simp only [go_sem, Int.reduceNeg, s239_2, t7, t8]
    refine sB_dec (fun hlt => ?_) (fun hge => ?_)
    · have hlt : m < ms.length := by omega
      obtain ⟨z, hzm⟩ : ∃ z, ms[m]? = some z := ⟨_, List.getElem?_eq_getElem hlt⟩
      have ia := hV.ia m z hzm
      have hw2 := wrap_succ m (by omega)
      have d : decide (n ≤ z) = false := decide_eq_false (by have := hz z (List.mem_of_getElem? hzm); omega)
      obtain ⟨nx', h1, e1⟩ := c195 hK m0 n z kb ⟨nx, h.next, h.objs⟩ hkb
      have h1 : nx ≤ nx' := h1
      simp only [go_sem, Nat.reduceEqDiff, reduceCtorEq, Int.reduceNeg, s239_1, s239_0, t0, t1, t8, ia, e1, d, hw2]
      exact ⟨j - 1, by omega, _, m + 1, _, by omega, rfl, rfl, by omega, by simp only [go_sem, reduceCtorEq, t0], by simp only [go_sem, Nat.reduceEqDiff, t1], by simp only [go_sem, Nat.reduceEqDiff, t7], by simp only [go_sem]⟩
    · simp only [go_sem, Int.reduceNeg, s239_4]
      exact HQ_gx (.inr rfl) (Nat.le_refl _) hnx (by simp only [go_sem, Int.reduceNeg, r239]; rfl) (by rw [one_1, frz_int])
  obtain ⟨v, h', e, g⟩ := key
  obtain ⟨nx, h1, rfl⟩ := Gx_eq g
  obtain ⟨rfl, _⟩ := g
  exact ⟨nx, h1, e⟩
theorem c193 {K : CallF} (hK : Runs K) (m0 : Nat) (V : AV) (ms : List Int) (n : Int) (kb : Nat) (h : AH) (hV : Zs V ms) (hl : ms.length ≤ 1000) (hkb : h.get kb = some (.box [.int .i64 n])) (hz : ∀ z ∈ ms, z < n) :
    ∃ nx, h.next ≤ nx ∧ cK K (m0 + 3) (.fn 193 [] []) [V, .fn 195 [] [.ptr kb 0 0]] .no h = some (.ret (.bool false), .no, ⟨nx, h.low, h.objs⟩) := by
  rw [cK_run hK _ 193]
  have key : ∃ v h', evFn EF (cK K (m0 + 2)) 30000 193 [V, .fn 195 [] [.ptr kb 0 0]] .no h = some (.ret v, .no, h') ∧ Gx (fun v => v = .bool false) h v h' := by
    refine evFn_H cf193 (pureF _) ?_
    unfold b193
    obtain ⟨nx1, w1, w2⟩ := c239 hK m0 V ms n kb ⟨h.next, h.next, h.objs⟩ hV hl hkb hz
    have w1 : h.next ≤ nx1 := w1
    have d : decide ((0 : Int) ≤ -1) = false := by decide
    simp only [go_sem, Nat.reduceEqDiff, reduceCtorEq, Int.reduceLE, Int.reduceNeg, s193_0, w2]
    exact HQ_gx (.inr rfl) (Nat.le_refl _) w1 (by simp only [go_sem, Int.reduceNeg, r193]; rfl) (by rw [one_1, frz_bool])
  obtain ⟨v, h', e, g⟩ := key
  obtain ⟨nx, h1, rfl⟩ := Gx_eq g
  obtain ⟨rfl, _⟩ := g
  exact ⟨nx, h1, e⟩
theorem c136 {K : CallF} (hK : Runs K) (hv : KV K) (m0 : Nat) (l : LL) (n : Nat) (a : AV) (h : AH) (ha : Lv a l) (hl : l.vars.length ≤ 100) (hvl : VL l) (hs : Sc n l) :
    ∃ nx, h.next ≤ nx ∧ cK K (m0 + 5) (.fn 136 [] []) [a, .int .i64 (n : Int)] .no h = some (.ret (.bool false), .no, ⟨nx, h.low, h.objs⟩) := by
  rw [cK_run hK _ 136]
  have key : ∃ v h', evFn EF (cK K (m0 + 4)) 30000 136 [a, .int .i64 (n : Int)] .no h = some (.ret v, .no, h') ∧ Gx (fun v => v = .bool false) h v h' := by
    have ha' := ha
    obtain ⟨V, rfl, a1, a2, a3, a4, a5, a6⟩ := ha.ex
    refine evFn_H cf136 (pureF _) ?_
    unfold b136
    have n1 : ¬ (h.next = h.next + 1) := by omega
    obtain ⟨ob, hob⟩ : ∃ ob, ob = (h.objs.put h.next (.box [.int .i64 l.c, V])).put (h.next + 1) (.box [.int .i64 (n : Int)]) := ⟨_, rfl⟩
    have g2 : ob.get h.next = some (.box [.int .i64 l.c, V]) := by simp only [hob, go_sem, n1]
    have g3 : ob.get (h.next + 1) = some (.box [.int .i64 (n : Int)]) := by simp only [hob, go_sem]
    have bi : ∀ h, evBox h 1 (.int .i64 (n : Int)) = .val (.ptr h.next 0 0) (h.new (.box [.int .i64 (n : Int)])) := fun _ => rfl
    obtain ⟨V1, nx1, w1, w2, ms, w3, w4, w5⟩ := c194 hK hv m0 l _ ⟨h.next + 1 + 1, h.next, ob⟩ ha' hl hvl
    have w1 : h.next + 1 + 1 ≤ nx1 := w1
    obtain ⟨nx2, x1, x2⟩ := c193 hK (m0 + 1) V1 ms (n : Int) (h.next + 1) ⟨nx1, h.next, ob⟩ w3 (by omega) g3 (fun z hz => by
      obtain ⟨x, hx, hneg, rfl⟩ := w5 z hz
      exact hs x hx hneg)
    have x1 : nx1 ≤ nx2 := x1
    simp only [go_sem, Nat.reduceEqDiff, Nat.reduceAdd, reduceCtorEq, bi]
    rw [← hob]
    simp only [go_sem, Nat.reduceEqDiff, Nat.reduceAdd, s136_0, g2, w2, x2]
    exact HQ_gx (.inr rfl) (Nat.le_refl _) (by show h.next ≤ nx2; omega) (by simp only [go_sem, r136]; rfl) (by rw [one_1, frz_bool])
  obtain ⟨v, h', e, g⟩ := key
  obtain ⟨nx, h1, rfl⟩ := Gx_eq g
  obtain ⟨rfl, _⟩ := g
  exact ⟨nx, h1, e⟩
def I98 (n : Nat) (bs : List (LL × LL)) (h0 : AH) (j : Nat) (fr : AF) (h : AH) : Prop := ∃ tm m, m + j = bs.length ∧ fr = ⟨tm, ⟨[], .no, none, 98⟩⟩ ∧ h0.next ≤ h.next ∧ h0.next ≤ h.low ∧
  nth tm 0 = .int .i64 (n : Int) ∧ nth tm 14 = .lst (bs.map encBd) ∧ nth tm 15 = .int .i64 (bs.length : Int) ∧ nth tm 16 = .int .i64 (m : Int)
theorem c98 {K : CallF} (hK : Runs K) (hv : KV K) (m0 : Nat) (n : Nat) (bs : List (LL × LL)) (h : AH) (hn : n ≤ 30) (hbl : bs.length ≤ 100) (hb : ∀ b ∈ bs, Okb n b ∧ b.1.vars.length ≤ 10 ∧ b.2.vars.length ≤ 10) :
    ∃ nx, h.next ≤ nx ∧ cK K (m0 + 6) (.fn 98 [] []) [.int .i64 (n : Int), .lst (bs.map encBd)] .no h = some (.ret (.tup [.int .i64 0, .int .i64 0]), .no, ⟨nx, h.low, h.objs⟩) := by
  rw [cK_run hK _ 98]
  have key : ∃ v h', evFn EF (cK K (m0 + 5)) 30000 98 [.int .i64 (n : Int), .lst (bs.map encBd)] .no h = some (.ret v, .no, h') ∧ Gx (fun v => v = .tup [.int .i64 0, .int .i64 0]) h v h' := by
    refine evFn_H cf98 (pureF _) ?_
    unfold b98
    have d1 : decide ((n : Int) < 0) = false := decide_eq_false (by omega)
    have d2 : decide ((2000 : Int) < (n : Int)) = false := decide_eq_false (by omega)
    have hlen : ∀ H, lenOf (.lst (bs.map encBd)) H 1 = some bs.length := fun H => by rw [len_lst, List.length_map]
    simp only [go_sem, Nat.reduceEqDiff, reduceCtorEq, s98_5, d1, d2, s98_4, hlen]
    refine R_loop (I98 n bs h) bs.length (by omega) ⟨_, 0, Nat.zero_add _, rfl, Nat.le_refl _, Nat.le_refl _, by simp only [go_sem, reduceCtorEq], by simp only [go_sem, Nat.reduceEqDiff], by simp only [go_sem, Nat.reduceEqDiff], by simp only [go_sem]; rfl⟩ ?_
    rintro j fr H ⟨tm, q, hq, rfl, hn1, hl1, t0, t14, t15, t16⟩
    unfold b98_2
    simp only [go_sem, s98_1, t15, t16]
    refine sB_dec (fun hlt => ?_) (fun hge => ?_)
    · have hlt : q < bs.length := by omega
      obtain ⟨b, hbq⟩ : ∃ b, bs[q]? = some b := ⟨_, List.getElem?_eq_getElem hlt⟩
      have hw2 := wrap_succ q (by omega)
      obtain ⟨⟨o1, o2, o3, o4⟩, p1, p2⟩ := hb b (List.mem_of_getElem? hbq)
      have ia := fun H => iaddr_map encBd_cells hbq .i64 H
      have ebd : encBd b = .agg [.int .i64 b.1.c, .lst (b.1.vars.map encV), .int .i64 b.2.c, .lst (b.2.vars.map encV)] := rfl
      rw [ebd] at ia
      obtain ⟨nx, lo, ob⟩ := H
      have hn1 : h.next ≤ nx := hn1
      have hl1 : h.next ≤ lo := hl1
      obtain ⟨ob2, hob2⟩ : ∃ ob2, ob2 = (ob.put nx (.box [.int .i64 0, .nils, .int .i64 0, .nils])).put nx (.box [.int .i64 b.1.c, .lst (b.1.vars.map encV), .int .i64 b.2.c, .lst (b.2.vars.map encV)]) := ⟨_, rfl⟩
      have g7 : ob2.get nx = some (.box [.int .i64 b.1.c, .lst (b.1.vars.map encV), .int .i64 b.2.c, .lst (b.2.vars.map encV)]) := by rw [hob2, Tr.get_put_same]
      have e1 := fun h => cK_known (hv.r135 _ b.1 h (Lv_lst b.1.c b.1.vars) (by omega)) (m0 + 5)
      have e2 := fun h => cK_known (hv.r135 _ b.2 h (Lv_lst b.2.c b.2.vars) (by omega)) (m0 + 5)
      rw [vl_t o1] at e1
      rw [vl_t o2] at e2
      obtain ⟨nx1, w1, w2⟩ := c136 hK hv m0 b.1 n _ ⟨nx + 1, minN nx lo, ob2⟩ (Lv_lst b.1.c b.1.vars) (by omega) o1 o3
      have w1 : nx + 1 ≤ nx1 := w1
      obtain ⟨nx2, x1, x2⟩ := c136 hK hv m0 b.2 n _ ⟨nx1, minN nx lo, ob2⟩ (Lv_lst b.2.c b.2.vars) (by omega) o2 o4
      have x1 : nx1 ≤ nx2 := x1
      simp only [go_sem, Nat.reduceEqDiff, Nat.reduceAdd, Nat.reduceLeDiff, s98_0, t14, t16, ia]
      rw [← hob2]
      simp only [go_sem, Nat.reduceEqDiff, Nat.reduceAdd, Nat.reduceLeDiff, reduceCtorEq, g7, e1, e2, t0, w2, x2, t16, hw2]
      exact ⟨j - 1, by omega, _, q + 1, by omega, rfl, by show h.next ≤ nx2; omega, (by (repeat' (first | assumption | exact Nat.le_refl _ | apply le_minN)) <;> omega), by simp only [go_sem, reduceCtorEq, t0], by simp only [go_sem, Nat.reduceEqDiff, t14], by simp only [go_sem, Nat.reduceEqDiff, t15], by simp only [go_sem]⟩
    · simp only [go_sem, s98_3]
      exact HQ_gx (.inr rfl) hl1 hn1 (by simp only [go_sem, Nat.reduceEqDiff, r98]; rfl) (by rw [one_2, frz_tupS]; simp only [List.map_cons, List.map_nil, frz_int])
  obtain ⟨v, h', e, g⟩ := key
  obtain ⟨nx, h1, rfl⟩ := Gx_eq g
  obtain ⟨rfl, _⟩ := g
  exact ⟨nx, h1, e⟩
attribute [local go_sem] RD_max RD_lookup birth_lookup build_1i build_2i build_p1
structure MV where
  ty : T
  known : Bool
  val : T
  cls : Bool
structure QV where
  ctx : List T
  lt : T
  rt : T
  sub : Bool
structure SV where
  ms : List MV
  qs : List QV
  bs : List (LL × LL)
  n : Int
def encM (m : MV) : AV := .agg [.int .i64 m.ty.kind, .int .i64 m.ty.idx, .str m.ty.name, .lst (m.ty.levels.map encL), .lst (m.ty.kids.map enc), .bool m.known, .int .i64 m.val.kind, .int .i64 m.val.idx, .str m.val.name, .lst (m.val.levels.map encL), .lst (m.val.kids.map enc), .bool m.cls]
def encQ (q : QV) : AV := .agg [.lst (q.ctx.map enc), .int .i64 q.lt.kind, .int .i64 q.lt.idx, .str q.lt.name, .lst (q.lt.levels.map encL), .lst (q.lt.kids.map enc), .int .i64 q.rt.kind, .int .i64 q.rt.idx, .str q.rt.name, .lst (q.rt.levels.map encL), .lst (q.rt.kids.map enc), .bool q.sub]
def encS (s : SV) : AV := .agg [.lst (s.ms.map encM), .lst (s.qs.map encQ), .lst (s.bs.map encBd), .int .i64 s.n]
theorem encM_cells (m : MV) : (encM m).cells.length = 12 := rfl
theorem encQ_cells (m : QV) : (encQ m).cells.length = 12 := rfl
theorem load_encM (m : MV) (h : AH) : evLoad (.vptr (encM m)) h true 12 = some (encM m) := load_vptr true 12 rfl rfl
theorem load_vptrB (b : Bool) (h : AH) : evLoad (.vptr (.bool b)) h false 1 = some (.bool b) := load_vptr1 rfl
attribute [local go_sem] load_vptrB
theorem c54 {K : CallF} (hK : Runs K) (m0 : Nat) (m : MV) (h : AH) :
    ∃ nx, h.next ≤ nx ∧ cK K (m0 + 1) (.fn 54 [] []) [encM m] .no h = some (.ret (.bool (!m.known)), .no, ⟨nx, h.low, h.objs⟩) := by
  rw [cK_run hK _ 54]
  have key : ∃ v h', evFn EF (cK K m0) 30000 54 [encM m] .no h = some (.ret v, .no, h') ∧ Gx (fun v => v = .bool (!m.known)) h v h' := by
    refine evFn_H cf54 (pureF _) ?_
    unfold b54 encM
    simp only [go_sem, Nat.reduceEqDiff, Nat.reduceAdd, s54_0]
    exact HQ_gx (.inr rfl) (Nat.le_refl _) (by show h.next ≤ h.next + 1; omega) (by simp only [go_sem, r54]; rfl) (by rw [one_1, frz_bool])
  obtain ⟨v, h', e, g⟩ := key
  obtain ⟨nx, h1, rfl⟩ := Gx_eq g
  obtain ⟨rfl, _⟩ := g
  exact ⟨nx, h1, e⟩
def unk (ms : List MV) : Bool := ms.any fun m => !m.known
def I97 (ms : List MV) (b : Nat) (ob : Tr AObj) (j : Nat) (fr : AF) (h : AH) : Prop := ∃ tm m nx, m + j = ms.length ∧ fr = ⟨tm, ⟨[], .no, none, 97⟩⟩ ∧ h = ⟨nx, b, ob⟩ ∧ b ≤ nx ∧
  nth tm 0 = .lst (ms.map encM) ∧ nth tm 1 = .fn 54 [] [] ∧ nth tm 7 = .int .i64 (ms.length : Int) ∧ nth tm 8 = .int .i64 (m : Int) ∧ ∀ (i : Nat) x, i < m → ms[i]? = some x → (!x.known) = false
theorem c97 {K : CallF} (hK : Runs K) (m0 : Nat) (ms : List MV) (h : AH) (hl : ms.length ≤ 1000) :
    ∃ (e : Int) (nx : Nat), h.next ≤ nx ∧ cK K (m0 + 2) (.fn 97 [] []) [.lst (ms.map encM), .fn 54 [] []] .no h = some (.ret (.int .i64 e), .no, ⟨nx, h.low, h.objs⟩) ∧ decide (0 ≤ e) = unk ms := by
  rw [cK_run hK _ 97]
  have key : ∃ v h', evFn EF (cK K (m0 + 1)) 30000 97 [.lst (ms.map encM), .fn 54 [] []] .no h = some (.ret v, .no, h') ∧ Gx (fun v => ∃ e : Int, v = .int .i64 e ∧ decide (0 ≤ e) = unk ms) h v h' := by
    refine evFn_H cf97 (pureF _) ?_
    unfold b97
    have hlen : ∀ H, lenOf (.lst (ms.map encM)) H 1 = some ms.length := fun H => by rw [len_lst, List.length_map]
    simp only [go_sem, reduceCtorEq, s97_5, hlen]
    refine R_loop (I97 ms h.next h.objs) ms.length (by omega) ⟨_, 0, _, Nat.zero_add _, rfl, rfl, Nat.le_refl _, by simp only [go_sem, reduceCtorEq], by simp only [go_sem, Nat.reduceEqDiff], by simp only [go_sem, Nat.reduceEqDiff], by simp only [go_sem]; rfl, fun i x hi => absurd hi (by omega)⟩ ?_
    rintro j fr H ⟨tm, m, nx, hm, rfl, rfl, hnx, t0, t1, t7, t8, hA⟩
    unfold b97_3
    simp only [go_sem, s97_2, t7, t8]
    refine sB_dec (fun hlt => ?_) (fun hge => ?_)
    · have hlt : m < ms.length := by omega
      obtain ⟨x, hx⟩ : ∃ x, ms[m]? = some x := ⟨_, List.getElem?_eq_getElem hlt⟩
      have ia := fun H => iaddr_map encM_cells hx .i64 H
      have hw2 := wrap_succ m (by omega)
      obtain ⟨nx', h1, e1⟩ := c54 hK m0 x ⟨nx, h.next, h.objs⟩
      have h1 : nx ≤ nx' := h1
      simp only [go_sem, Nat.reduceEqDiff, reduceCtorEq, s97_1, s97_0, t0, t1, t8, ia, load_encM, e1]
      cases hk : (!x.known) with
      | true =>
        simp only [go_sem, Nat.reduceEqDiff]
        exact HQ_gx (.inr rfl) (Nat.le_refl _) (by show h.next ≤ nx'; omega) (by simp only [go_sem, r97]; rfl) ⟨_, by rw [one_1, frz_int], by rw [show unk ms = true from any_true hx hk]; exact decide_eq_true (by omega)⟩
      | false =>
        simp only [go_sem, Nat.reduceEqDiff, t8, hw2]
        refine ⟨j - 1, by omega, _, m + 1, _, by omega, rfl, rfl, by omega, by simp only [go_sem, reduceCtorEq, t0], by simp only [go_sem, Nat.reduceEqDiff, t1], by simp only [go_sem, Nat.reduceEqDiff, t7], by simp only [go_sem], fun i y hi hy => ?_⟩
        by_cases hi' : i < m
        · exact hA i y hi' hy
        · have : i = m := by omega
          subst this
          rw [hx] at hy; cases hy; exact hk
    · have hme : m = ms.length := by omega
      subst hme
      simp only [go_sem, Int.reduceNeg, s97_4]
      exact HQ_gx (.inr rfl) (Nat.le_refl _) hnx (by simp only [go_sem, Int.reduceNeg, r97]; rfl) ⟨-1, by rw [one_1, frz_int], by rw [show unk ms = false from any_false hA]; rfl⟩
  obtain ⟨v, h', e, g⟩ := key
  obtain ⟨nx, h1, rfl⟩ := Gx_eq g
  obtain ⟨⟨e', rfl, he⟩, _⟩ := g
  exact ⟨e', nx, h1, e, he⟩
theorem c53 {K : CallF} (hK : Runs K) (m0 : Nat) (ms : List MV) (h : AH) (hl : ms.length ≤ 1000) :
    ∃ nx, h.next ≤ nx ∧ cK K (m0 + 3) (.fn 53 [] []) [.lst (ms.map encM), .fn 54 [] []] .no h = some (.ret (.bool (unk ms)), .no, ⟨nx, h.low, h.objs⟩) := by
  rw [cK_run hK _ 53]
  have key : ∃ v h', evFn EF (cK K (m0 + 2)) 30000 53 [.lst (ms.map encM), .fn 54 [] []] .no h = some (.ret v, .no, h') ∧ Gx (fun v => v = .bool (unk ms)) h v h' := by
    refine evFn_H cf53 (pureF _) ?_
    unfold b53
    obtain ⟨e, nx1, w1, w2, w3⟩ := c97 hK m0 ms ⟨h.next, h.next, h.objs⟩ hl
    have w1 : h.next ≤ nx1 := w1
    simp only [go_sem, Nat.reduceEqDiff, reduceCtorEq, s53_0, w2, w3]
    exact HQ_gx (.inr rfl) (Nat.le_refl _) w1 (by simp only [go_sem, r53]; rfl) (by rw [one_1, frz_bool])
  obtain ⟨v, h', e, g⟩ := key
  obtain ⟨nx, h1, rfl⟩ := Gx_eq g
  obtain ⟨rfl, _⟩ := g
  exact ⟨nx, h1, e⟩
def kn (ms : List MV) : Nat := ms.countP fun m => m.known
theorem kn_lt (ms : List MV) : decide ((kn ms : Int) < (ms.length : Int)) = unk ms := by
  have h1 : kn ms ≤ ms.length := List.countP_le_length
  have h2 : kn ms = ms.length ↔ ∀ m ∈ ms, m.known = true := List.countP_eq_length
  cases hu : unk ms with
  | true =>
    refine decide_eq_true ?_
    have : kn ms ≠ ms.length := fun e => by
      obtain ⟨m, hm, hk⟩ := List.any_eq_true.1 hu
      rw [h2.1 e m hm] at hk; cases hk
    omega
  | false =>
    refine decide_eq_false ?_
    have : kn ms = ms.length := h2.2 fun m hm => by
      have := List.any_eq_false.1 hu m hm
      simpa using this
    omega
theorem faddr_M5 (m : MV) (h : AH) : evFaddr (.vptr (encM m)) h 5 1 false = .val (.vptr (.bool m.known)) h := (rfl)
def I56 (s : SV) (kb : Nat) (b : Nat) (ob : Tr AObj) (j : Nat) (fr : AF) (h : AH) : Prop := ∃ tm m, m + j = s.ms.length ∧ fr = ⟨tm, ⟨[], .no, none, 56⟩⟩ ∧ h = ⟨kb + 1, b, ob⟩ ∧
  nth tm 1 = .ptr kb 0 0 ∧ nth tm 3 = .int .i64 ((kn (s.ms.take m) : Nat) : Int) ∧ nth tm 4 = .int .i64 (m : Int)
theorem c56 {K : CallF} (hK : Runs K) (m0 : Nat) (s : SV) (h : AH) (hl : s.ms.length ≤ 1000) :
    ∃ nx, h.next ≤ nx ∧ cK K (m0 + 1) (.fn 56 [] []) [.agg [.lst (s.ms.map encM), .lst (s.qs.map encQ), .lst (s.bs.map encBd), .int .i64 s.n]] .no h = some (.ret (.int .i64 ((kn s.ms : Nat) : Int)), .no, ⟨nx, h.low, h.objs⟩) := by
  rw [cK_run hK _ 56]
  have key : ∃ v h', evFn EF (cK K m0) 30000 56 [.agg [.lst (s.ms.map encM), .lst (s.qs.map encQ), .lst (s.bs.map encBd), .int .i64 s.n]] .no h = some (.ret v, .no, h') ∧ Gx (fun v => v = .int .i64 ((kn s.ms : Nat) : Int)) h v h' := by
    refine evFn_H cf56 (pureF _) ?_
    unfold b56
    have hlen : ∀ H, lenOf (.lst (s.ms.map encM)) H 1 = some s.ms.length := fun H => by rw [len_lst, List.length_map]
    obtain ⟨ob, hob⟩ : ∃ ob, ob = h.objs.put h.next (.box [.lst (s.ms.map encM), .lst (s.qs.map encQ), .lst (s.bs.map encBd), .int .i64 s.n]) := ⟨_, rfl⟩
    have g1 : ob.get h.next = some (.box [.lst (s.ms.map encM), .lst (s.qs.map encQ), .lst (s.bs.map encBd), .int .i64 s.n]) := by rw [hob, Tr.get_put_same]
    simp only [go_sem, Nat.reduceAdd, s56_4, s56_3]
    rw [← hob]
    refine R_loop (I56 s h.next h.next ob) s.ms.length (by omega) ⟨_, 0, Nat.zero_add _, rfl, rfl, by simp only [go_sem, Nat.reduceEqDiff], by simp only [go_sem, Nat.reduceEqDiff]; rfl, by simp only [go_sem]; rfl⟩ ?_
    rintro j fr H ⟨tm, m, hm, rfl, rfl, t1, t3, t4⟩
    unfold b56_1
    simp only [go_sem, Nat.reduceEqDiff, t1, t4, g1, hlen]
    refine sB_dec (fun hlt => ?_) (fun hge => ?_)
    · have hlt : m < s.ms.length := by omega
      obtain ⟨x, hx⟩ : ∃ x, s.ms[m]? = some x := ⟨_, List.getElem?_eq_getElem hlt⟩
      have ia := fun H => iaddr_map encM_cells hx .i64 H
      have hw2 := wrap_succ m (by omega)
      have hkl : kn (s.ms.take m) ≤ m := Nat.le_trans List.countP_le_length (by rw [List.length_take]; omega)
      have hw3 := wrap_succ (kn (s.ms.take m)) (by omega)
      have hks : kn (s.ms.take (m + 1)) = kn (s.ms.take m) + (if x.known = true then 1 else 0) := by
        rw [take_succ_get hx]
        show List.countP _ (_ ++ [x]) = _
        rw [List.countP_append, List.countP_singleton]; rfl
      cases hk : x.known with
      | true =>
        rw [hk] at hks
        simp only [go_sem, Nat.reduceEqDiff, s56_0, t1, t3, t4, g1, ia, faddr_M5, hk, hw2, hw3]
        exact ⟨j - 1, by omega, _, m + 1, by omega, rfl, rfl, by simp only [go_sem, Nat.reduceEqDiff, t1], by rw [hks]; simp only [go_sem, Nat.reduceEqDiff]; rfl, by simp only [go_sem]⟩
      | false =>
        rw [hk] at hks
        simp only [go_sem, Nat.reduceEqDiff, s56_0, t1, t4, g1, ia, faddr_M5, hk, hw2]
        exact ⟨j - 1, by omega, _, m + 1, by omega, rfl, rfl, by simp only [go_sem, Nat.reduceEqDiff, t1], by rw [hks]; simp only [go_sem, Nat.reduceEqDiff, reduceCtorEq, t3]; rfl, by simp only [go_sem]⟩
    · have hme : m = s.ms.length := by omega
      subst hme
      rw [List.take_length] at t3
      simp only [go_sem, Nat.reduceEqDiff, s56_2, t3]
      exact HQ_gx (.inr rfl) (Nat.le_refl _) (by show h.next ≤ h.next + 1; omega) (by simp only [go_sem, r56]; rfl) (by rw [one_1, frz_int])
  obtain ⟨v, h', e, g⟩ := key
  obtain ⟨nx, h1, rfl⟩ := Gx_eq g
  obtain ⟨rfl, _⟩ := g
  exact ⟨nx, h1, e⟩
def isFin (s : SV) (n : Nat) (v : AV) : Prop :=
  if 0 < s.qs.length then v = .tup [.nils, .int .i64 19] else if unk s.ms = true then v = .tup [.nils, .int .i64 23] else
    match solP s.bs (List.replicate n ⟨0, []⟩) with
    | some vals => ∃ a, v = .tup [a, .int .i64 0] ∧ isLs vals a
    | none => v = .tup [.nils, .int .i64 15]
theorem isFin_q {s : SV} {n : Nat} (h : 0 < s.qs.length) : isFin s n (.tup [.nils, .int .i64 19]) := by unfold isFin; rw [if_pos h]
theorem isFin_u {s : SV} {n : Nat} (h : ¬ 0 < s.qs.length) (hu : unk s.ms = true) : isFin s n (.tup [.nils, .int .i64 23]) := by unfold isFin; rw [if_neg h, if_pos hu]
theorem isFin_n {s : SV} {n : Nat} (h : ¬ 0 < s.qs.length) (hu : unk s.ms = false) (hs : solP s.bs (List.replicate n ⟨0, []⟩) = none) : isFin s n (.tup [.nils, .int .i64 15]) := by unfold isFin; rw [if_neg h, if_neg (by rw [hu]; simp), hs]
theorem isFin_s {s : SV} {n : Nat} {vals : List LL} {a : AV} (h : ¬ 0 < s.qs.length) (hu : unk s.ms = false) (hs : solP s.bs (List.replicate n ⟨0, []⟩) = some vals) (ha : isLs vals a) : isFin s n (.tup [a, .int .i64 0]) := by unfold isFin; rw [if_neg h, if_neg (by rw [hu]; simp), hs]; exact ⟨a, rfl, ha⟩
theorem encV_frees (vs : List LV) : AV.frees (vs.map encV) = true := frees_map encV_free vs
theorem encM_free (m : MV) : (encM m).free = true := by simp [encM, AV.free, AV.frees, encL_frees, encT_frees]
theorem encQ_free (m : QV) : (encQ m).free = true := by simp [encQ, AV.free, AV.frees, encL_frees, encT_frees]
theorem encBd_free (b : LL × LL) : (encBd b).free = true := by simp [encBd, AV.free, AV.frees, encV_frees]
theorem bq_ms (l : List MV) : AV.beq (.lst (l.map encM)) (.lst (l.map encM)) = true := beq_free (by rw [AV.free]; exact frees_map encM_free l)
theorem frz_Ls {vals : List LL} {a : AV} (h : isLs vals a) (m : Nat) (H : AH) (b : Nat) : frz m H b a = a := by
  obtain ⟨es, rfl, _⟩ := h
  exact frz_lst m b _
theorem c14 {K : CallF} (hK : Runs K) (hv : KV K) (hs : KS K) (m0 : Nat) (s : SV) (n : Nat) (hsn : s.n = (n : Int)) (V : AV) (h : AH) (hl : s.ms.length ≤ 1000) (hql : s.qs.length ≤ 1000) (hn : n ≤ 30) (hbl : s.bs.length ≤ 100) (hb : ∀ b ∈ s.bs, Okb n b ∧ b.1.vars.length ≤ 10 ∧ b.2.vars.length ≤ 10) :
    ∃ v nx, h.next ≤ nx ∧ cK K (m0 + 15) (.fn 14 [] []) [V, .agg [.lst (s.ms.map encM), .lst (s.qs.map encQ), .lst (s.bs.map encBd), .int .i64 s.n]] .no h = some (.ret v, .no, ⟨nx, h.low, h.objs⟩) ∧ isFin s n v := by
  rw [cK_run hK _ 14]
  have key : ∃ v h', evFn EF (cK K (m0 + 14)) 30000 14 [V, .agg [.lst (s.ms.map encM), .lst (s.qs.map encQ), .lst (s.bs.map encBd), .int .i64 s.n]] .no h = some (.ret v, .no, h') ∧ Gx (isFin s n) h v h' := by
    refine evFn_H cf14 (pureF _) ?_
    unfold b14
    have hlen : ∀ H, lenOf (.lst (s.qs.map encQ)) H 1 = some s.qs.length := fun H => by rw [len_lst, List.length_map]
    obtain ⟨ob, hob⟩ : ∃ ob, ob = h.objs.put h.next (.box [.lst (s.ms.map encM), .lst (s.qs.map encQ), .lst (s.bs.map encBd), .int .i64 s.n]) := ⟨_, rfl⟩
    have g1 : ob.get h.next = some (.box [.lst (s.ms.map encM), .lst (s.qs.map encQ), .lst (s.bs.map encBd), .int .i64 s.n]) := by rw [hob, Tr.get_put_same]
    simp only [go_sem, Nat.reduceAdd]
    rw [← hob]
    simp only [go_sem, Nat.reduceEqDiff, s14_3, g1, hlen]
    refine sB_dec (fun hlt => ?_) (fun hge => ?_)
    · have hlt : 0 < s.qs.length := by omega
      simp only [go_sem]
      exact HQ_gx (.inr rfl) (Nat.le_refl _) (by show h.next ≤ h.next + 1; omega) (by simp only [go_sem, Nat.reduceEqDiff, r14]; rfl) (by rw [one_2, frz_tupS]; simp only [List.map_cons, List.map_nil, frz_int, frz_nils]; exact isFin_q hlt)
    · have hge : ¬ 0 < s.qs.length := by omega
      obtain ⟨nx1, w1, w2⟩ := c53 hK (m0 + 11) s.ms ⟨h.next + 1, h.next, ob⟩ hl
      have w1 : h.next + 1 ≤ nx1 := w1
      simp only [go_sem, Nat.reduceEqDiff, s14_2, g1, w2]
      cases hu : unk s.ms with
      | true =>
        simp only [go_sem]
        exact HQ_gx (.inr rfl) (Nat.le_refl _) (by show h.next ≤ nx1; omega) (by simp only [go_sem, Nat.reduceEqDiff, r14]; rfl) (by rw [one_2, frz_tupS]; simp only [List.map_cons, List.map_nil, frz_int, frz_nils]; exact isFin_u hge hu)
      | false =>
        obtain ⟨v, nx2, x1, x2, x3⟩ := c55 hK hv hs m0 n s.bs ⟨nx1, h.next, ob⟩ hn hbl hb (fun H => c98 hK hv (m0 + 7) n s.bs H hn hbl hb)
        have x1 : nx1 ≤ nx2 := x1
        rw [← hsn] at x2
        cases hsol : solP s.bs (List.replicate n ⟨0, []⟩) with
        | none =>
          rw [hsol] at x3
          obtain ⟨i, rfl⟩ := x3
          simp only [go_sem, Nat.reduceEqDiff, s14_1, g1, x2, s14_0]
          exact HQ_gx (.inr rfl) (Nat.le_refl _) (by show h.next ≤ nx2; omega) (by simp only [go_sem, Nat.reduceEqDiff, r14]; rfl) (by rw [one_2, frz_tupS]; simp only [List.map_cons, List.map_nil, frz_int, frz_nils]; exact isFin_n hge hu hsol)
        | some vals =>
          rw [hsol] at x3
          obtain ⟨a, rfl, hLs⟩ := x3
          simp only [go_sem, Nat.reduceEqDiff, s14_1, g1, x2, s14_0]
          exact HQ_gx (.inr rfl) (Nat.le_refl _) (by show h.next ≤ nx2; omega) (by simp only [go_sem, Nat.reduceEqDiff, r14]; rfl) (by rw [one_2, frz_tupS]; simp only [List.map_cons, List.map_nil, frz_int, frz_Ls hLs]; exact isFin_s hge hu hsol hLs)
  obtain ⟨v, h', e, g⟩ := key
  obtain ⟨nx, h1, rfl⟩ := Gx_eq g
  exact ⟨v, nx, h1, e, g.1⟩
theorem c15 {K : CallF} (hK : Runs K) (hv : KV K) (m0 : Nat) (s : SV) (n : Nat) (hsn : s.n = (n : Int)) (V W : AV) (h : AH) (hl : s.ms.length ≤ 1000) (hql : s.qs.length ≤ 1000) (hn : n ≤ 30) (hbl : s.bs.length ≤ 100) (hb : ∀ b ∈ s.bs, Okb n b ∧ b.1.vars.length ≤ 10 ∧ b.2.vars.length ≤ 10) :
    ∃ v nx, h.next ≤ nx ∧ cK K (m0 + 9) (.fn 15 [] []) [V, .agg [.lst (s.ms.map encM), .lst (s.qs.map encQ), .lst (s.bs.map encBd), .int .i64 s.n], W] .no h = some (.ret v, .no, ⟨nx, h.low, h.objs⟩) ∧ isFin s n v := by
  rw [cK_run hK _ 15]
  have key : ∃ v h', evFn EF (cK K (m0 + 8)) 30000 15 [V, .agg [.lst (s.ms.map encM), .lst (s.qs.map encQ), .lst (s.bs.map encBd), .int .i64 s.n], W] .no h = some (.ret v, .no, h') ∧ Gx (isFin s n) h v h' := by
    refine evFn_H cf15 (pureF _) ?_
    unfold b15
    have hlen : ∀ H, lenOf (.lst (s.qs.map encQ)) H 1 = some s.qs.length := fun H => by rw [len_lst, List.length_map]
    have hlen2 : ∀ H, lenOf (.lst (s.ms.map encM)) H 1 = some s.ms.length := fun H => by rw [len_lst, List.length_map]
    obtain ⟨ob, hob⟩ : ∃ ob, ob = h.objs.put h.next (.box [.lst (s.ms.map encM), .lst (s.qs.map encQ), .lst (s.bs.map encBd), .int .i64 s.n]) := ⟨_, rfl⟩
    have g1 : ob.get h.next = some (.box [.lst (s.ms.map encM), .lst (s.qs.map encQ), .lst (s.bs.map encBd), .int .i64 s.n]) := by rw [hob, Tr.get_put_same]
    simp only [go_sem, Nat.reduceEqDiff, Nat.reduceAdd]
    rw [← hob]
    simp only [go_sem, Nat.reduceEqDiff, s15_3, g1, hlen]
    refine sB_dec (fun hlt => ?_) (fun hge => ?_)
    · have hlt : 0 < s.qs.length := by omega
      simp only [go_sem]
      exact HQ_gx (.inr rfl) (Nat.le_refl _) (by show h.next ≤ h.next + 1; omega) (by simp only [go_sem, Nat.reduceEqDiff, r15]; rfl) (by rw [one_2, frz_tupS]; simp only [List.map_cons, List.map_nil, frz_int, frz_nils]; exact isFin_q hlt)
    · have hge : ¬ 0 < s.qs.length := by omega
      obtain ⟨nx1, w1, w2⟩ := c56 hK (m0 + 7) s ⟨h.next + 1, h.next, ob⟩ hl
      have w1 : h.next + 1 ≤ nx1 := w1
      have hkn := kn_lt s.ms
      have bq := bq_ms s.ms
      simp only [go_sem, Nat.reduceEqDiff, Nat.reduceAdd, Nat.reduceLT, s15_2, g1, w2, hlen2, hkn, bq]
      cases hu : unk s.ms with
      | true =>
        simp only [go_sem]
        exact HQ_gx (.inr rfl) (Nat.le_refl _) (by show h.next ≤ nx1; omega) (by simp only [go_sem, Nat.reduceEqDiff, r15]; rfl) (by rw [one_2, frz_tupS]; simp only [List.map_cons, List.map_nil, frz_int, frz_nils]; exact isFin_u hge hu)
      | false =>
        obtain ⟨v, nx2, x1, x2, x3⟩ := c57 hK hv m0 n s.bs ⟨nx1, h.next, ob⟩ hn hbl hb (fun H => by
          obtain ⟨v, nx, y1, y2, i, e, rfl, _, y3⟩ := c50 hK hv (m0 + 6) n s.bs H hn hbl (fun b hh => (hb b hh).2)
          obtain ⟨rfl, rfl⟩ := y3 fun b hh => (hb b hh).1
          exact ⟨nx, y1, y2⟩)
        have x1 : nx1 ≤ nx2 := x1
        rw [← hsn] at x2
        cases hsol : solP s.bs (List.replicate n ⟨0, []⟩) with
        | none =>
          rw [hsol] at x3
          obtain ⟨i, rfl⟩ := x3
          simp only [go_sem, Nat.reduceEqDiff, s15_1, g1, x2, s15_0]
          exact HQ_gx (.inr rfl) (Nat.le_refl _) (by show h.next ≤ nx2; omega) (by simp only [go_sem, Nat.reduceEqDiff, r15]; rfl) (by rw [one_2, frz_tupS]; simp only [List.map_cons, List.map_nil, frz_int, frz_nils]; exact isFin_n hge hu hsol)
        | some vals =>
          rw [hsol] at x3
          obtain ⟨a, rfl, hLs⟩ := x3
          simp only [go_sem, Nat.reduceEqDiff, s15_1, g1, x2, s15_0]
          exact HQ_gx (.inr rfl) (Nat.le_refl _) (by show h.next ≤ nx2; omega) (by simp only [go_sem, Nat.reduceEqDiff, r15]; rfl) (by rw [one_2, frz_tupS]; simp only [List.map_cons, List.map_nil, frz_int, frz_Ls hLs]; exact isFin_s hge hu hsol hLs)
  obtain ⟨v, h', e, g⟩ := key
  obtain ⟨nx, h1, rfl⟩ := Gx_eq g
  exact ⟨v, nx, h1, e, g.1⟩
end Go.Proofs.YtnacljdablhbgaaGreat
