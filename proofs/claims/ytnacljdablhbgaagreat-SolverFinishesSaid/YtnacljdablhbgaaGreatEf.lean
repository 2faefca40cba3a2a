/- SolverFinishes: Below and what runs over lists of terms (no condition). -/
import Derived.Test.YtnacljdablhbgaaGreatEe
namespace Go.Proofs.YtnacljdablhbgaaGreat
open Go.AG
attribute [local go_sem] RD_max RD_lookup birth_lookup build_1i build_2i build_p1 load_vptrB
theorem un_neg (x : Int) : evUn .neg (.int .i64 x) = some (.int .i64 (IntKind.wrap .i64 (0 - x))) := by
  show some (wrapA .i64 (0 - x)) = _; rw [wrapA_eq]
attribute [local go_sem] un_neg
def I20c (B : List AV) (n : Int) (ks : List T) (j : Nat) (fr : AF) (h : AH) : Prop := ∃ tm m, m + j = ks.length ∧ fr = ⟨tm, ⟨[], .no, none, 20⟩⟩ ∧ h.get 0 = some (.box B) ∧ nth tm 1 = .int .i64 n ∧ nth tm 2 = .ptr 0 0 0 ∧ nth tm 7 = .int .i64 (m : Int)
def I20a (B : List AV) (n : Int) (ls : List LL) (j : Nat) (fr : AF) (h : AH) : Prop := ∃ tm m, m + j = ls.length ∧ fr = ⟨tm, ⟨[], .no, none, 20⟩⟩ ∧ h.get 0 = some (.box B) ∧ nth tm 1 = .int .i64 n ∧ nth tm 2 = .ptr 0 0 0 ∧ nth tm 5 = .int .i64 (m : Int)
def I20b (B : List AV) (n : Int) (q : Nat) (vs : List LV) (j : Nat) (fr : AF) (h : AH) : Prop := ∃ tm m, m + j = vs.length ∧ fr = ⟨tm, ⟨[], .no, none, 20⟩⟩ ∧ h.get 0 = some (.box B) ∧ nth tm 1 = .int .i64 n ∧ nth tm 2 = .ptr 0 0 0 ∧ nth tm 5 = .int .i64 (q : Int) ∧ nth tm 6 = .int .i64 (m : Int)
theorem run20 (call : CallF) (N : Nat) (k i : Int) (nm : ByteArray) (ls : List LL) (ks : List T) (n : Int) (h1 : ls.length < N) (h2 : ∀ l ∈ ls, l.vars.length < N) (h3 : ks.length < N) (hN : N < 9223372036854775807)
    (hc : ∀ t ∈ ks, ∃ b : Bool, ∀ h, call (.fn 20 [] []) [enc t, .int .i64 n] .no h = some (.ret (.bool b), .no, h)) :
    R call N [.code b20] (FX r20 isB) .normal ⟨startTm [enc (.mk k i nm ls ks), .int .i64 n], ⟨[], .no, none, 20⟩⟩ emptyH := by
  rw [enc_eq]
  unfold b20 emptyH
  simp only [go_sem, Nat.reduceAdd, reduceCtorEq, s20_8]
  refine R_loop (I20a [.int .i64 k, .int .i64 i, .str nm, .lst (ls.map encL), .lst (ks.map enc)] n ls) ls.length h1 ⟨_, 0, Nat.zero_add _, rfl, by simp only [go_sem], by simp only [go_sem, Nat.reduceEqDiff], by simp only [go_sem, Nat.reduceEqDiff], by simp only [go_sem]; rfl⟩ ?_
  rintro j fr h ⟨tm, m, hm, rfl, g0, t1, t2, t5⟩
  unfold b20_3
  simp only [go_sem, Nat.reduceEqDiff, t2, t5, g0]
  refine sB_dec (fun hlt => ?_) (fun hge => ?_)
  · have hlt : m < ls.length := by omega
    obtain ⟨l, hl⟩ : ∃ l, ls[m]? = some l := ⟨_, List.getElem?_eq_getElem hlt⟩
    have ia := fun h => iaddr_map encL_cells hl .i64 h
    have ell : encL l = .agg [.int .i64 l.c, .lst (l.vars.map encV)] := rfl
    rw [ell] at ia
    have hw2 := wrap_succ m (by omega)
    have hvl := h2 l (List.mem_of_getElem? hl)
    simp only [go_sem, s20_2]
    refine R_loop (I20b [.int .i64 k, .int .i64 i, .str nm, .lst (ls.map encL), .lst (ks.map enc)] n m l.vars) l.vars.length hvl ⟨_, 0, Nat.zero_add _, rfl, g0, by simp only [go_sem, Nat.reduceEqDiff, t1], by simp only [go_sem, Nat.reduceEqDiff, t2], by simp only [go_sem, Nat.reduceEqDiff, t5], by simp only [go_sem]; rfl⟩ ?_
    clear t1 t2 t5 g0
    rintro jj fr h ⟨tm, q, hq, rfl, g0, t1, t2, t5, t6⟩
    unfold b20_1
    simp only [go_sem, Nat.reduceEqDiff, t2, t5, t6, g0, ia]
    refine sB_dec (fun hlt => ?_) (fun hge => ?_)
    · have hlt : q < l.vars.length := by omega
      obtain ⟨x, hx⟩ : ∃ x, l.vars[q]? = some x := ⟨_, List.getElem?_eq_getElem hlt⟩
      have ib := fun h => iaddr_map encV_cells hx .i64 h
      have exx : encV x = .agg [.int .i64 x.idx, .int .i64 x.plus] := rfl
      rw [exx] at ib
      have hw3 := wrap_succ q (by omega)
      simp only [go_sem, Nat.reduceEqDiff, s20_0, t1, t2, t5, t6, g0, ia, ib]
      refine sB_dec (fun hb => ?_) (fun hb => ?_)
      · simp only [go_sem, FX_ret, r20, isB_b]
      · simp only [go_sem, Nat.reduceEqDiff, t6, hw3]
        exact ⟨jj - 1, by omega, _, q + 1, by omega, rfl, g0, by simp only [go_sem, Nat.reduceEqDiff, t1], by simp only [go_sem, Nat.reduceEqDiff, t2], by simp only [go_sem, Nat.reduceEqDiff, t5], by simp only [go_sem]⟩
    · simp only [go_sem, Nat.reduceEqDiff, t5, hw2]
      exact ⟨j - 1, by omega, _, m + 1, by omega, rfl, g0, by simp only [go_sem, Nat.reduceEqDiff, t1], by simp only [go_sem, Nat.reduceEqDiff, t2], by simp only [go_sem]⟩
  · simp only [go_sem, s20_7]
    refine R_loop (I20c [.int .i64 k, .int .i64 i, .str nm, .lst (ls.map encL), .lst (ks.map enc)] n ks) ks.length h3 ⟨_, 0, Nat.zero_add _, rfl, g0, by simp only [go_sem, Nat.reduceEqDiff, t1], by simp only [go_sem, Nat.reduceEqDiff, t2], by simp only [go_sem]; rfl⟩ ?_
    clear t1 t2 t5 g0
    rintro jj fr h ⟨tm, q, hq, rfl, g0, t1, t2, t7⟩
    unfold b20_5
    simp only [go_sem, Nat.reduceEqDiff, t2, t7, g0]
    refine sB_dec (fun hlt => ?_) (fun hge => ?_)
    · have hlt : q < ks.length := by omega
      obtain ⟨t, ht⟩ : ∃ t, ks[q]? = some t := ⟨_, List.getElem?_eq_getElem hlt⟩
      have ia := fun h => iaddr_map enc_cells ht .i64 h
      obtain ⟨b, e1⟩ := hc t (List.mem_of_getElem? ht)
      have hw3 := wrap_succ q (by omega)
      cases b with
      | true =>
        simp only [go_sem, Nat.reduceEqDiff, s20_4, t1, t2, t7, g0, ia, e1, hw3]
        exact ⟨jj - 1, by omega, _, q + 1, by omega, rfl, g0, by simp only [go_sem, Nat.reduceEqDiff, t1], by simp only [go_sem, Nat.reduceEqDiff, t2], by simp only [go_sem]⟩
      | false => simp only [go_sem, Nat.reduceEqDiff, s20_4, t1, t2, t7, g0, ia, e1, FX_ret, r20, isB_b]
    · simp only [go_sem, s20_6, FX_ret, r20, isB_b]
def I49 (n : Int) (l : List T) (j : Nat) (fr : AF) (_h : AH) : Prop := ∃ tm m, m + j = l.length ∧ fr = ⟨tm, ⟨[], .no, none, 49⟩⟩ ∧ nth tm 0 = .int .i64 n ∧ nth tm 1 = .lst (l.map enc) ∧ nth tm 5 = .int .i64 (m : Int)
theorem run49 (call : CallF) (N : Nat) (n : Int) (l : List T) (hl : l.length < N) (hN : N < 9223372036854775807)
    (hc : ∀ t ∈ l, ∃ b : Bool, ∀ h, call (.fn 20 [] []) [enc t, .int .i64 n] .no h = some (.ret (.bool b), .no, h)) :
    R call N [.code b49] (FX r49 isB) .normal ⟨startTm [.int .i64 n, .lst (l.map enc)], ⟨[], .no, none, 49⟩⟩ emptyH := by
  unfold b49 emptyH
  simp only [go_sem, s49_3]
  refine R_loop (I49 n l) l.length hl ⟨_, 0, Nat.zero_add _, rfl, by simp only [go_sem, reduceCtorEq], by simp only [go_sem, Nat.reduceEqDiff], by simp only [go_sem]; rfl⟩ ?_
  rintro j fr h ⟨tm, m, hm, rfl, t0, t1, t5⟩
  unfold b49_1
  simp only [go_sem, Nat.reduceEqDiff, t1, t5]
  refine sB_dec (fun hlt => ?_) (fun hge => ?_)
  · have hlt : m < l.length := by omega
    obtain ⟨t, ht⟩ : ∃ t, l[m]? = some t := ⟨_, List.getElem?_eq_getElem hlt⟩
    have ia := fun h => iaddr_map enc_cells ht .i64 h
    obtain ⟨b, e1⟩ := hc t (List.mem_of_getElem? ht)
    have hw2 := wrap_succ m (by omega)
    cases b with
    | true =>
      simp only [go_sem, Nat.reduceEqDiff, reduceCtorEq, s49_0, t0, t1, t5, ia, e1, hw2]
      exact ⟨j - 1, by omega, _, m + 1, by omega, rfl, by simp only [go_sem, reduceCtorEq, t0], by simp only [go_sem, Nat.reduceEqDiff, t1], by simp only [go_sem]⟩
    | false => simp only [go_sem, Nat.reduceEqDiff, reduceCtorEq, s49_0, t0, t1, t5, ia, e1, FX_ret, r49, isB_b]
  · simp only [go_sem, s49_2, FX_ret, r49, isB_b]
def I59 (l : List T) (a p q r : Int) (j : Nat) (fr : AF) (_h : AH) : Prop := ∃ tm m, m + j = l.length ∧ fr = ⟨tm, ⟨[], .no, none, 59⟩⟩ ∧ nth tm 0 = .lst (l.map enc) ∧ nth tm 1 = .int .i64 a ∧ nth tm 2 = .int .i64 p ∧ nth tm 3 = .int .i64 q ∧ nth tm 4 = .int .i64 r ∧ nth tm 11 = .int .i64 (m : Int)
theorem run59 (call : CallF) (N : Nat) (l : List T) (a p q r : Int) (hl : l.length < N) (hN : N < 9223372036854775807)
    (hc : ∀ t ∈ l, ∀ v : Int, ∃ e : Int, ∀ h, call (.fn 7 [] []) [enc t, .int .i64 v, .int .i64 p, .int .i64 q, .int .i64 r] .no h = some (.ret (.int .i64 e), .no, h)) :
    R call N [.code b59] (FX r59 isI) .normal ⟨startTm [.lst (l.map enc), .int .i64 a, .int .i64 p, .int .i64 q, .int .i64 r], ⟨[], .no, none, 59⟩⟩ emptyH := by
  unfold b59 emptyH
  simp only [go_sem, s59_4]
  refine R_loop (I59 l a p q r) l.length hl ⟨_, 0, Nat.zero_add _, rfl, by simp only [go_sem, reduceCtorEq], by simp only [go_sem, Nat.reduceEqDiff], by simp only [go_sem, Nat.reduceEqDiff], by simp only [go_sem, Nat.reduceEqDiff], by simp only [go_sem, Nat.reduceEqDiff], by simp only [go_sem]; rfl⟩ ?_
  rintro j fr h ⟨tm, m, hm, rfl, t0, t1, t2, t3, t4, t11⟩
  unfold b59_2
  simp only [go_sem, Nat.reduceEqDiff, reduceCtorEq, t0, t11]
  refine sB_dec (fun hlt => ?_) (fun hge => ?_)
  · have hlt : m < l.length := by omega
    obtain ⟨t, ht⟩ : ∃ t, l[m]? = some t := ⟨_, List.getElem?_eq_getElem hlt⟩
    have ia := fun h => iaddr_map enc_cells ht .i64 h
    obtain ⟨e, e1⟩ := hc t (List.mem_of_getElem? ht) (IntKind.wrap .i64 (a + (m : Int)))
    have hw2 := wrap_succ m (by omega)
    by_cases he : e = 0
    · have d : decide (e = 0) = true := decide_eq_true he
      simp only [go_sem, Nat.reduceEqDiff, reduceCtorEq, s59_1, s59_0, t0, t1, t2, t3, t4, t11, ia, e1, d, hw2]
      exact ⟨j - 1, by omega, _, m + 1, by omega, rfl, by simp only [go_sem, reduceCtorEq, t0], by simp only [go_sem, Nat.reduceEqDiff, t1], by simp only [go_sem, Nat.reduceEqDiff, t2], by simp only [go_sem, Nat.reduceEqDiff, t3], by simp only [go_sem, Nat.reduceEqDiff, t4], by simp only [go_sem]⟩
    · have d : decide (e = 0) = false := decide_eq_false he
      simp only [go_sem, Nat.reduceEqDiff, reduceCtorEq, s59_1, s59_0, t0, t1, t2, t3, t4, t11, ia, e1, d, FX_ret, r59, isI_i]
  · simp only [go_sem, s59_3, FX_ret, r59, isI_i]
def I47z (ls : List LL) (fr : AF) (_h : AH) : Prop := ∃ tm, fr = ⟨tm, ⟨[], .no, none, 47⟩⟩ ∧ nth tm 0 = .lst (ls.map encL) ∧ nth tm 5 = .int .i64 0
theorem run47z (call : CallF) (N : Nat) (ls : List LL) (hN : 0 < N) :
    R call N [.code b47] (FX r47 isB) .normal ⟨startTm [.lst (ls.map encL), .lst []], ⟨[], .no, none, 47⟩⟩ emptyH := by
  unfold b47 emptyH
  have z : ∀ h, lenOf (.lst []) h 1 = some 0 := fun h => rfl
  cases ls with
  | nil =>
    have d : decide (((0 : Nat) : Int) = ((0 : Nat) : Int)) = true := by decide
    have d2 : decide ((0 : Int) < ((0 : Nat) : Int)) = false := by decide
    simp only [go_sem, Nat.reduceEqDiff, reduceCtorEq, s47_4, z, s47_3]
    refine R_loop (fun j fr h => j = 0 ∧ I47z [] fr h) 0 hN ⟨rfl, _, rfl, by simp only [go_sem, reduceCtorEq], by simp only [go_sem]⟩ ?_
    rintro j fr h ⟨rfl, tm, rfl, t0, t5⟩
    unfold b47_1
    simp only [go_sem, Nat.reduceEqDiff, reduceCtorEq, t0, t5, z, d2, s47_2, FX_ret, r47, isB_b]
  | cons x ls =>
    have d : decide (((ls.length + 1 : Nat) : Int) = ((0 : Nat) : Int)) = false := decide_eq_false (by omega)
    simp only [go_sem, Nat.reduceEqDiff, reduceCtorEq, s47_4, z, d, FX_ret, r47, isB_b]
theorem run11z (call : CallF) (N : Nat) (k i : Int) (nm : ByteArray) (ls : List LL) (ks : List T) (hN : 0 < N) (h47 : ∃ b : Bool, ∀ h, call (.fn 47 [] []) [.lst (ls.map encL), .lst []] .no h = some (.ret (.bool b), .no, h)) :
    R call N [.code b11] (FX r11 isB) .normal ⟨startTm [enc (.mk k i nm ls ks), enc (.mk 0 0 (bs []) [] [])], ⟨[], .no, none, 11⟩⟩ emptyH := by
  rw [enc_eq, enc_eq]
  obtain ⟨b, e47⟩ := h47
  unfold b11 emptyH
  have z : ∀ h, lenOf (.lst []) h 1 = some 0 := fun h => rfl
  have fin : ∀ (tm : Tm) (h : AH), ks = [] → h.get 0 = some (.box [.int .i64 k, .int .i64 i, .str nm, .lst (ls.map encL), .lst (ks.map enc)]) → nth tm 2 = .ptr 0 0 0 → R call N [.code s11_3] (FX r11 isB) .normal ⟨tm, ⟨[], .no, none, 11⟩⟩ h := by
    intro tm h hk g0 t2
    subst hk
    have d2 : decide ((0 : Int) < ((0 : Nat) : Int)) = false := by decide
    simp only [go_sem, s11_3]
    refine R_loop (fun j fr h => j = 0 ∧ ∃ tm, fr = ⟨tm, ⟨[], .no, none, 11⟩⟩ ∧ h.get 0 = some (.box [.int .i64 k, .int .i64 i, .str nm, .lst (ls.map encL), .lst ([].map enc)]) ∧ nth tm 2 = .ptr 0 0 0 ∧ nth tm 5 = .int .i64 0) 0 hN ⟨rfl, _, rfl, g0, by simp only [go_sem, Nat.reduceEqDiff, t2], by simp only [go_sem]⟩ ?_
    rintro j fr h ⟨rfl, tm, rfl, g0, t2, t5⟩
    have z2 : ∀ h, lenOf (.lst ([].map enc)) h 1 = some 0 := fun h => rfl
    unfold b11_1
    simp only [go_sem, Nat.reduceEqDiff, g0, t2, t5, d2, s11_2, FX_ret, r11, isB_b]
  simp only [go_sem, Nat.reduceEqDiff, Nat.reduceAdd, reduceCtorEq]
  by_cases c1 : k = 0
  · have d1 : decide (k = 0) = true := decide_eq_true c1
    by_cases c2 : i = 0
    · have d2 : decide (i = 0) = true := decide_eq_true c2
      cases c3 : (nm == bs []) with
      | false => simp only [go_sem, Nat.reduceEqDiff, reduceCtorEq, s11_4, d1, d2, c3, FX_ret, r11, isB_b]
      | true =>
        cases b with
        | false => simp only [go_sem, Nat.reduceEqDiff, reduceCtorEq, s11_4, d1, d2, c3, e47, FX_ret, r11, isB_b]
        | true =>
          cases ks with
          | nil =>
            have d4 : decide (((0 : Nat) : Int) = ((0 : Nat) : Int)) = true := by decide
            simp only [go_sem, Nat.reduceEqDiff, reduceCtorEq, s11_4, d1, d2, c3, e47]
            exact fin _ _ rfl (by simp only [go_sem, reduceCtorEq]) (by simp only [go_sem, Nat.reduceEqDiff])
          | cons t ks =>
            have d4 : decide (((ks.length + 1 : Nat) : Int) = ((0 : Nat) : Int)) = false := decide_eq_false (by omega)
            simp only [go_sem, Nat.reduceEqDiff, reduceCtorEq, s11_4, d1, d2, c3, e47, z, d4, FX_ret, r11, isB_b]
    · have d2 : decide (i = 0) = false := decide_eq_false c2
      simp only [go_sem, Nat.reduceEqDiff, reduceCtorEq, s11_4, d1, d2, FX_ret, r11, isB_b]
  · have d1 : decide (k = 0) = false := decide_eq_false c1
    simp only [go_sem, Nat.reduceEqDiff, reduceCtorEq, s11_4, d1, FX_ret, r11, isB_b]
attribute [local go_sem] RD_max RD_lookup birth_lookup build_1i build_2i build_p1 load_vptrB
theorem lit_agg55' (h : AH) (a b c d e a' b' c' d' e' z1 z2 z3 z4 z5 : AV) : evLit true true 5 [z1, z2, z3, z4, z5] 2 [(0, 5, .agg [a, b, c, d, e]), (5, 5, .agg [a', b', c', d', e'])] h = .val (.clip [.agg [a, b, c, d, e], .agg [a', b', c', d', e']]) h := (rfl)
theorem build_T0 (h : AH) (a b c d e : AV) : evBuild h [a, b, c, d, e] [] = .val (.agg [a, b, c, d, e]) h := (rfl)
attribute [local go_sem] lit_agg55' litParts_2 build_T0
def I18 (_nm _nc : Int) (ms : List MV) (ctx ts : List T) (j : Nat) (fr : AF) (_h : AH) : Prop := ∃ tm m, m + j = ts.length ∧ fr = ⟨tm, ⟨[], .no, none, 18⟩⟩ ∧ nth tm 0 = .lst (ms.map encM) ∧ nth tm 1 = .lst (ctx.map enc) ∧ nth tm 32 = .lst (ts.map enc) ∧ nth tm 33 = .int .i64 (ts.length : Int) ∧ nth tm 34 = .int .i64 (m : Int)
theorem run18 (call : CallF) (N : Nat) (ms : List MV) (ctx ts : List T) (e1 e2 : Int) (b1 b2 : Bool) (hl : ts.length < N) (hN : N < 9223372036854775807)
    (h1 : ∀ h, call (.fn 24 [] []) [.int .i64 60, .lst (ctx.map enc)] .no h = some (.ret (.int .i64 e1), .no, h))
    (h2 : ∀ h, call (.fn 24 [] []) [.int .i64 60, .lst (ts.map enc)] .no h = some (.ret (.int .i64 e2), .no, h))
    (h3 : ∀ h, call (.fn 6 [] []) [.lst (ctx.map enc)] .no h = some (.ret (.bool b1), .no, h))
    (h4 : ∀ h, call (.fn 6 [] []) [.lst (ts.map enc)] .no h = some (.ret (.bool b2), .no, h))
    (h5 : b2 = true → ∀ t ∈ ts, ∃ e : Int, ∀ h, call (.fn 7 [] []) [enc t, .int .i64 (ctx.length : Int), .int .i64 8, .int .i64 (ms.length : Int), .int .i64 65536] .no h = some (.ret (.int .i64 e), .no, h))
    (h6 : b1 = true → ∃ e : Int, ∀ h, call (.fn 59 [] []) [.lst (ctx.map enc), .int .i64 0, .int .i64 8, .int .i64 (ms.length : Int), .int .i64 65536] .no h = some (.ret (.int .i64 e), .no, h)) :
    R call N [.code b18] (FX r18 isB) .normal ⟨startTm [.lst (ms.map encM), .lst (ctx.map enc), .lst (ts.map enc)], ⟨[], .no, none, 18⟩⟩ emptyH := by
  unfold b18 emptyH
  have l0 : ∀ H, lenOf (.lst (ms.map encM)) H 1 = some ms.length := fun H => by rw [len_lst, List.length_map]
  have l1 : ∀ H, lenOf (.lst (ctx.map enc)) H 1 = some ctx.length := fun H => by rw [len_lst, List.length_map]
  have l2 : ∀ H, lenOf (.lst (ts.map enc)) H 1 = some ts.length := fun H => by rw [len_lst, List.length_map]
  simp only [go_sem]
  by_cases c1 : (6 : Int) < (ctx.length : Int)
  · have d1 := decide_eq_true c1
    simp only [go_sem, Nat.reduceEqDiff, s18_6, l1, d1, FX_ret, r18, isB_b]
  have d1 := decide_eq_false c1
  by_cases c2 : 60 < e1
  · have d2 := decide_eq_true c2
    simp only [go_sem, Nat.reduceEqDiff, s18_6, l1, d1, h1, d2, FX_ret, r18, isB_b]
  have d2 := decide_eq_false c2
  by_cases c3 : 60 < e2
  · have d3 := decide_eq_true c3
    simp only [go_sem, Nat.reduceEqDiff, s18_6, l1, d1, h1, d2, h2, d3, FX_ret, r18, isB_b]
  have d3 := decide_eq_false c3
  cases b1 with
  | false => simp only [go_sem, Nat.reduceEqDiff, s18_6, l1, d1, h1, d2, h2, d3, h3, FX_ret, r18, isB_b]
  | true =>
    cases b2 with
    | false => simp only [go_sem, Nat.reduceEqDiff, s18_6, l1, d1, h1, d2, h2, d3, h3, h4, FX_ret, r18, isB_b]
    | true =>
      simp only [go_sem, Nat.reduceEqDiff, s18_6, l1, d1, h1, d2, h2, d3, h3, h4, s18_5, l2]
      refine R_loop (I18 0 0 ms ctx ts) ts.length hl ⟨_, 0, Nat.zero_add _, rfl, by simp only [go_sem, reduceCtorEq], by simp only [go_sem, Nat.reduceEqDiff], by simp only [go_sem, Nat.reduceEqDiff], by simp only [go_sem, Nat.reduceEqDiff], by simp only [go_sem]; rfl⟩ ?_
      rintro j fr h ⟨tm, m, hm, rfl, t0, t1, t32, t33, t34⟩
      unfold b18_3
      simp only [go_sem, s18_2, t33, t34]
      refine sB_dec (fun hlt => ?_) (fun hge => ?_)
      · have hlt : m < ts.length := by omega
        obtain ⟨t, ht⟩ : ∃ t, ts[m]? = some t := ⟨_, List.getElem?_eq_getElem hlt⟩
        have ia := fun h => iaddr_map enc_cells ht .i64 h
        rw [enc_parts t] at ia
        obtain ⟨e, he⟩ := h5 rfl t (List.mem_of_getElem? ht)
        rw [enc_parts t] at he
        have hw2 := wrap_succ m (by omega)
        by_cases hz : e = 0
        · have d : decide (e = 0) = true := decide_eq_true hz
          simp only [go_sem, Nat.reduceEqDiff, Nat.reduceAdd, reduceCtorEq, s18_1, s18_0, t0, t1, t32, t34, ia, l0, l1, he, d, hw2]
          exact ⟨j - 1, by omega, _, m + 1, by omega, rfl, by simp only [go_sem, reduceCtorEq, t0], by simp only [go_sem, Nat.reduceEqDiff, t1], by simp only [go_sem, Nat.reduceEqDiff, t32], by simp only [go_sem, Nat.reduceEqDiff, t33], by simp only [go_sem]⟩
        · have d : decide (e = 0) = false := decide_eq_false hz
          simp only [go_sem, Nat.reduceEqDiff, Nat.reduceAdd, reduceCtorEq, s18_1, s18_0, t0, t1, t32, t34, ia, l0, l1, he, d, FX_ret, r18, isB_b]
      · obtain ⟨e, he⟩ := h6 rfl
        simp only [go_sem, Nat.reduceEqDiff, reduceCtorEq, s18_4, t0, t1, l0, he, FX_ret, r18, isB_b]
def I48 (ms : List MV) (j : Nat) (fr : AF) (_h : AH) : Prop := ∃ tm m, m + j = ms.length ∧ fr = ⟨tm, ⟨[], .no, none, 48⟩⟩ ∧ nth tm 0 = .lst (ms.map encM) ∧ nth tm 8 = .lst (ms.map encM) ∧ nth tm 9 = .int .i64 (ms.length : Int) ∧ nth tm 10 = .int .i64 (m : Int)
def isB8 (ms : List MV) (o : AOut) : Prop := ∃ b : Bool, o = .ret (.bool b) ∧ (b = true → ms.length ≤ 8)
theorem isB8_b (ms : List MV) (b : Bool) : isB8 ms (.ret (.bool b)) = (b = true → ms.length ≤ 8) := by
  apply propext
  constructor
  · rintro ⟨e', h, hw⟩; cases h; exact hw
  · intro h; exact ⟨b, rfl, h⟩
theorem isB8_f (ms : List MV) : isB8 ms (.ret (.bool false)) = True := by rw [isB8_b]; simp
theorem run48 (call : CallF) (N : Nat) (ms : List MV) (hN : 100 < N) (hN2 : N < 9223372036854775807)
    (h24 : ∀ m ∈ ms, ∃ e : Int, ∀ h, call (.fn 24 [] []) [.int .i64 40, .clip [(.agg [.int .i64 m.ty.kind, .int .i64 m.ty.idx, .str m.ty.name, .lst (m.ty.levels.map encL), .lst (m.ty.kids.map enc)]), (.agg [.int .i64 m.val.kind, .int .i64 m.val.idx, .str m.val.name, .lst (m.val.levels.map encL), .lst (m.val.kids.map enc)])]] .no h = some (.ret (.int .i64 e), .no, h))
    (h6 : ∀ m ∈ ms, ∃ b : Bool, (∀ h, call (.fn 6 [] []) [.clip [(.agg [.int .i64 m.ty.kind, .int .i64 m.ty.idx, .str m.ty.name, .lst (m.ty.levels.map encL), .lst (m.ty.kids.map enc)]), (.agg [.int .i64 m.val.kind, .int .i64 m.val.idx, .str m.val.name, .lst (m.val.levels.map encL), .lst (m.val.kids.map enc)])]] .no h = some (.ret (.bool b), .no, h)) ∧
      (b = true → ∃ e1 e2 : Int, (∀ h, call (.fn 7 [] []) [(.agg [.int .i64 m.ty.kind, .int .i64 m.ty.idx, .str m.ty.name, .lst (m.ty.levels.map encL), .lst (m.ty.kids.map enc)]), .int .i64 0, .int .i64 8, .int .i64 (ms.length : Int), .int .i64 65536] .no h = some (.ret (.int .i64 e1), .no, h)) ∧ (∀ h, call (.fn 7 [] []) [(.agg [.int .i64 m.val.kind, .int .i64 m.val.idx, .str m.val.name, .lst (m.val.levels.map encL), .lst (m.val.kids.map enc)]), .int .i64 0, .int .i64 8, .int .i64 (ms.length : Int), .int .i64 65536] .no h = some (.ret (.int .i64 e2), .no, h))))
    (h11 : ∀ m ∈ ms, ∃ b : Bool, ∀ h, call (.fn 11 [] []) [(.agg [.int .i64 m.val.kind, .int .i64 m.val.idx, .str m.val.name, .lst (m.val.levels.map encL), .lst (m.val.kids.map enc)]), .agg [.int .i64 0, .int .i64 0, .str (bs []), .nils, .nils]] .no h = some (.ret (.bool b), .no, h)) :
    R call N [.code b48] (FX r48 (isB8 ms)) .normal ⟨startTm [.lst (ms.map encM)], ⟨[], .no, none, 48⟩⟩ emptyH := by
  unfold b48 emptyH
  have l0 : ∀ H, lenOf (.lst (ms.map encM)) H 1 = some ms.length := fun H => by rw [len_lst, List.length_map]
  simp only [go_sem, reduceCtorEq, s48_7, l0]
  refine sB_dec (fun hgt => ?_) (fun hle => ?_)
  · simp only [go_sem, FX_ret, r48, isB8_f]
  have h8 : ms.length ≤ 8 := by omega
  simp only [go_sem, reduceCtorEq, s48_6, l0]
  refine R_loop (I48 ms) ms.length (by omega) ⟨_, 0, Nat.zero_add _, rfl, by simp only [go_sem, reduceCtorEq], by simp only [go_sem, Nat.reduceEqDiff], by simp only [go_sem, Nat.reduceEqDiff], by simp only [go_sem]; rfl⟩ ?_
  rintro j fr h ⟨tm, q, hq, rfl, t0, t8, t9, t10⟩
  obtain ⟨nx, lo, ob⟩ := h
  unfold b48_4
  simp only [go_sem, s48_3, t9, t10]
  refine sB_dec (fun hlt => ?_) (fun hge => ?_)
  · have hlt : q < ms.length := by omega
    obtain ⟨m, hm⟩ : ∃ m, ms[q]? = some m := ⟨_, List.getElem?_eq_getElem hlt⟩
    have ia := fun h => iaddr_map encM_cells hm .i64 h
    have em : encM m = .agg [.int .i64 m.ty.kind, .int .i64 m.ty.idx, .str m.ty.name, .lst (m.ty.levels.map encL), .lst (m.ty.kids.map enc), .bool m.known, .int .i64 m.val.kind, .int .i64 m.val.idx, .str m.val.name, .lst (m.val.levels.map encL), .lst (m.val.kids.map enc), .bool m.cls] := rfl
    rw [em] at ia
    have hmm := List.mem_of_getElem? hm
    obtain ⟨e, u1⟩ := h24 m hmm
    obtain ⟨b6, u6, u2⟩ := h6 m hmm
    obtain ⟨b11, u11⟩ := h11 m hmm
    have hw2 := wrap_succ q (by omega)
    by_cases c1 : 40 < e
    · have d1 := decide_eq_true c1
      simp only [go_sem, Nat.reduceEqDiff, Nat.reduceAdd, Nat.reduceMul, Nat.reduceLeDiff, s48_2, t8, t10, ia, s48_1, u1, d1, FX_ret, r48, isB8_f]
    have d1 := decide_eq_false c1
    have next : ∀ (tm : Tm) (h : AH), nth tm 0 = .lst (ms.map encM) → nth tm 8 = .lst (ms.map encM) → nth tm 9 = .int .i64 (ms.length : Int) → nth tm 10 = .int .i64 ((q + 1 : Nat) : Int) → ∃ j', j' < j ∧ I48 ms j' ⟨tm, ⟨[], .no, none, 48⟩⟩ h :=
      fun tm h q0 q1 q2 q3 => ⟨j - 1, by omega, tm, q + 1, by omega, rfl, q0, q1, q2, q3⟩
    cases b6 with
    | false => simp only [go_sem, Nat.reduceEqDiff, Nat.reduceAdd, Nat.reduceMul, Nat.reduceLeDiff, s48_2, t8, t10, ia, s48_1, u1, d1, u6, FX_ret, r48, isB8_f]
    | true =>
      obtain ⟨e1, e2, u3, u4⟩ := u2 rfl
      by_cases c2 : e1 = 0
      · have d2 : decide (e1 = 0) = true := decide_eq_true c2
        cases hk : m.known with
        | true =>
          by_cases c3 : e2 = 0
          · have d3 : decide (e2 = 0) = true := decide_eq_true c3
            simp only [go_sem, Nat.reduceEqDiff, Nat.reduceAdd, Nat.reduceMul, Nat.reduceLeDiff, reduceCtorEq, s48_2, t0, t8, t10, ia, s48_1, u1, d1, u6, l0, u3, d2, s48_0, hk, u4, d3, hw2]
            exact next _ _ (by simp only [go_sem, reduceCtorEq, t0]) (by simp only [go_sem, Nat.reduceEqDiff, t8]) (by simp only [go_sem, Nat.reduceEqDiff, t9]) (by simp only [go_sem])
          · have d3 : decide (e2 = 0) = false := decide_eq_false c3
            simp only [go_sem, Nat.reduceEqDiff, Nat.reduceAdd, Nat.reduceMul, Nat.reduceLeDiff, reduceCtorEq, s48_2, t0, t8, t10, ia, s48_1, u1, d1, u6, l0, u3, d2, s48_0, hk, u4, d3, FX_ret, r48, isB8_f]
        | false =>
          cases b11 with
          | true =>
            simp only [go_sem, Nat.reduceEqDiff, Nat.reduceAdd, Nat.reduceMul, Nat.reduceLeDiff, reduceCtorEq, s48_2, t0, t8, t10, ia, s48_1, u1, d1, u6, l0, u3, d2, s48_0, hk, u11, hw2]
            exact next _ _ (by simp only [go_sem, reduceCtorEq, t0]) (by simp only [go_sem, Nat.reduceEqDiff, t8]) (by simp only [go_sem, Nat.reduceEqDiff, t9]) (by simp only [go_sem])
          | false => simp only [go_sem, Nat.reduceEqDiff, Nat.reduceAdd, Nat.reduceMul, Nat.reduceLeDiff, reduceCtorEq, s48_2, t0, t8, t10, ia, s48_1, u1, d1, u6, l0, u3, d2, s48_0, hk, u11, FX_ret, r48, isB8_f]
      · have d2 : decide (e1 = 0) = false := decide_eq_false c2
        simp only [go_sem, Nat.reduceEqDiff, Nat.reduceAdd, Nat.reduceMul, Nat.reduceLeDiff, reduceCtorEq, s48_2, t0, t8, t10, ia, s48_1, u1, d1, u6, l0, u3, d2, FX_ret, r48, isB8_f]
  · simp only [go_sem, s48_5, FX_ret, r48, isB8_b]
    exact fun _ => h8
end Go.Proofs.YtnacljdablhbgaaGreat
