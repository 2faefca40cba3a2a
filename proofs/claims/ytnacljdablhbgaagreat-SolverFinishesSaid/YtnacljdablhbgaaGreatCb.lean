/- UnifyInverts: the check of a term: what it accepts is in order (no condition). -/
import Derived.Test.YtnacljdablhbgaaGreatCa
namespace Go.Proofs.YtnacljdablhbgaaGreat
open Go.AG
inductive WF (vars : Int) : T → Int → Prop
  | mk {k i : Int} {nm : ByteArray} {ls : List LL} {ks : List T} {d : Int} (hv : k = 0 → ks = [] ∧ 0 ≤ i ∧ i - d < vars) (hk : ∀ (j : Nat) t, ks[j]? = some t → WF vars t (d + binders k j)) : WF vars (.mk k i nm ls ks) d
theorem binders_le (k j : Int) : 0 ≤ binders k j ∧ binders k j ≤ 1 := by
  unfold binders; split <;> omega
def isW (vars : Int) (t : T) (d : Int) (o : AOut) : Prop := ∃ e, o = .ret (.int .i64 e) ∧ (e = 0 → WF vars t d)
theorem isW_i (vars : Int) (t : T) (d e : Int) : isW vars t d (.ret (.int .i64 e)) = (e = 0 → WF vars t d) := by
  apply propext
  constructor
  · rintro ⟨e', h, hw⟩; cases h; exact hw
  · intro h; exact ⟨e, rfl, h⟩
theorem isW_pos (vars : Int) (t : T) (d e : Int) (he : ¬ e = 0) : isW vars t d (.ret (.int .i64 e)) = True := by
  rw [isW_i]; exact eq_true fun h => absurd h he
def L27 (d v p q r : Int) (tm : Tm) : Prop := nth tm 1 = .int .i64 d ∧ nth tm 2 = .int .i64 v ∧ nth tm 3 = .int .i64 p ∧ nth tm 4 = .int .i64 q ∧ nth tm 5 = .int .i64 r ∧ nth tm 6 = .ptr 0 0 0
section
variable (call : CallF) (n : Nat) (k i : Int) (nm : ByteArray) (ls : List LL) (ks : List T) (d v p q r : Int)
def I27b (j : Nat) (fr : AF) (h : AH) : Prop := ∃ tm m, m + j = ks.length ∧ fr = ⟨tm, ⟨[], .no, none, 27⟩⟩ ∧ h.get 0 = some (.box [.int .i64 k, .int .i64 i, .str nm, .lst (ls.map encL), .lst (ks.map enc)]) ∧
  L27 d v p q r tm ∧ nth tm 15 = .int .i64 (m : Int) ∧ ∀ (a : Nat) t, a < m → ks[a]? = some t → WF v t (d + binders k a)
theorem run27_7 (hn : ks.length < n) (hl : ks.length < 9223372036854775807) (hd0 : 0 ≤ d) (hd1 : d < 4611686018427387904)
    (h72 : ∀ (j : Int) h, call (.fn 72 [] []) [.int .i64 k, .int .i64 j] .no h = some (.ret (.int .i64 (binders k j)), .no, h))
    (h27 : ∀ t ∈ ks, ∀ d', 0 ≤ d' → d' ≤ d + 1 → ∃ e, (∀ h, call (.fn 27 [] []) [enc t, .int .i64 d', .int .i64 v, .int .i64 p, .int .i64 q, .int .i64 r] .no h = some (.ret (.int .i64 e), .no, h)) ∧ (e = 0 → WF v t d'))
    (hv : k = 0 → ks = [] ∧ 0 ≤ i ∧ i - d < v) (tm : Tm) (h : AH) (hg : h.get 0 = some (.box [.int .i64 k, .int .i64 i, .str nm, .lst (ls.map encL), .lst (ks.map enc)])) (hL : L27 d v p q r tm) :
    R call n [.code s27_7] (FX r27 (isW v (.mk k i nm ls ks) d)) .normal ⟨tm, ⟨[], .no, none, 27⟩⟩ h := by
  obtain ⟨g1, g2, g3, g4, g5, g6⟩ := hL
  unfold s27_7 r27
  simp only [go_sem]
  refine R_loop (I27b k i nm ls ks d v p q r) ks.length hn ⟨_, 0, Nat.zero_add _, rfl, hg, ⟨by simp only [go_sem, Nat.reduceEqDiff, *], by simp only [go_sem, Nat.reduceEqDiff, *], by simp only [go_sem, Nat.reduceEqDiff, *], by simp only [go_sem, Nat.reduceEqDiff, *], by simp only [go_sem, Nat.reduceEqDiff, *], by simp only [go_sem, Nat.reduceEqDiff, *]⟩, by simp only [go_sem]; rfl, fun a t ha => absurd ha (Nat.not_lt_zero _)⟩ ?_
  clear g1 g2 g3 g4 g5 g6 hg
  rintro j fr h ⟨tm, m, hm, rfl, hg, ⟨g1, g2, g3, g4, g5, g6⟩, h15, hw⟩
  unfold b27_5
  simp only [go_sem, Nat.reduceEqDiff, hg, g6, h15]
  refine sB_dec (fun hlt => ?_) (fun hge => ?_)
  · have hlt : m < ks.length := by omega
    have hget : ks[m]? = some ks[m] := List.getElem?_eq_getElem hlt
    have ha := fun h => iaddr_map enc_cells hget .i64 h
    have hb := binders_le k m
    obtain ⟨e, hcall, he⟩ := h27 ks[m] (List.getElem_mem hlt) (d + binders k m) (by omega) (by omega)
    have hw1 : IntKind.wrap .i64 (d + binders k m) = d + binders k m := wrap_fits _ (by omega) (by omega)
    have hw2 := wrap_succ m (by omega)
    have h72' := h72 (m : Int)
    simp only [go_sem, Nat.reduceEqDiff, Nat.reduceAdd, Nat.reduceLT, s27_4, hg, g1, g2, g3, g4, g5, g6, h15, ha, h72', hcall, hw1, s27_3]
    refine sB_nbool (fun e0 => ?_) (fun e0 => ?_)
    · simp only [go_sem, Nat.reduceEqDiff, FX_ret]
      rw [isW_pos _ _ _ _ (by simpa using e0)]; trivial
    · have e0 : e = 0 := by simpa using e0
      simp only [go_sem, Nat.reduceEqDiff, h15, hw2]
      refine ⟨j - 1, by omega, _, m + 1, by omega, rfl, hg, ⟨by simp only [go_sem, Nat.reduceEqDiff, *], by simp only [go_sem, Nat.reduceEqDiff, *], by simp only [go_sem, Nat.reduceEqDiff, *], by simp only [go_sem, Nat.reduceEqDiff, *], by simp only [go_sem, Nat.reduceEqDiff, *], by simp only [go_sem, Nat.reduceEqDiff, *]⟩, by simp only [go_sem], fun a t hlt' hat => ?_⟩
      rcases Nat.lt_or_ge a m with h | h
      · exact hw a t h hat
      · have : a = m := by omega
        subst this
        rw [hget] at hat; cases hat
        exact he e0
  · have : m = ks.length := by omega
    subst this
    simp only [go_sem, s27_6, FX_ret, isW_i]
    intro _
    exact .mk hv fun a t hat => hw a t (List.getElem?_eq_some_iff.1 hat).1 hat
theorem run27_9 (hi0 : -9223372036854775808 ≤ i) (hi1 : i < 9223372036854775808) (hn : ks.length < n) (hl : ks.length < 9223372036854775807) (hd0 : 0 ≤ d) (hd1 : d < 4611686018427387904)
    (h72 : ∀ (j : Int) h, call (.fn 72 [] []) [.int .i64 k, .int .i64 j] .no h = some (.ret (.int .i64 (binders k j)), .no, h))
    (h27 : ∀ t ∈ ks, ∀ d', 0 ≤ d' → d' ≤ d + 1 → ∃ e, (∀ h, call (.fn 27 [] []) [enc t, .int .i64 d', .int .i64 v, .int .i64 p, .int .i64 q, .int .i64 r] .no h = some (.ret (.int .i64 e), .no, h)) ∧ (e = 0 → WF v t d'))
    (hv : k = 0 → ks = []) (tm : Tm) (h : AH) (hg : h.get 0 = some (.box [.int .i64 k, .int .i64 i, .str nm, .lst (ls.map encL), .lst (ks.map enc)])) (hL : L27 d v p q r tm) :
    R call n [.code s27_9] (FX r27 (isW v (.mk k i nm ls ks) d)) .normal ⟨tm, ⟨[], .no, none, 27⟩⟩ h := by
  have hrun := run27_7 call n k i nm ls ks d v p q r hn hl hd0 hd1 h72 h27
  clear h72 h27
  obtain ⟨g1, g2, g3, g4, g5, g6⟩ := hL
  have L : ∀ tm, nth tm 1 = .int .i64 d → nth tm 2 = .int .i64 v → nth tm 3 = .int .i64 p → nth tm 4 = .int .i64 q → nth tm 5 = .int .i64 r → nth tm 6 = .ptr 0 0 0 → L27 d v p q r tm := fun tm a b c d e f => ⟨a, b, c, d, e, f⟩
  have n24 := isW_pos v (.mk k i nm ls ks) d 24 (by decide)
  have n23 := isW_pos v (.mk k i nm ls ks) d 23 (by decide)
  unfold s27_9
  simp only [go_sem, g6, hg]
  by_cases hk : k = 0
  · have hk12 : decide (k = 12) = false := by simp [hk]
    have hk0 : decide (k = 0) = true := by simp [hk]
    by_cases hi : i < 0
    · simp only [go_sem, Nat.reduceEqDiff, hk0, hi, g6, hg, FX_ret, r27, n24]
    · have hw1 : IntKind.wrap .i64 (i - d) = i - d := wrap_fits _ (by omega) (by omega)
      have hi' : decide (i < 0) = false := by simp [hi]
      simp only [go_sem, Nat.reduceEqDiff, hk0, hi', g1, g2, g6, hg, hw1]
      refine sB_bool (fun hb => ?_) (fun hb => ?_)
      · simp only [go_sem, FX_ret, r27, n24]
      · simp only [go_sem, Nat.reduceEqDiff, s27_8, hk12, g6, hg]
        refine hrun (fun _ => ⟨hv hk, by omega, by have : ¬ (v ≤ i - d) := by simpa using hb
                                                   omega⟩) _ _ hg (L _ (by simp only [go_sem, Nat.reduceEqDiff, g1]) (by simp only [go_sem, Nat.reduceEqDiff, g2]) (by simp only [go_sem, Nat.reduceEqDiff, g3]) (by simp only [go_sem, Nat.reduceEqDiff, g4]) (by simp only [go_sem, Nat.reduceEqDiff, g5]) (by simp only [go_sem, Nat.reduceEqDiff, g6]))
  · have hk0 : decide (k = 0) = false := by simp [hk]
    have hrun := hrun (fun h => absurd h hk)
    simp only [go_sem, Nat.reduceEqDiff, hk0, g6, hg, s27_8]
    cases hk12 : decide (k = 12) with
    | false =>
      simp only [go_sem, Nat.reduceEqDiff]
      exact hrun _ _ hg (L _ (by simp only [go_sem, Nat.reduceEqDiff, g1]) (by simp only [go_sem, Nat.reduceEqDiff, g2]) (by simp only [go_sem, Nat.reduceEqDiff, g3]) (by simp only [go_sem, Nat.reduceEqDiff, g4]) (by simp only [go_sem, Nat.reduceEqDiff, g5]) (by simp only [go_sem, Nat.reduceEqDiff, g6]))
    | true =>
      simp only [go_sem, Nat.reduceEqDiff, g6, hg]
      cases hi : decide (i < 0) with
      | true => simp only [go_sem, Nat.reduceEqDiff, FX_ret, r27, n23]
      | false =>
        simp only [go_sem, Nat.reduceEqDiff, g4, g6, hg]
        refine sB_bool (fun hb => ?_) (fun hb => ?_)
        · simp only [go_sem, FX_ret, r27, n23]
        · simp only [go_sem]
          exact hrun _ _ hg (L _ (by simp only [go_sem, Nat.reduceEqDiff, g1]) (by simp only [go_sem, Nat.reduceEqDiff, g2]) (by simp only [go_sem, Nat.reduceEqDiff, g3]) (by simp only [go_sem, Nat.reduceEqDiff, g4]) (by simp only [go_sem, Nat.reduceEqDiff, g5]) (by simp only [go_sem, Nat.reduceEqDiff, g6]))
def I27a (j : Nat) (fr : AF) (h : AH) : Prop := ∃ tm m, m + j = ls.length ∧ fr = ⟨tm, ⟨[], .no, none, 27⟩⟩ ∧ h.get 0 = some (.box [.int .i64 k, .int .i64 i, .str nm, .lst (ls.map encL), .lst (ks.map enc)]) ∧
  L27 d v p q r tm ∧ nth tm 13 = .int .i64 (m : Int)
theorem formK_var (hf : formK k i nm ls ks = true) : k = 0 → ks = [] := by
  intro hk
  subst hk
  simp only [formK, Bool.and_eq_true, Bool.not_eq_true', Bool.or_eq_false_iff, Bool.not_eq_false', decide_eq_true_eq] at hf
  have h := hf.1.2
  have : kidsOf 0 = 0 := by decide
  rw [this] at h
  exact List.length_eq_zero_iff.1 (by omega)
theorem run27 (hi0 : -9223372036854775808 ≤ i) (hi1 : i < 9223372036854775808) (hn : ks.length < n) (hl : ks.length < 9223372036854775807) (hn2 : ls.length < n) (hl2 : ls.length < 9223372036854775807) (hd0 : 0 ≤ d) (hd1 : d < 4611686018427387904)
    (h69 : ∀ h, call (.fn 69 [] []) [.agg [.int .i64 k, .int .i64 i, .str nm, .lst (ls.map encL), .lst (ks.map enc)]] .no h = some (.ret (.bool (formK k i nm ls ks)), .no, h))
    (h70 : ∃ b, ∀ h, call (.fn 70 [] []) [.str nm] .no h = some (.ret (.bool b), .no, h))
    (h71 : ∀ l ∈ ls, ∃ e, ∀ h, call (.fn 71 [] []) [encL l, .int .i64 p, .int .i64 r] .no h = some (.ret (.int .i64 e), .no, h))
    (h72 : ∀ (j : Int) h, call (.fn 72 [] []) [.int .i64 k, .int .i64 j] .no h = some (.ret (.int .i64 (binders k j)), .no, h))
    (h27 : ∀ t ∈ ks, ∀ d', 0 ≤ d' → d' ≤ d + 1 → ∃ e, (∀ h, call (.fn 27 [] []) [enc t, .int .i64 d', .int .i64 v, .int .i64 p, .int .i64 q, .int .i64 r] .no h = some (.ret (.int .i64 e), .no, h)) ∧ (e = 0 → WF v t d')) :
    R call n [.code b27] (FX r27 (isW v (.mk k i nm ls ks) d)) .normal ⟨startTm [enc (.mk k i nm ls ks), .int .i64 d, .int .i64 v, .int .i64 p, .int .i64 q, .int .i64 r], ⟨[], .no, none, 27⟩⟩ emptyH := by
  have hrun := run27_9 call n k i nm ls ks d v p q r hi0 hi1 hn hl hd0 hd1 h72 h27
  clear h72 h27
  have n3 := isW_pos v (.mk k i nm ls ks) d 3 (by decide)
  have n29 := isW_pos v (.mk k i nm ls ks) d 29 (by decide)
  have n6 := isW_pos v (.mk k i nm ls ks) d 6 (by decide)
  rw [enc_eq]
  unfold b27 emptyH
  cases hf : formK k i nm ls ks with
  | false => simp only [go_sem, Nat.reduceEqDiff, Nat.reduceAdd, reduceCtorEq, s27_13, h69, hf, FX_ret, r27, n3]
  | true =>
    have hrun := hrun (formK_var k i nm ls ks hf)
    have loop : ∀ (tm : Tm) (h : AH), h.get 0 = some (.box [.int .i64 k, .int .i64 i, .str nm, .lst (ls.map encL), .lst (ks.map enc)]) → L27 d v p q r tm → R call n [.code s27_11] (FX r27 (isW v (.mk k i nm ls ks) d)) .normal ⟨tm, ⟨[], .no, none, 27⟩⟩ h := by
      rintro tm h hg ⟨g1, g2, g3, g4, g5, g6⟩
      unfold s27_11
      simp only [go_sem, g6, hg]
      refine sB_bool (fun hb => ?_) (fun hb => ?_)
      · simp only [go_sem, FX_ret, r27, n6]
      · simp only [go_sem, s27_10]
        refine R_loop (I27a k i nm ls ks d v p q r) ls.length hn2 ⟨_, 0, Nat.zero_add _, rfl, hg, ⟨by simp only [go_sem, Nat.reduceEqDiff, *], by simp only [go_sem, Nat.reduceEqDiff, *], by simp only [go_sem, Nat.reduceEqDiff, *], by simp only [go_sem, Nat.reduceEqDiff, *], by simp only [go_sem, Nat.reduceEqDiff, *], by simp only [go_sem, Nat.reduceEqDiff, *]⟩, by simp only [go_sem]; rfl⟩ ?_
        clear g1 g2 g3 g4 g5 g6 hg
        rintro j fr h ⟨tm, m, hm, rfl, hg, ⟨g1, g2, g3, g4, g5, g6⟩, h13⟩
        unfold b27_2
        simp only [go_sem, Nat.reduceEqDiff, hg, g6, h13]
        refine sB_dec (fun hlt => ?_) (fun hge => ?_)
        · have hlt : m < ls.length := by omega
          have hget : ls[m]? = some ls[m] := List.getElem?_eq_getElem hlt
          have ha := fun h => iaddr_map encL_cells hget .i64 h
          obtain ⟨e, hcall⟩ := h71 ls[m] (List.getElem_mem hlt)
          have hw2 := wrap_succ m (by omega)
          simp only [go_sem, Nat.reduceEqDiff, s27_1, hg, g3, g5, g6, h13, ha, hcall, s27_0]
          refine sB_nbool (fun e0 => ?_) (fun e0 => ?_)
          · simp only [go_sem, Nat.reduceEqDiff, FX_ret, r27]
            rw [isW_pos _ _ _ _ (by simpa using e0)]; trivial
          · simp only [go_sem, Nat.reduceEqDiff, h13, hw2]
            exact ⟨j - 1, by omega, _, m + 1, by omega, rfl, hg, ⟨by simp only [go_sem, Nat.reduceEqDiff, *], by simp only [go_sem, Nat.reduceEqDiff, *], by simp only [go_sem, Nat.reduceEqDiff, *], by simp only [go_sem, Nat.reduceEqDiff, *], by simp only [go_sem, Nat.reduceEqDiff, *], by simp only [go_sem, Nat.reduceEqDiff, *]⟩, by simp only [go_sem]⟩
        · simp only [go_sem]
          exact hrun _ _ hg ⟨by simp only [go_sem, Nat.reduceEqDiff, *], by simp only [go_sem, Nat.reduceEqDiff, *], by simp only [go_sem, Nat.reduceEqDiff, *], by simp only [go_sem, Nat.reduceEqDiff, *], by simp only [go_sem, Nat.reduceEqDiff, *], by simp only [go_sem, Nat.reduceEqDiff, *]⟩
    obtain ⟨b, h70⟩ := h70
    clear hrun
    simp only [go_sem, Nat.reduceEqDiff, Nat.reduceAdd, reduceCtorEq, s27_13, h69, hf, s27_12]
    cases hk3 : decide (k = 3) with
    | false =>
      simp only [go_sem, Nat.reduceEqDiff]
      exact loop _ _ (by simp only [go_sem]) ⟨by simp only [go_sem, Nat.reduceEqDiff], by simp only [go_sem, Nat.reduceEqDiff], by simp only [go_sem, Nat.reduceEqDiff], by simp only [go_sem, Nat.reduceEqDiff], by simp only [go_sem, Nat.reduceEqDiff], by simp only [go_sem, Nat.reduceEqDiff]⟩
    | true =>
      simp only [go_sem, Nat.reduceEqDiff, h70]
      cases b with
      | false => simp only [go_sem, FX_ret, r27, n29]
      | true =>
        simp only [go_sem]
        exact loop _ _ (by simp only [go_sem]) ⟨by simp only [go_sem, Nat.reduceEqDiff], by simp only [go_sem, Nat.reduceEqDiff], by simp only [go_sem, Nat.reduceEqDiff], by simp only [go_sem, Nat.reduceEqDiff], by simp only [go_sem, Nat.reduceEqDiff], by simp only [go_sem, Nat.reduceEqDiff]⟩
theorem run7 (e s dp : Int)
    (h27 : ∀ h, call (.fn 27 [] []) [.agg [.int .i64 k, .int .i64 i, .str nm, .lst (ls.map encL), .lst (ks.map enc)], .int .i64 0, .int .i64 (max v 0), .int .i64 p, .int .i64 q, .int .i64 r] .no h = some (.ret (.int .i64 e), .no, h)) (he : e = 0 → WF (max v 0) (.mk k i nm ls ks) 0)
    (h28 : ∀ h, call (.fn 28 [] []) [.agg [.int .i64 k, .int .i64 i, .str nm, .lst (ls.map encL), .lst (ks.map enc)]] .no h = some (.ret (.int .i64 s), .no, h))
    (h29 : ∀ h, call (.fn 29 [] []) [.agg [.int .i64 k, .int .i64 i, .str nm, .lst (ls.map encL), .lst (ks.map enc)]] .no h = some (.ret (.int .i64 dp), .no, h)) :
    R call n [.code b7] (FX r7 (isW (max v 0) (.mk k i nm ls ks) 0)) .normal ⟨startTm [enc (.mk k i nm ls ks), .int .i64 v, .int .i64 p, .int .i64 q, .int .i64 r], ⟨[], .no, none, 7⟩⟩ emptyH := by
  have n5 := isW_pos (max v 0) (.mk k i nm ls ks) 0 5 (by decide)
  have n7 := isW_pos (max v 0) (.mk k i nm ls ks) 0 7 (by decide)
  rw [enc_eq]
  unfold b7 r7 emptyH
  simp only [go_sem, Nat.reduceEqDiff, Nat.reduceAdd, reduceCtorEq, s7_3, h27]
  refine sB_nbool (fun e0 => ?_) (fun e0 => ?_)
  · simp only [go_sem, Nat.reduceEqDiff, FX_ret, isW_i]; exact he
  · have e0 : e = 0 := by simpa using e0
    simp only [go_sem, Nat.reduceEqDiff, Nat.reduceAdd, s7_2, h28]
    refine sB_bool (fun _ => ?_) (fun _ => ?_)
    · simp only [go_sem, FX_ret, n5]
    · simp only [go_sem, Nat.reduceEqDiff, Nat.reduceAdd, s7_1, h29]
      refine sB_bool (fun _ => ?_) (fun _ => ?_)
      · simp only [go_sem, FX_ret, n7]
      · simp only [go_sem, s7_0, FX_ret, isW_i]
        exact fun _ => he e0
end
theorem enc_parts (t : T) : enc t = .agg [.int .i64 t.kind, .int .i64 t.idx, .str t.name, .lst (t.levels.map encL), .lst (t.kids.map enc)] := by
  cases t; rw [enc_eq]; rfl
theorem size_kids (t : T) : size t = 1 + sizes t.kids := by cases t; simp [size, T.kids]
def isN (most : Int) (l : List T) (o : AOut) : Prop := ∃ r : Int, o = .ret (.int .i64 r) ∧ (sizes l < 2305843009213693952 → 0 ≤ r ∧ r ≤ sizes l ∧ (r ≤ most → r = sizes l))
theorem isN_i (most : Int) (l : List T) (r : Int) : isN most l (.ret (.int .i64 r)) = (sizes l < 2305843009213693952 → 0 ≤ r ∧ r ≤ sizes l ∧ (r ≤ most → r = sizes l)) := by
  apply propext
  constructor
  · rintro ⟨e', h, hw⟩; cases h; exact hw
  · intro h; exact ⟨r, rfl, h⟩
theorem wrap_range (x : Int) : IntKind.wrap .i64 x < 9223372036854775808 := by
  have e1 : (2 ^ IntKind.i64.bits : Int) = 18446744073709551616 := rfl
  have e2 : (2 ^ (IntKind.i64.bits - 1) : Int) = 9223372036854775808 := rfl
  have e3 : IntKind.i64.signed = true := rfl
  unfold IntKind.wrap
  simp only [e1, e2, e3, Bool.true_and, decide_eq_true_eq, ge_iff_le]
  split <;> omega
def I24 (most : Int) (l : List T) (j : Nat) (fr : AF) (h : AH) : Prop := ∃ tm m a nx lo ob, m + j = l.length ∧ fr = ⟨tm, ⟨[], .no, none, 24⟩⟩ ∧ h = ⟨nx, lo, ob⟩ ∧
  nth tm 0 = .int .i64 most ∧ nth tm 5 = .int .i64 a ∧ nth tm 8 = .lst (l.map enc) ∧ nth tm 9 = .int .i64 (l.length : Int) ∧ nth tm 10 = .int .i64 (m : Int) ∧
  (sizes l < 2305843009213693952 → 0 ≤ a ∧ a ≤ sizes (l.take m) ∧ (a ≤ most → a = sizes (l.take m)))
theorem run24 (call : CallF) (n : Nat) (most : Int) (l : List T) (hmo : most < 9223372036854775808) (hn : l.length < n) (hl : l.length < 9223372036854775807)
    (hc : ∀ t ∈ l, ∀ m', m' < 9223372036854775808 → ∃ r : Int, (∀ h, call (.fn 24 [] []) [.int .i64 m', .lst (t.kids.map enc)] .no h = some (.ret (.int .i64 r), .no, h)) ∧ (sizes t.kids < 2305843009213693952 → 0 ≤ r ∧ r ≤ sizes t.kids ∧ (r ≤ m' → r = sizes t.kids))) :
    R call n [.code b24] (FX r24 (isN most l)) .normal ⟨startTm [.int .i64 most, .lst (l.map enc)], ⟨[], .no, none, 24⟩⟩ emptyH := by
  unfold b24 emptyH
  simp only [go_sem, Nat.reduceEqDiff, s24_6, s24_5]
  refine R_loop (I24 most l) l.length hn ⟨_, 0, 0, _, _, _, Nat.zero_add _, rfl, rfl, by simp only [go_sem, reduceCtorEq], by simp only [go_sem, Nat.reduceEqDiff], by simp only [go_sem, Nat.reduceEqDiff], by simp only [go_sem, Nat.reduceEqDiff], by simp only [go_sem]; rfl, by simp [sizes]⟩ ?_
  rintro j fr h ⟨tm, m, a, nx, lo, ob, hm, rfl, rfl, g0, g5, g8, g9, g10, hA⟩
  unfold b24_3
  simp only [go_sem, s24_2, g10, g9]
  refine sB_dec (fun hlt => ?_) (fun hge => ?_)
  · have hlt : m < l.length := by omega
    have hget : l[m]? = some l[m] := List.getElem?_eq_getElem hlt
    have ha := fun h => iaddr_map enc_cells hget .i64 h
    have hep := enc_parts l[m]
    have hst := sizes_take l m _ hget
    have hsl := sizes_take_le l (m + 1)
    have hsk := size_kids l[m]
    have hw2 := wrap_succ m (by omega)
    simp only [go_sem, Nat.reduceEqDiff, Nat.reduceAdd, reduceCtorEq, s24_1, g8, g10, ha, s24_0, g0, g5, hep]
    refine sB_dec (fun hgt => ?_) (fun hle => ?_)
    · simp only [go_sem, Nat.reduceEqDiff, FX_ret, r24, isN_i, g5]
      intro hs
      have := hA hs
      have := sizes_take_le l m
      omega
    · obtain ⟨r, hcall, hr⟩ := hc l[m] (List.getElem_mem hlt) (IntKind.wrap .i64 (most - a)) (wrap_range _)
      simp only [go_sem, Nat.reduceEqDiff, reduceCtorEq, g0, g5, g10, hcall, hw2]
      refine ⟨j - 1, by omega, _, m + 1, IntKind.wrap .i64 (a + IntKind.wrap .i64 (1 + r)), _, _, _, by omega, rfl, rfl, by simp only [go_sem, reduceCtorEq, *], by simp only [go_sem, Nat.reduceEqDiff, *], by simp only [go_sem, Nat.reduceEqDiff, *], by simp only [go_sem, Nat.reduceEqDiff, *], by simp only [go_sem, *], fun hs => ?_⟩
      obtain ⟨b1, b2, b3⟩ := hA hs
      have b4 := b3 (by omega)
      have w1 : IntKind.wrap .i64 (most - a) = most - a := wrap_fits _ (by omega) (by omega)
      rw [w1] at hr
      obtain ⟨c1, c2, c3⟩ := hr (by omega)
      have w2 : IntKind.wrap .i64 (1 + r) = 1 + r := wrap_fits _ (by omega) (by omega)
      have w3 : IntKind.wrap .i64 (a + (1 + r)) = a + (1 + r) := wrap_fits _ (by omega) (by omega)
      rw [w2, w3]
      refine ⟨by omega, by omega, fun hq => ?_⟩
      have := c3 (by omega)
      omega
  · have : m = l.length := by omega
    subst this
    rw [List.take_length] at hA
    simp only [go_sem, Nat.reduceEqDiff, s24_4, g5, FX_ret, r24, isN_i]
    exact hA
theorem run26 (call : CallF) (n : Nat) (x : LL) : R call n [.code b26] (FQ r26 (.ret (.bool (decide ((20 : Int) < (x.vars.length : Int)))))) .normal ⟨startTm [encL x], ⟨[], .no, none, 26⟩⟩ emptyH := by
  unfold b26 emptyH encL
  simp only [go_sem, Nat.reduceEqDiff, Nat.reduceAdd, s26_0, r26]
def I68 (l : List LL) (j : Nat) (fr : AF) (_h : AH) : Prop := ∃ tm m, m + j = l.length ∧ fr = ⟨tm, ⟨[], .no, none, 68⟩⟩ ∧ nth tm 0 = .lst (l.map encL) ∧ nth tm 1 = .fn 26 [] [] ∧ nth tm 7 = .int .i64 (l.length : Int) ∧ nth tm 8 = .int .i64 (m : Int) ∧ ∀ x ∈ l.take m, x.vars.length ≤ 20
def isX (l : List LL) (o : AOut) : Prop := ∃ e : Int, o = .ret (.int .i64 e) ∧ (e < 0 → ∀ x ∈ l, x.vars.length ≤ 20)
theorem isX_i (l : List LL) (e : Int) : isX l (.ret (.int .i64 e)) = (e < 0 → ∀ x ∈ l, x.vars.length ≤ 20) := by
  apply propext
  constructor
  · rintro ⟨e', h, hw⟩; cases h; exact hw
  · intro h; exact ⟨e, rfl, h⟩
theorem run68 (call : CallF) (n : Nat) (l : List LL) (hn : l.length < n) (hl : l.length < 9223372036854775807) (hc : ∀ x ∈ l, ∀ h, call (.fn 26 [] []) [encL x] .no h = some (.ret (.bool (decide ((20 : Int) < (x.vars.length : Int)))), .no, h)) :
    R call n [.code b68] (FX r68 (isX l)) .normal ⟨startTm [.lst (l.map encL), .fn 26 [] []], ⟨[], .no, none, 68⟩⟩ emptyH := by
  unfold b68 emptyH
  simp only [go_sem, reduceCtorEq, s68_5]
  refine R_loop (I68 l) l.length hn ⟨_, 0, Nat.zero_add _, rfl, by simp only [go_sem, reduceCtorEq], by simp only [go_sem, Nat.reduceEqDiff], by simp only [go_sem, Nat.reduceEqDiff], by simp only [go_sem]; rfl, by simp⟩ ?_
  rintro j fr h ⟨tm, m, hm, rfl, g0, g1, g7, g8, hA⟩
  unfold b68_3
  simp only [go_sem, s68_2, g7, g8]
  refine sB_dec (fun hlt => ?_) (fun hge => ?_)
  · have hlt : m < l.length := by omega
    have hget : l[m]? = some l[m] := List.getElem?_eq_getElem hlt
    have ha := fun h => iaddr_map encL_cells hget .i64 h
    have hcall := hc l[m] (List.getElem_mem hlt)
    have hw2 := wrap_succ m (by omega)
    simp only [go_sem, Nat.reduceEqDiff, reduceCtorEq, s68_1, s68_0, g0, g1, g8, ha, hcall]
    refine sB_bool (fun hb => ?_) (fun hb => ?_)
    · simp only [go_sem, Nat.reduceEqDiff, FX_ret, r68, isX_i]
      intro h; omega
    · have hb' : ¬ ((20 : Int) < (l[m].vars.length : Int)) := by simpa using hb
      simp only [go_sem, Nat.reduceEqDiff, g8, hw2]
      refine ⟨j - 1, by omega, _, m + 1, by omega, rfl, by simp only [go_sem, reduceCtorEq, *], by simp only [go_sem, Nat.reduceEqDiff, *], by simp only [go_sem, Nat.reduceEqDiff, *], by simp only [go_sem, *], fun x hx => ?_⟩
      rw [List.take_succ_eq_append_getElem hlt] at hx
      simp only [List.mem_append, List.mem_singleton] at hx
      rcases hx with hx | rfl
      · exact hA x hx
      · omega
  · have : m = l.length := by omega
    subst this
    rw [List.take_length] at hA
    simp only [go_sem, Int.reduceLT, Int.reduceNeg, s68_4, FX_ret, r68, isX_i]
    exact fun _ => hA
def isY (l : List LL) (o : AOut) : Prop := ∃ b : Bool, o = .ret (.bool b) ∧ (b = false → ∀ x ∈ l, x.vars.length ≤ 20)
theorem run25 (call : CallF) (n : Nat) (l : List LL) (e : Int) (he : e < 0 → ∀ x ∈ l, x.vars.length ≤ 20) (hc : ∀ h, call (.fn 68 [] []) [.lst (l.map encL), .fn 26 [] []] .no h = some (.ret (.int .i64 e), .no, h)) :
    R call n [.code b25] (FX r25 (isY l)) .normal ⟨startTm [.lst (l.map encL), .fn 26 [] []], ⟨[], .no, none, 25⟩⟩ emptyH := by
  unfold b25 emptyH
  simp only [go_sem, Nat.reduceEqDiff, reduceCtorEq, s25_0, hc, FX_ret, r25]
  exact ⟨_, rfl, fun h => he (by simpa using h)⟩
inductive Short : T → Prop
  | mk {k i : Int} {nm : ByteArray} {ls : List LL} {ks : List T} (h1 : ls.length ≤ 20) (h2 : ∀ x ∈ ls, x.vars.length ≤ 20) (h3 : ∀ t ∈ ks, Short t) : Short (.mk k i nm ls ks)
theorem Short.of {t : T} (h1 : t.levels.length ≤ 20) (h2 : ∀ x ∈ t.levels, x.vars.length ≤ 20) (h3 : ∀ s ∈ t.kids, Short s) : Short t := by cases t; exact .mk h1 h2 h3
def isF (l : List T) (o : AOut) : Prop := ∃ b, o = .ret (.bool b) ∧ (b = true → sizes l ≤ 200 ∧ ∀ t ∈ l, Short t)
theorem isF_b (l : List T) (b : Bool) : isF l (.ret (.bool b)) = (b = true → sizes l ≤ 200 ∧ ∀ t ∈ l, Short t) := by
  apply propext
  constructor
  · rintro ⟨e', h, hw⟩; cases h; exact hw
  · intro h; exact ⟨b, rfl, h⟩
theorem isF_f (l : List T) : isF l (.ret (.bool false)) = True := by rw [isF_b]; exact eq_true (by simp)
theorem sizes_bound (l : List T) (h : ∀ (a : Nat) t, l[a]? = some t → sizes t.kids ≤ 200) : sizes l ≤ 201 * l.length := by
  induction l with
  | nil => simp [sizes]
  | cons t l ih =>
    have h0 := h 0 t rfl
    have := ih fun a t ha => h (a + 1) t (by simpa using ha)
    simp only [sizes, size_kids, List.length_cons]
    omega
def I6 (l : List T) (j : Nat) (fr : AF) (h : AH) : Prop := ∃ tm m nx lo ob, m + j = l.length ∧ fr = ⟨tm, ⟨[], .no, none, 6⟩⟩ ∧ h = ⟨nx, lo, ob⟩ ∧
  nth tm 8 = .lst (l.map enc) ∧ nth tm 9 = .int .i64 (l.length : Int) ∧ nth tm 10 = .int .i64 (m : Int) ∧ ∀ (a : Nat) t, a < m → l[a]? = some t → sizes t.kids ≤ 200 ∧ Short t
theorem run6 (call : CallF) (n : Nat) (l : List T) (hn : l.length < n) (hl : l.length < 1125899906842624)
    (h24 : ∃ r : Int, (∀ h, call (.fn 24 [] []) [.int .i64 200, .lst (l.map enc)] .no h = some (.ret (.int .i64 r), .no, h)) ∧ (sizes l < 2305843009213693952 → 0 ≤ r ∧ r ≤ sizes l ∧ (r ≤ 200 → r = sizes l)))
    (h25 : ∀ t ∈ l, ∃ b, (∀ h, call (.fn 25 [] []) [.lst (t.levels.map encL), .fn 26 [] []] .no h = some (.ret (.bool b), .no, h)) ∧ (b = false → ∀ x ∈ t.levels, x.vars.length ≤ 20))
    (h6 : ∀ t ∈ l, ∃ b, (∀ h, call (.fn 6 [] []) [.lst (t.kids.map enc)] .no h = some (.ret (.bool b), .no, h)) ∧ (b = true → sizes t.kids ≤ 200 ∧ ∀ s ∈ t.kids, Short s)) :
    R call n [.code b6] (FX r6 (isF l)) .normal ⟨startTm [.lst (l.map enc)], ⟨[], .no, none, 6⟩⟩ emptyH := by
  obtain ⟨r, h24, hr⟩ := h24
  unfold b6 emptyH
  simp only [go_sem, reduceCtorEq, s6_6, h24]
  refine sB_dec (fun hgt => ?_) (fun hle => ?_)
  · simp only [go_sem, FX_ret, r6, isF_f]
  simp only [go_sem, reduceCtorEq, s6_5]
  refine R_loop (I6 l) l.length hn ⟨_, 0, _, _, _, Nat.zero_add _, rfl, rfl, by simp only [go_sem, Nat.reduceEqDiff], by simp only [go_sem, Nat.reduceEqDiff], by simp only [go_sem]; rfl, fun a t ha => absurd ha (Nat.not_lt_zero _)⟩ ?_
  rintro j fr h ⟨tm, m, nx, lo, ob, hm, rfl, rfl, g8, g9, g10, hA⟩
  unfold b6_3
  simp only [go_sem, s6_2, g10, g9]
  refine sB_dec (fun hlt => ?_) (fun hge => ?_)
  · have hlt : m < l.length := by omega
    have hget : l[m]? = some l[m] := List.getElem?_eq_getElem hlt
    have ha := fun h => iaddr_map enc_cells hget .i64 h
    have hep := enc_parts l[m]
    have hw2 := wrap_succ m (by omega)
    obtain ⟨b25, h25, hb25⟩ := h25 l[m] (List.getElem_mem hlt)
    obtain ⟨b6, h6, hb6⟩ := h6 l[m] (List.getElem_mem hlt)
    have next : ∀ (tm : Tm) (nx lo : Nat) (ob : Tr AObj), b6 = true → Short l[m] → nth tm 8 = .lst (l.map enc) → nth tm 9 = .int .i64 (l.length : Int) → nth tm 10 = .int .i64 ((m + 1 : Nat) : Int) →
        ∃ j', j' < j ∧ I6 l j' ⟨tm, ⟨[], .no, none, 6⟩⟩ ⟨nx, lo, ob⟩ := by
      intro tm nx lo ob hb hsh q1 q2 q3
      refine ⟨j - 1, by omega, tm, m + 1, nx, lo, ob, by omega, rfl, rfl, q1, q2, q3, fun a t hlt' hat => ?_⟩
      rcases Nat.lt_or_ge a m with h | h
      · exact hA a t h hat
      · have : a = m := by omega
        subst this
        rw [hget] at hat; cases hat
        exact ⟨(hb6 hb).1, hsh⟩
    simp only [go_sem, Nat.reduceEqDiff, Nat.reduceAdd, s6_1, g8, g10, ha, s6_0, hep]
    refine sG_nbool (fun a1 => ?_) (fun a1 => ?_)
    · simp only [go_sem, Nat.reduceEqDiff, a1]
      cases a2 : decide ((20 : Int) < (l[m].levels.length : Int)) with
      | true => simp only [go_sem, Nat.reduceEqDiff, FX_ret, r6, isF_f]
      | false =>
        simp only [go_sem, Nat.reduceEqDiff, h25]
        cases b25 with
        | true => simp only [go_sem, Nat.reduceEqDiff, FX_ret, r6, isF_f]
        | false =>
          simp only [go_sem, Nat.reduceEqDiff, h6]
          cases b6 with
          | false => simp only [go_sem, FX_ret, r6, isF_f]
          | true =>
            simp only [go_sem, Nat.reduceEqDiff, g10, hw2]
            exact next _ _ _ _ rfl (.of (by simp at a2; omega) (hb25 rfl) (hb6 rfl).2) (by simp only [go_sem, Nat.reduceEqDiff, *]) (by simp only [go_sem, Nat.reduceEqDiff, *]) (by simp only [go_sem, *])
    · simp only [go_sem, Nat.reduceEqDiff, a1, FX_ret, r6, isF_f]
  · have : m = l.length := by omega
    subst this
    simp only [go_sem, s6_4, FX_ret, r6, isF_b]
    intro _
    have hb := sizes_bound l fun a t hat => (hA a t (List.getElem?_eq_some_iff.1 hat).1 hat).1
    have := hr (by omega)
    refine ⟨by omega, fun t ht => ?_⟩
    obtain ⟨a, hla, rfl⟩ := List.mem_iff_getElem.1 ht
    exact (hA a _ hla (List.getElem?_eq_getElem hla)).2
theorem bin_structV (x : LV) : evBin (encV x) .neq (.struct [(0, 1), (1, 1)]) (encV x) = some (.bool false) := by
  have e : ∀ i : Int, sameKey 1 (.int .i64 i) (.int .i64 i) = some true := by
    intro i
    show cond (beqK .i64 .i64) (some (beqI i i)) none = _
    rw [beqI_eq, beqK_self]; simp
  show bindO (bindO (sameKey 1 (.int .i64 x.idx) (.int .i64 x.idx)) fun s => cond s (bindO (sameKey 1 (.int .i64 x.plus) (.int .i64 x.plus)) fun s => cond s (some true) (some false)) (some false)) (fun b => some (AV.bool (!b))) = _
  rw [e, e]; rfl
def I58 (x : LL) (j : Nat) (fr : AF) (h : AH) : Prop := ∃ tm m, m + j = x.vars.length ∧ fr = ⟨tm, ⟨[], .no, none, 58⟩⟩ ∧ h.get 0 = some (.box [.int .i64 x.c, .lst (x.vars.map encV)]) ∧ h.get 1 = some (.box [.int .i64 x.c, .lst (x.vars.map encV)]) ∧
  nth tm 2 = .ptr 0 0 0 ∧ nth tm 3 = .ptr 1 0 0 ∧ nth tm 5 = .int .i64 (m : Int)
theorem run58 (call : CallF) (n : Nat) (x : LL) (hn : x.vars.length < n) (hl : x.vars.length < 9223372036854775807) :
    R call n [.code b58] (FQ r58 (.ret (.bool true))) .normal ⟨startTm [encL x, encL x], ⟨[], .no, none, 58⟩⟩ emptyH := by
  unfold b58 emptyH encL
  simp only [go_sem, Nat.reduceEqDiff, Nat.reduceAdd, reduceCtorEq, s58_4, s58_3]
  refine R_loop (I58 x) x.vars.length hn ⟨_, 0, Nat.zero_add _, rfl, by simp only [go_sem, reduceCtorEq], by simp only [go_sem], by simp only [go_sem, Nat.reduceEqDiff], by simp only [go_sem, Nat.reduceEqDiff], by simp only [go_sem]; rfl⟩ ?_
  rintro j fr h ⟨tm, m, hm, rfl, hg0, hg1, g2, g3, g5⟩
  unfold b58_1
  simp only [go_sem, Nat.reduceEqDiff, hg0, g2, g5]
  refine sB_dec (fun hlt => ?_) (fun hge => ?_)
  · have hlt : m < x.vars.length := by omega
    have hget : x.vars[m]? = some x.vars[m] := List.getElem?_eq_getElem hlt
    have ha := fun h => iaddr_map encV_cells hget .i64 h
    have hw2 := wrap_succ m (by omega)
    simp only [go_sem, Nat.reduceEqDiff, s58_0, hg0, hg1, g2, g3, g5, ha, bin_structV, hw2]
    exact ⟨j - 1, by omega, _, m + 1, by omega, rfl, hg0, hg1, by simp only [go_sem, Nat.reduceEqDiff, *], by simp only [go_sem, Nat.reduceEqDiff, *], by simp only [go_sem, *]⟩
  · simp only [go_sem, s58_2, r58]
theorem encI_cells (x : Int) : (encI x).cells.length = 1 := rfl
end Go.Proofs.YtnacljdablhbgaaGreat
