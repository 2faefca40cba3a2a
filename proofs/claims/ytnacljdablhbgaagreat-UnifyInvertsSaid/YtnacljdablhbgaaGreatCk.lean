/- UnifyInverts: the contracts of the small functions hold (no condition). -/
import Derived.Test.YtnacljdablhbgaaGreatCj
namespace Go.Proofs.YtnacljdablhbgaaGreat
open Go.AG

inductive Fit : T → Prop
  | mk {k i : Int} {nm : ByteArray} {ls : List LL} {ks : List T} (h1 : -9223372036854775808 ≤ i) (h2 : i < 9223372036854775808) (h3 : nm.size < 1125899906842624) (h4 : ls.length < 1125899906842624) (h5 : ∀ x ∈ ls, x.vars.length < 1125899906842624)
      (h6 : ks.length < 1125899906842624) (h7 : ∀ t ∈ ks, Fit t) : Fit (.mk k i nm ls ks)

theorem freeI {o : AOut} (h : isI o) : o.free = true := by obtain ⟨e, rfl⟩ := h; simp [AOut.free, AV.free]
theorem freeB {o : AOut} (h : isB o) : o.free = true := by obtain ⟨e, rfl⟩ := h; simp [AOut.free, AV.free]

theorem A72 (x : Int × Int) : ∃ o, o = .ret (.int .i64 (binders x.1 x.2)) ∧ Ans CI (.fn 72 [] []) (aII x) o :=
  ans_of (n := 0) G_both.1 cf72 (pureI 72) (by simp [aII, AV.frees, AV.free]) (by rintro o rfl; simp [AOut.free, AV.free]) (FQ_FX (run72 G 0 x.1 x.2))
theorem g72 (k j : Int) (h : AH) : G (.fn 72 [] []) [.int .i64 k, .int .i64 j] .no h = some (.ret (.int .i64 (binders k j)), .no, h) := by
  obtain ⟨o, rfl, hu⟩ := mkS_use (G_both.2 S72 (by simp [allS])) (k, j) (A72 (k, j))
  exact hu _ h (by simp [aII, AV.norms, AV.norm])
theorem A128 (x : Int × Int) : ∃ o, o = .ret (.int .i64 (binders x.1 x.2)) ∧ Ans CI (.fn 128 [] []) (aII x) o :=
  ans_of (n := 0) G_both.1 cf128 (pureI 128) (by simp [aII, AV.frees, AV.free]) (by rintro o rfl; simp [AOut.free, AV.free]) (FQ_FX (run128 G 0 x.1 x.2))
theorem g128 (k j : Int) (h : AH) : G (.fn 128 [] []) [.int .i64 k, .int .i64 j] .no h = some (.ret (.int .i64 (binders k j)), .no, h) := by
  obtain ⟨o, rfl, hu⟩ := mkS_use (G_both.2 S128 (by simp [allS])) (k, j) (A128 (k, j))
  exact hu _ h (by simp [aII, AV.norms, AV.norm])
theorem A117 (x : Int) : ∃ o, o = .ret (.bool (letter x)) ∧ Ans CI (.fn 117 [] []) (aU x) o :=
  ans_of (n := 0) G_both.1 cf117 (pureI 117) (by simp [aU, AV.frees, AV.free]) (by rintro o rfl; simp [AOut.free, AV.free]) (FQ_FX (run117 G 0 x))
theorem g117 (c : Int) (h : AH) : G (.fn 117 [] []) [.int .u8 c] .no h = some (.ret (.bool (letter c)), .no, h) := by
  obtain ⟨o, rfl, hu⟩ := mkS_use (G_both.2 S117 (by simp [allS])) c (A117 c)
  exact hu _ h (by simp [aU, AV.norms, AV.norm])
theorem A116 (x : Int) : ∃ o, o = .ret (.int .i64 (kidsOf x)) ∧ Ans CI (.fn 116 [] []) (aI x) o :=
  ans_of (n := 0) G_both.1 cf116 (pureI 116) (by simp [aI, AV.frees, AV.free]) (by rintro o rfl; simp [AOut.free, AV.free]) (FQ_FX (run116 G 0 x))
theorem g116 (c : Int) (h : AH) : G (.fn 116 [] []) [.int .i64 c] .no h = some (.ret (.int .i64 (kidsOf c)), .no, h) := by
  obtain ⟨o, rfl, hu⟩ := mkS_use (G_both.2 S116 (by simp [allS])) c (A116 c)
  exact hu _ h (by simp [aI, AV.norms, AV.norm])
theorem A89 (x : Int) (hx : x ≤ 65535) : ∃ o, o = .ret (enc (.mk 0 x (bs []) [] [])) ∧ Ans CI (.fn 89 [] []) (aI x) o :=
  ans_of (n := 0) G_both.1 cf89 (pureI 89) (by simp [aI, AV.frees, AV.free]) (by rintro o rfl; simp [AOut.free, enc_free]) (FQ_FX (run89 G 0 x hx))
theorem g89 (x : Int) (hx : x ≤ 65535) (h : AH) : G (.fn 89 [] []) [.int .i64 x] .no h = some (.ret (enc (.mk 0 x (bs []) [] [])), .no, h) := by
  obtain ⟨o, rfl, hu⟩ := mkS_use (G_both.2 S89 (by simp [allS])) x (A89 x hx)
  exact hu _ h (by simp [aI, AV.norms, AV.norm])
theorem A87 (k i : Int) (nm : ByteArray) (ls : List LL) (ks : List T) (h1 : ls.length ≤ 20) (h2 : ∀ x ∈ ls, x.vars.length ≤ 20) : ∃ o, o = .ret (enc (.mk k i nm ls [])) ∧ Ans CI (.fn 87 [] []) (aT (.mk k i nm ls ks)) o :=
  ans_of (n := 21) G_both.1 cf87 (pureI 87) (by simp [aT, AV.frees, enc_free]) (by rintro o rfl; simp [AOut.free, enc_free]) (FQ_FX (run87 G 21 k i nm ls ks (by omega) h1 h2))
theorem g87 (k i : Int) (nm : ByteArray) (ls : List LL) (ks : List T) (h : AH) (h1 : ls.length ≤ 20) (h2 : ∀ x ∈ ls, x.vars.length ≤ 20) : G (.fn 87 [] []) [.agg [.int .i64 k, .int .i64 i, .str nm, .lst (ls.map encL), .lst (ks.map enc)]] .no h = some (.ret (enc (.mk k i nm ls [])), .no, h) := by
  obtain ⟨o, rfl, hu⟩ := mkS_use (G_both.2 S87 (by simp [allS])) (.mk k i nm ls ks) (A87 k i nm ls ks h1 h2)
  exact hu _ h (by rw [← enc_eq]; simp [aT, AV.norms, enc_norm])
theorem A69 (k i : Int) (nm : ByteArray) (ls : List LL) (ks : List T) : ∃ o, o = .ret (.bool (formT (.mk k i nm ls ks))) ∧ Ans CI (.fn 69 [] []) (aT (.mk k i nm ls ks)) o :=
  ans_of (n := 0) G_both.1 cf69 (pureI 69) (by simp [aT, AV.frees, enc_free]) (by rintro o rfl; simp [AOut.free, AV.free]) (FQ_FX (run69 G 0 k i nm ls ks (g116 k)))
theorem g69 (k i : Int) (nm : ByteArray) (ls : List LL) (ks : List T) (h : AH) : G (.fn 69 [] []) [.agg [.int .i64 k, .int .i64 i, .str nm, .lst (ls.map encL), .lst (ks.map enc)]] .no h = some (.ret (.bool (formK k i nm ls ks)), .no, h) := by
  obtain ⟨o, rfl, hu⟩ := mkS_use (G_both.2 S69 (by simp [allS])) (.mk k i nm ls ks) (A69 k i nm ls ks)
  exact hu _ h (by rw [← enc_eq]; simp [aT, AV.norms, enc_norm])
theorem A21 (x : LL) (hl : x.vars.length < 1125899906842624) : ∃ o, isB o ∧ Ans CI (.fn 21 [] []) (aL x) o :=
  ans_of (n := x.vars.length + 1) G_both.1 cf21 (pureI 21) (by simp [aL, AV.frees, encL_free]) (fun _ => freeB) (run21 G _ x.c x.vars (by omega) (by omega))
theorem A70 (s : ByteArray) (hl : s.size < 1125899906842624) : ∃ o, isB o ∧ Ans CI (.fn 70 [] []) (aS s) o :=
  ans_of (n := s.size + 1) G_both.1 cf70 (pureI 70) (by simp [aS, AV.frees, AV.free]) (fun _ => freeB) (run70 G _ s (by omega) (by omega) g117)
theorem A71 (x : LL) (p q : Int) (hl : x.vars.length < 1125899906842624) : ∃ o, isI o ∧ Ans CI (.fn 71 [] []) (aLII (x, p, q)) o := by
  obtain ⟨o, ⟨b, rfl⟩, hu⟩ := mkS_use (G_both.2 S21 (by simp [allS])) x (A21 x hl)
  exact ans_of (n := x.vars.length + 1) G_both.1 cf71 (pureI 71) (by simp [aLII, AV.frees, AV.free, encL_free]) (fun _ => freeI) (run71 G _ x p q b (by omega) (by omega) (fun h => hu _ h (by simp [aL, AV.norms, encL_norm])))

theorem A28 : ∀ n t, size t ≤ n → n ≤ 10000 → ∃ o, o = .ret (.int .i64 (size t)) ∧ Ans CI (.fn 28 [] []) (aT t) o := by
  intro n
  induction n with
  | zero => intro t h; have := size_pos t; omega
  | succ n ih =>
    rintro ⟨k, i, nm, ls, ks⟩ h hn
    simp only [size] at h
    have hl := length_sizes ks
    refine ans_of (n := 20000) G_both.1 cf28 (pureI 28) (by simp [aT, AV.frees, enc_free]) (by rintro o rfl; simp [AOut.free, AV.free]) (FQ_FX (run28 G 20000 k i nm ls ks (by omega) (by omega) (by omega) (fun t ht h' => ?_)))
    obtain ⟨a, ha, rfl⟩ := List.mem_iff_getElem.1 ht
    have hs := size_mem (List.getElem?_eq_getElem ha)
    obtain ⟨o, rfl, hu⟩ := mkS_use (G_both.2 S28 (by simp [allS])) ks[a] (ih _ (by omega) (by omega))
    exact hu _ h' (by simp [aT, AV.norms, enc_norm])

theorem A29 : ∀ n t, size t ≤ n → n ≤ 10000 → ∃ o, isI o ∧ Ans CI (.fn 29 [] []) (aT t) o := by
  intro n
  induction n with
  | zero => intro t h; have := size_pos t; omega
  | succ n ih =>
    rintro ⟨k, i, nm, ls, ks⟩ h hn
    simp only [size] at h
    have hl := length_sizes ks
    refine ans_of (n := 20000) G_both.1 cf29 (pureI 29) (by simp [aT, AV.frees, enc_free]) (fun _ => freeI) (run29 G 20000 k i nm ls ks (by omega) (by omega) (fun t ht => ?_))
    obtain ⟨a, ha, rfl⟩ := List.mem_iff_getElem.1 ht
    have hs := size_mem (List.getElem?_eq_getElem ha)
    obtain ⟨o, ⟨e, rfl⟩, hu⟩ := mkS_use (G_both.2 S29 (by simp [allS])) ks[a] (ih _ (by omega) (by omega))
    exact ⟨e, fun h' => hu _ h' (by simp [aT, AV.norms, enc_norm])⟩

theorem freeW {v : Int} {t : T} {d : Int} {o : AOut} (h : isW v t d o) : o.free = true := by obtain ⟨e, rfl, _⟩ := h; simp [AOut.free, AV.free]

theorem A27 : ∀ (n : Nat) (t : T) (d v p q r : Int), size t ≤ n → n ≤ 10000 → Fit t → 0 ≤ d → d + (n : Int) ≤ 20000 → ∃ o, isW v t d o ∧ Ans CI (.fn 27 [] []) (aChk (t, d, v, p, q, r)) o := by
  intro n
  induction n with
  | zero => intro t d v p q r h; have := size_pos t; omega
  | succ n ih =>
    rintro ⟨k, i, nm, ls, ks⟩ d v p q r h hn hf hd0 hd1
    obtain ⟨f1, f2, f3, f4, f5, f6, f7⟩ := hf
    simp only [size] at h
    have hl := length_sizes ks
    refine ans_of (n := 20000 + ls.length) G_both.1 cf27 (pureI 27) (by simp [aChk, AV.frees, AV.free, enc_free]) (fun _ => freeW) (run27 G _ k i nm ls ks d v p q r f1 f2 (by omega) (by omega) (by omega) (by omega) hd0 (by omega) (g69 k i nm ls ks) ?_ (fun l hlm => ?_) (g72 k) (fun t ht d' e1 e2 => ?_))
    · obtain ⟨o, ⟨b, rfl⟩, hu⟩ := mkS_use (G_both.2 S70 (by simp [allS])) nm (A70 nm f3)
      exact ⟨b, fun h' => hu _ h' (by simp [aS, AV.norms, AV.norm])⟩
    · obtain ⟨o, ⟨e, rfl⟩, hu⟩ := mkS_use (G_both.2 S71 (by simp [allS])) (l, p, r) (A71 l p r (f5 l hlm))
      exact ⟨e, fun h' => hu _ h' (by simp [aLII, AV.norms, AV.norm, encL_norm])⟩
    · obtain ⟨a, ha, rfl⟩ := List.mem_iff_getElem.1 ht
      have hs := size_mem (List.getElem?_eq_getElem ha)
      obtain ⟨o, ⟨e, rfl, he⟩, hu⟩ := mkS_use (G_both.2 S27 (by simp [allS])) (ks[a], d', v, p, q, r) (ih ks[a] d' v p q r (by omega) (by omega) (f7 _ ht) e1 (by omega))
      exact ⟨e, fun h' => hu _ h' (by simp [aChk, AV.norms, AV.norm, enc_norm]), he⟩

theorem A7 (t : T) (v p q r : Int) (hs : size t ≤ 10000) (hf : Fit t) : ∃ o, isW (max v 0) t 0 o ∧ Ans CI (.fn 7 [] []) (aChk7 (t, v, p, q, r)) o := by
  obtain ⟨o1, ⟨e, rfl, he⟩, u1⟩ := mkS_use (G_both.2 S27 (by simp [allS])) (t, 0, max v 0, p, q, r) (A27 10000 t 0 (max v 0) p q r hs (Nat.le_refl _) hf (by omega) (by omega))
  obtain ⟨o2, rfl, u2⟩ := mkS_use (G_both.2 S28 (by simp [allS])) t (A28 10000 t hs (Nat.le_refl _))
  obtain ⟨o3, ⟨dp, rfl⟩, u3⟩ := mkS_use (G_both.2 S29 (by simp [allS])) t (A29 10000 t hs (Nat.le_refl _))
  obtain ⟨k, i, nm, ls, ks⟩ := t
  exact ans_of (n := 0) G_both.1 cf7 (pureI 7) (by simp [aChk7, AV.frees, AV.free, enc_free]) (fun _ => freeW) (run7 G 0 k i nm ls ks v p q r e _ dp (fun h => u1 _ h (by rw [← enc_eq]; simp [aChk, AV.norms, AV.norm, enc_norm])) he (fun h => u2 _ h (by rw [← enc_eq]; simp [aT, AV.norms, enc_norm])) (fun h => u3 _ h (by rw [← enc_eq]; simp [aT, AV.norms, enc_norm])))

end Go.Proofs.YtnacljdablhbgaaGreat

/- UnifyInverts: the contracts of Few, Same, Index, Free (no condition). -/
namespace Go.Proofs.YtnacljdablhbgaaGreat
open Go.AG

theorem encI_frees (l : List Int) : AV.frees (l.map AG.encI) = true := frees_map encI_free l
theorem encL_frees (l : List LL) : AV.frees (l.map encL) = true := frees_map encL_free l
theorem Fit_kids {t : T} (h : Fit t) : t.kids.length < 1125899906842624 ∧ ∀ s ∈ t.kids, Fit s := by
  obtain ⟨h1, h2, h3, h4, h5, h6, h7⟩ := h; exact ⟨h6, h7⟩
theorem Fit_levels {t : T} (h : Fit t) : t.levels.length < 1125899906842624 ∧ ∀ x ∈ t.levels, x.vars.length < 1125899906842624 := by
  obtain ⟨h1, h2, h3, h4, h5, h6, h7⟩ := h; exact ⟨h4, h5⟩

theorem freeN {m : Int} {l : List T} {o : AOut} (h : isN m l o) : o.free = true := by obtain ⟨e, rfl, _⟩ := h; simp [AOut.free, AV.free]
theorem freeX {l : List LL} {o : AOut} (h : isX l o) : o.free = true := by obtain ⟨e, rfl, _⟩ := h; simp [AOut.free, AV.free]
theorem freeY {l : List LL} {o : AOut} (h : isY l o) : o.free = true := by obtain ⟨e, rfl, _⟩ := h; simp [AOut.free, AV.free]
theorem freeF {l : List T} {o : AOut} (h : isF l o) : o.free = true := by obtain ⟨e, rfl, _⟩ := h; simp [AOut.free, AV.free]
theorem freeL {P : List Int → Prop} {o : AOut} (h : isL P o) : o.free = true := by obtain ⟨e, rfl, _⟩ := h; simp [AOut.free, AV.free, encI_frees]

theorem A24 : ∀ (n : Nat) (l : List T) (most : Int), sizes l ≤ n → most < 9223372036854775808 → l.length < 1125899906842624 → (∀ t ∈ l, Fit t) → ∃ o, isN most l o ∧ Ans CI (.fn 24 [] []) (aIT (most, l)) o := by
  intro n
  induction n with
  | zero =>
    intro l most h hm hl hf
    have hl := length_sizes l
    refine ans_of (n := l.length + 1) G_both.1 cf24 (pureI 24) (by simp [aIT, AV.frees, AV.free, encT_frees]) (fun _ => freeN) (run24 G _ most l hm (by omega) (by omega) (fun t ht => ?_))
    have : l = [] := List.length_eq_zero_iff.1 (by omega)
    subst this; simp at ht
  | succ n ih =>
    intro l most h hm hl hf
    refine ans_of (n := l.length + 1) G_both.1 cf24 (pureI 24) (by simp [aIT, AV.frees, AV.free, encT_frees]) (fun _ => freeN) (run24 G _ most l hm (by omega) (by omega) (fun t ht m' hm' => ?_))
    obtain ⟨a, ha, rfl⟩ := List.mem_iff_getElem.1 ht
    have hs := size_mem (List.getElem?_eq_getElem ha)
    rw [size_kids] at hs
    obtain ⟨k1, k2⟩ := Fit_kids (hf _ ht)
    obtain ⟨o, ⟨e, rfl, he⟩, hu⟩ := mkS_use (G_both.2 S24 (by simp [allS])) (m', l[a].kids) (ih l[a].kids m' (by omega) hm' k1 k2)
    exact ⟨e, fun h' => hu _ h' (by simp [aIT, AV.norms, AV.norm, encT_norms]), he⟩

theorem A26 (x : LL) : ∃ o, o = .ret (.bool (decide ((20 : Int) < (x.vars.length : Int)))) ∧ Ans CI (.fn 26 [] []) (aL x) o :=
  ans_of (n := 0) G_both.1 cf26 (pureI 26) (by simp [aL, AV.frees, encL_free]) (by rintro o rfl; simp [AOut.free, AV.free]) (FQ_FX (run26 G 0 x))
theorem g26 (x : LL) (h : AH) : G (.fn 26 [] []) [encL x] .no h = some (.ret (.bool (decide ((20 : Int) < (x.vars.length : Int)))), .no, h) := by
  obtain ⟨o, rfl, hu⟩ := mkS_use (G_both.2 S26 (by simp [allS])) x (A26 x)
  exact hu _ h (by simp [aL, AV.norms, encL_norm])
theorem A68 (l : List LL) (hl : l.length < 1125899906842624) : ∃ o, isX l o ∧ Ans CI (.fn 68 [] []) (aLf l) o :=
  ans_of (n := l.length + 1) G_both.1 cf68 (pureI 68) (by simp [aLf, AV.frees, AV.free, encL_frees]) (fun _ => freeX) (run68 G _ l (by omega) (by omega) (fun x _ => g26 x))
theorem A25 (l : List LL) (hl : l.length < 1125899906842624) : ∃ o, isY l o ∧ Ans CI (.fn 25 [] []) (aLf l) o := by
  obtain ⟨o, ⟨e, rfl, he⟩, hu⟩ := mkS_use (G_both.2 S68 (by simp [allS])) l (A68 l hl)
  exact ans_of (n := l.length + 1) G_both.1 cf25 (pureI 25) (by simp [aLf, AV.frees, AV.free, encL_frees]) (fun _ => freeY) (run25 G _ l e he (fun h => hu _ h (by simp [aLf, AV.norms, AV.norm, encL_norms])))

theorem A6 : ∀ (n : Nat) (l : List T), sizes l ≤ n → l.length < 1125899906842624 → (∀ t ∈ l, Fit t) → ∃ o, isF l o ∧ Ans CI (.fn 6 [] []) (aTs l) o := by
  intro n
  induction n with
  | zero =>
    intro l h hl hf
    have hl' := length_sizes l
    have hnil : l = [] := List.length_eq_zero_iff.1 (by omega)
    obtain ⟨o, ⟨e, rfl, he⟩, hu⟩ := mkS_use (G_both.2 S24 (by simp [allS])) (200, l) (A24 _ l 200 (Nat.le_refl _) (by omega) hl hf)
    refine ans_of (n := l.length + 1) G_both.1 cf6 (pureI 6) (by simp [aTs, AV.frees, AV.free, encT_frees]) (fun _ => freeF) (run6 G _ l (by omega) hl ⟨e, fun h' => hu _ h' (by simp [aIT, AV.norms, AV.norm, encT_norms]), he⟩ (fun t ht => ?_) (fun t ht => ?_))
    all_goals subst hnil; simp at ht
  | succ n ih =>
    intro l h hl hf
    obtain ⟨o, ⟨e, rfl, he⟩, hu⟩ := mkS_use (G_both.2 S24 (by simp [allS])) (200, l) (A24 _ l 200 (Nat.le_refl _) (by omega) hl hf)
    refine ans_of (n := l.length + 1) G_both.1 cf6 (pureI 6) (by simp [aTs, AV.frees, AV.free, encT_frees]) (fun _ => freeF) (run6 G _ l (by omega) hl ⟨e, fun h' => hu _ h' (by simp [aIT, AV.norms, AV.norm, encT_norms]), he⟩ (fun t ht => ?_) (fun t ht => ?_))
    · obtain ⟨o, ⟨e, rfl, he⟩, hu⟩ := mkS_use (G_both.2 S25 (by simp [allS])) t.levels (A25 t.levels (Fit_levels (hf t ht)).1)
      exact ⟨e, fun h' => hu _ h' (by simp [aLf, AV.norms, AV.norm, encL_norms]), he⟩
    · obtain ⟨a, ha, rfl⟩ := List.mem_iff_getElem.1 ht
      have hs := size_mem (List.getElem?_eq_getElem ha)
      rw [size_kids] at hs
      obtain ⟨k1, k2⟩ := Fit_kids (hf _ ht)
      obtain ⟨o, ⟨e, rfl, he⟩, hu⟩ := mkS_use (G_both.2 S6 (by simp [allS])) l[a].kids (ih l[a].kids (by omega) k1 k2)
      exact ⟨e, fun h' => hu _ h' (by simp [aTs, AV.norms, AV.norm, encT_norms]), he⟩

theorem A58 (x : LL) (hl : x.vars.length < 1125899906842624) : ∃ o, o = .ret (.bool true) ∧ Ans CI (.fn 58 [] []) (aLL x) o :=
  ans_of (n := x.vars.length + 1) G_both.1 cf58 (pureI 58) (by simp [aLL, AV.frees, encL_free]) (by rintro o rfl; simp [AOut.free, AV.free]) (FQ_FX (run58 G _ x (by omega) (by omega)))
theorem A47 (l : List LL) (hl : l.length < 1125899906842624) (hx : ∀ x ∈ l, x.vars.length < 1125899906842624) : ∃ o, o = .ret (.bool true) ∧ Ans CI (.fn 47 [] []) (aLsLs l) o :=
  ans_of (n := l.length + 1) G_both.1 cf47 (pureI 47) (by simp [aLsLs, AV.frees, AV.free, encL_frees]) (by rintro o rfl; simp [AOut.free, AV.free]) (FQ_FX (run47 G _ l (by omega) (by omega) (fun x hm h => by
    obtain ⟨o, rfl, hu⟩ := mkS_use (G_both.2 S58 (by simp [allS])) x (A58 x (hx x hm))
    exact hu _ h (by simp [aLL, AV.norms, encL_norm]))))

/- what Same needs of a term -/
inductive Thin : T → Prop
  | mk {k i : Int} {nm : ByteArray} {ls : List LL} {ks : List T} (h4 : ls.length < 1125899906842624) (h5 : ∀ x ∈ ls, x.vars.length < 1125899906842624)
      (h6 : ks.length < 1125899906842624) (h7 : ∀ t ∈ ks, Thin t) : Thin (.mk k i nm ls ks)

theorem A11 : ∀ (n : Nat) (t : T), size t ≤ n → Thin t → ∃ o, o = .ret (.bool true) ∧ Ans CI (.fn 11 [] []) (aTT t) o := by
  intro n
  induction n with
  | zero => intro t h; have := size_pos t; omega
  | succ n ih =>
    rintro ⟨k, i, nm, ls, ks⟩ h hf
    obtain ⟨f4, f5, f6, f7⟩ := hf
    simp only [size] at h
    obtain ⟨o, rfl, hu⟩ := mkS_use (G_both.2 S47 (by simp [allS])) ls (A47 ls f4 f5)
    refine ans_of (n := ks.length + 1) G_both.1 cf11 (pureI 11) (by simp [aTT, AV.frees, enc_free]) (by rintro o rfl; simp [AOut.free, AV.free]) (FQ_FX (run11 G _ k i nm ls ks (by omega) (by omega) (fun h => hu _ h (by simp [aLsLs, AV.norms, AV.norm, encL_norms])) (fun t ht h' => ?_)))
    obtain ⟨a, ha, rfl⟩ := List.mem_iff_getElem.1 ht
    have hs := size_mem (List.getElem?_eq_getElem ha)
    obtain ⟨o, rfl, hu⟩ := mkS_use (G_both.2 S11 (by simp [allS])) ks[a] (ih ks[a] (by omega) (f7 _ ht))
    exact hu _ h' (by simp [aTT, AV.norms, enc_norm])

theorem A44 (l : List Int) (x : Int) (hl : l.length < 1125899906842624) : ∃ o, o = .ret (.bool (decide (x ∈ l))) ∧ Ans CI (.fn 44 [] []) (aZI (l, x)) o :=
  ans_of (n := l.length + 1) G_both.1 cf44 (pureI 44) (by simp [aZI, AV.frees, AV.free, encI_frees]) (by rintro o rfl; simp [AOut.free, AV.free]) (FQ_FX (run44 G _ l x (by omega) (by omega)))
theorem A42 (l : List Int) (x : Int) (hl : l.length < 1125899906842624) : ∃ o, o = .ret (.int .i64 (idxOf l x)) ∧ Ans CI (.fn 42 [] []) (aZI (l, x)) o :=
  ans_of (n := l.length + 1) G_both.1 cf42 (pureI 42) (by simp [aZI, AV.frees, AV.free, encI_frees]) (by rintro o rfl; simp [AOut.free, AV.free]) (FQ_FX (run42 G _ l x (by omega) (by omega)))
theorem g42 (l : List Int) (x : Int) (hl : l.length < 1125899906842624) (h : AH) : G (.fn 42 [] []) [.lst (l.map AG.encI), .int .i64 x] .no h = some (.ret (.int .i64 (idxOf l x)), .no, h) := by
  obtain ⟨o, rfl, hu⟩ := mkS_use (G_both.2 S42 (by simp [allS])) (l, x) (A42 l x hl)
  exact hu _ h (by simp [aZI, AV.norms, AV.norm, encI_norms])
theorem A40 (l : List Int) (x : Int) (hl : l.length < 1125899906842624) : ∃ o, o = .ret (.bool (decide (x ∈ l))) ∧ Ans CI (.fn 40 [] []) (aZI (l, x)) o :=
  ans_of (n := l.length + 1) G_both.1 cf40 (pureI 40) (by simp [aZI, AV.frees, AV.free, encI_frees]) (by rintro o rfl; simp [AOut.free, AV.free]) (FQ_FX (run40 G _ l x (g42 l x hl)))
theorem A129 (l : List Int) (x : Int) (hl : l.length < 90000) : ∃ o, isL (addP l x) o ∧ Ans CI (.fn 129 [] []) (aZI (l, x)) o :=
  ans_of (n := l.length + 1) G_both.1 cf129 (pureI 129) (by simp [aZI, AV.frees, AV.free, encI_frees]) (fun _ => freeL) (run129 G _ l x (by omega) (by omega))

theorem A91 : ∀ (n : Nat) (t : T) (v d : Int) (l : List Int), size t ≤ n → n ≤ 10000 → Fit t → WF v t d → 0 ≤ d → d + (n : Int) ≤ 20000 → l.length + size t ≤ 20000 → ∃ o, isL (freeP l t d) o ∧ Ans CI (.fn 91 [] []) (aZTI (l, t, d)) o := by
  intro n
  induction n with
  | zero => intro t v d l h; have := size_pos t; omega
  | succ n ih =>
    rintro ⟨k, i, nm, ls, ks⟩ v d l h hn hf hw hd0 hd1 hl1
    obtain ⟨f1, f2, f3, f4, f5, f6, f7⟩ := hf
    obtain ⟨w1, w2⟩ := hw
    simp only [size] at h hl1
    have hl := length_sizes ks
    refine ans_of (n := 20000) G_both.1 cf91 (pureI 91) (by simp [aZTI, AV.frees, AV.free, enc_free, encI_frees]) (fun _ => freeL) (run91 G _ k i nm ls ks d l (fun e => (w1 e).2.1) f2 (by omega) (by omega) hd0 (by omega) (g72 k) (fun _ => ?_) (fun a t l' ht hle => ?_))
    · obtain ⟨o, ⟨L, rfl, hp⟩, hu⟩ := mkS_use (G_both.2 S129 (by simp [allS])) (l, i - d) (A129 l (i - d) (by omega))
      exact ⟨L, fun h' => hu _ h' (by simp [aZI, AV.norms, AV.norm, encI_norms]), hp⟩
    · have hs := sizes_take ks a _ ht
      have hb := binders_le k a
      have hst := sizes_take_le ks (a + 1)
      obtain ⟨o, ⟨L, rfl, hp⟩, hu⟩ := mkS_use (G_both.2 S91 (by simp [allS])) (l', t, d + binders k a) (ih t v (d + binders k a) l' (by omega) (by omega) (f7 _ (List.mem_of_getElem? ht)) (w2 a t ht) (by omega) (by omega) (by omega))
      exact ⟨L, fun h' => hu _ h' (by simp [aZTI, AV.norms, AV.norm, enc_norm, encI_norms]), hp⟩

theorem A45 (t : T) (v : Int) (hs : size t ≤ 10000) (hf : Fit t) (hw : WF v t 0) : ∃ o, isL (fvP t) o ∧ Ans CI (.fn 45 [] []) (aT t) o := by
  obtain ⟨o, ⟨L, rfl, hp⟩, hu⟩ := mkS_use (G_both.2 S91 (by simp [allS])) ([], t, 0) (A91 10000 t v 0 [] hs (Nat.le_refl _) hf hw (by omega) (by omega) (by simp; omega))
  obtain ⟨k, i, nm, ls, ks⟩ := t
  exact ans_of (n := 0) G_both.1 cf45 (pureI 45) (by simp [aT, AV.frees, enc_free]) (fun _ => freeL) (run45 G 0 k i nm ls ks L _ (fun h => hu _ h (by rw [← enc_eq]; simp [aZTI, AV.norms, AV.norm, enc_norm])) ⟨fun y => by simpa using hp.1 y, by simpa using hp.2⟩)

end Go.Proofs.YtnacljdablhbgaaGreat
