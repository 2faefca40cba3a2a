/- SolverFinishes: the plain law of levels (no condition). -/
import Derived.Test.YtnacljdablhbgaaGreatDg
namespace Go.Proofs.YtnacljdablhbgaaGreat
open Go.AG
def Srt (vs : List LV) : Prop := vs.Pairwise fun x y => x.idx < y.idx
def pOf : List LV → Int → Option Int
  | [], _ => none
  | x :: vs, i => if i = x.idx then some x.plus else pOf vs i
def mxo : Option Int → Option Int → Option Int
  | none, b => b
  | some a, none => some a
  | some a, some b => some (max a b)
theorem VL.srt {l : LL} (h : VL l) : Srt l.vars := by
  unfold Srt
  rw [List.pairwise_iff_getElem]
  intro i j hi hj hij
  exact h.asc (j - i - 1) i _ _ (List.getElem?_eq_getElem hi) (by rw [show i + (j - i - 1) + 1 = j by omega]; exact List.getElem?_eq_getElem hj)
theorem Srt.tail {x : LV} {vs : List LV} (h : Srt (x :: vs)) : Srt vs := (List.pairwise_cons.1 h).2
theorem Srt.head {x : LV} {vs : List LV} (h : Srt (x :: vs)) : ∀ y ∈ vs, x.idx < y.idx := (List.pairwise_cons.1 h).1
theorem pOf_none {vs : List LV} {i : Int} (h : ∀ y ∈ vs, i ≠ y.idx) : pOf vs i = none := by
  induction vs with
  | nil => rfl
  | cons x vs ih => rw [pOf, if_neg (h x (by simp))]; exact ih fun y hy => h y (by simp [hy])
theorem pOf_mem {vs : List LV} {i p : Int} (h : pOf vs i = some p) : ∃ y ∈ vs, y.idx = i ∧ y.plus = p := by
  induction vs with
  | nil => cases h
  | cons x vs ih =>
    rw [pOf] at h
    by_cases hi : i = x.idx
    · rw [if_pos hi] at h; cases h; exact ⟨x, by simp, hi.symm, rfl⟩
    · rw [if_neg hi] at h
      obtain ⟨y, hy, r⟩ := ih h
      exact ⟨y, by simp [hy], r⟩
theorem pOf_of {vs : List LV} (hs : Srt vs) {y : LV} (hy : y ∈ vs) : pOf vs y.idx = some y.plus := by
  induction vs with
  | nil => simp at hy
  | cons x vs ih =>
    rw [pOf]
    rcases List.mem_cons.1 hy with rfl | h
    · rw [if_pos rfl]
    · have := hs.head y h
      rw [if_neg (by omega)]; exact ih hs.tail h
theorem Srt.ext : ∀ {xs ys : List LV}, Srt xs → Srt ys → (∀ i, pOf xs i = pOf ys i) → xs = ys
  | [], [], _, _, _ => rfl
  | [], y :: ys, _, _, h => by have := h y.idx; simp [pOf] at this
  | x :: xs, [], _, _, h => by have := h x.idx; simp [pOf] at this
  | x :: xs, y :: ys, hx, hy, h => by
    have e1 : x.idx = y.idx := by
      have h1 := h x.idx
      have h2 := h y.idx
      rw [pOf, if_pos rfl] at h1
      rw [pOf, pOf, if_pos rfl] at h2
      obtain ⟨z, hz, hz1, _⟩ := pOf_mem h1.symm
      have hz' : y.idx ≤ x.idx := by
        rcases List.mem_cons.1 hz with rfl | hz
        · omega
        · have := hy.head z hz; omega
      by_cases hq : y.idx = x.idx
      · exact hq.symm
      · rw [if_neg hq] at h2
        obtain ⟨w, hw, hw1, _⟩ := pOf_mem h2
        have := hx.head w hw
        omega
    have e2 : x.plus = y.plus := by
      have h1 := h x.idx
      rw [pOf, if_pos rfl, pOf, if_pos e1] at h1
      simpa using h1
    have e3 : xs = ys := by
      refine Srt.ext hx.tail hy.tail fun i => ?_
      have h1 := h i
      rw [pOf, pOf] at h1
      by_cases hi : i = x.idx
      · rw [pOf_none fun z hz => by have := hx.head z hz; omega, pOf_none fun z hz => by have := hy.head z hz; omega]
      · rw [if_neg hi, if_neg (by omega)] at h1; exact h1
    obtain ⟨xi, xp⟩ := x
    obtain ⟨yi, yp⟩ := y
    simp only at e1 e2
    rw [e1, e2, e3]
theorem mergeV_mem : ∀ {xs ys : List LV} {z : LV}, z ∈ mergeV xs ys → (∃ x ∈ xs, x.idx = z.idx) ∨ ∃ y ∈ ys, y.idx = z.idx
  | [], ys, z, h => by rw [mergeV] at h; exact .inr ⟨z, h, rfl⟩
  | x :: xs, [], z, h => by rw [mergeV] at h; exact .inl ⟨z, h, rfl⟩
  | x :: xs, y :: ys, z, h => by
    rw [mergeV] at h
    split at h
    · rcases List.mem_cons.1 h with rfl | h
      · exact .inl ⟨z, by simp, rfl⟩
      · rcases mergeV_mem h with ⟨w, hw, e⟩ | ⟨w, hw, e⟩
        · exact .inl ⟨w, by simp [hw], e⟩
        · exact .inr ⟨w, hw, e⟩
    · split at h
      · rcases List.mem_cons.1 h with rfl | h
        · exact .inr ⟨z, by simp, rfl⟩
        · rcases mergeV_mem h with ⟨w, hw, e⟩ | ⟨w, hw, e⟩
          · exact .inl ⟨w, hw, e⟩
          · exact .inr ⟨w, by simp [hw], e⟩
      · rcases List.mem_cons.1 h with rfl | h
        · exact .inl ⟨x, by simp, rfl⟩
        · rcases mergeV_mem h with ⟨w, hw, e⟩ | ⟨w, hw, e⟩
          · exact .inl ⟨w, by simp [hw], e⟩
          · exact .inr ⟨w, by simp [hw], e⟩
termination_by xs ys => xs.length + ys.length
theorem mergeV_srt : ∀ {xs ys : List LV}, Srt xs → Srt ys → Srt (mergeV xs ys)
  | [], ys, _, hy => by rw [mergeV]; exact hy
  | x :: xs, [], hx, _ => by rw [mergeV]; exact hx
  | x :: xs, y :: ys, hx, hy => by
    rw [mergeV]
    split
    · refine List.pairwise_cons.2 ⟨fun z hz => ?_, mergeV_srt hx.tail hy⟩
      rcases mergeV_mem hz with ⟨w, hw, e⟩ | ⟨w, hw, e⟩
      · have := hx.head w hw; omega
      · rcases List.mem_cons.1 hw with rfl | hw
        · omega
        · have := hy.head w hw; omega
    · split
      · refine List.pairwise_cons.2 ⟨fun z hz => ?_, mergeV_srt hx hy.tail⟩
        rcases mergeV_mem hz with ⟨w, hw, e⟩ | ⟨w, hw, e⟩
        · rcases List.mem_cons.1 hw with rfl | hw
          · omega
          · have := hx.head w hw; omega
        · have := hy.head w hw; omega
      · refine List.pairwise_cons.2 ⟨fun z hz => ?_, mergeV_srt hx.tail hy.tail⟩
        show x.idx < z.idx
        rcases mergeV_mem hz with ⟨w, hw, e⟩ | ⟨w, hw, e⟩
        · have := hx.head w hw; omega
        · have := hy.head w hw; omega
termination_by xs ys => xs.length + ys.length
theorem mxo_none (a : Option Int) : mxo a none = a := by cases a <;> rfl
theorem pOf_merge : ∀ {xs ys : List LV}, Srt xs → Srt ys → ∀ i, pOf (mergeV xs ys) i = mxo (pOf xs i) (pOf ys i)
  | [], ys, _, _, i => by rw [mergeV]; rfl
  | x :: xs, [], _, _, i => by rw [mergeV, pOf.eq_1, mxo_none]
  | x :: xs, y :: ys, hx, hy, i => by
    rw [mergeV]
    split
    · rename_i hlt
      rw [pOf, pOf_merge hx.tail hy, pOf.eq_2 i x xs]
      by_cases hi : i = x.idx
      · rw [if_pos hi, if_pos hi, pOf_none fun z hz => (by
          rcases List.mem_cons.1 hz with rfl | hz
          · omega
          · have := hy.head z hz; omega)]
        rfl
      · rw [if_neg hi, if_neg hi]
    · split
      · rename_i hlt hgt
        rw [pOf, pOf_merge hx hy.tail, pOf.eq_2 i y ys]
        by_cases hi : i = y.idx
        · rw [if_pos hi, if_pos hi, pOf_none (vs := x :: xs) fun z hz => (by
            rcases List.mem_cons.1 hz with rfl | hz
            · omega
            · have := hx.head z hz; omega)]
          rfl
        · rw [if_neg hi, if_neg hi]
      · rename_i hlt hgt
        rw [pOf, pOf_merge hx.tail hy.tail, pOf.eq_2 i x xs, pOf.eq_2 i y ys]
        by_cases hi : i = x.idx
        · rw [if_pos hi, if_pos hi, if_pos (by omega)]; rfl
        · rw [if_neg hi, if_neg hi, if_neg (by omega)]
termination_by xs ys => xs.length + ys.length
theorem mostF (vs : List LV) : ∀ m : Int, vs.foldl (fun m x => max m x.plus) m = max m (vs.foldl (fun m x => max m x.plus) m) ∧ (∀ x ∈ vs, x.plus ≤ vs.foldl (fun m x => max m x.plus) m) ∧ m ≤ vs.foldl (fun m x => max m x.plus) m ∧ (vs.foldl (fun m x => max m x.plus) m = m ∨ ∃ x ∈ vs, x.plus = vs.foldl (fun m x => max m x.plus) m) := by
  induction vs with
  | nil => intro m; simp
  | cons x vs ih =>
    intro m
    obtain ⟨h1, h2, h3, h4⟩ := ih (max m x.plus)
    simp only [List.foldl_cons]
    generalize vs.foldl (fun m x => max m x.plus) (max m x.plus) = z at h1 h2 h3 h4
    refine ⟨by omega, fun y hy => ?_, by omega, ?_⟩
    · rcases List.mem_cons.1 hy with rfl | hy
      · omega
      · exact h2 y hy
    · rcases h4 with h4 | ⟨y, hy, h4⟩
      · by_cases hm : m ≤ x.plus
        · exact .inr ⟨x, by simp, by omega⟩
        · exact .inl (by omega)
      · exact .inr ⟨y, by simp [hy], h4⟩
theorem most_ge {vs : List LV} {x : LV} (h : x ∈ vs) : x.plus ≤ mostV vs := (mostF vs 0).2.1 x h
theorem most_0 (vs : List LV) : 0 ≤ mostV vs := (mostF vs 0).2.2.1
theorem most_cases (vs : List LV) : mostV vs = 0 ∨ ∃ x ∈ vs, x.plus = mostV vs := (mostF vs 0).2.2.2
theorem most_le {vs : List LV} {b : Int} (hb : 0 ≤ b) (h : ∀ x ∈ vs, x.plus ≤ b) : mostV vs ≤ b := by
  rcases most_cases vs with e | ⟨x, hx, e⟩
  · omega
  · have := h x hx; omega
theorem merge_all {P : LV → Prop} (hP : ∀ x y, x.idx = y.idx → P x → P y → P ⟨x.idx, max x.plus y.plus⟩) : ∀ {xs ys : List LV}, (∀ x ∈ xs, P x) → (∀ y ∈ ys, P y) → ∀ z ∈ mergeV xs ys, P z
  | [], ys, _, hy, z, h => by rw [mergeV] at h; exact hy z h
  | x :: xs, [], hx, _, z, h => by rw [mergeV] at h; exact hx z h
  | x :: xs, y :: ys, hx, hy, z, h => by
    have hx' : ∀ w ∈ xs, P w := fun w hw => hx w (by simp [hw])
    have hy' : ∀ w ∈ ys, P w := fun w hw => hy w (by simp [hw])
    rw [mergeV] at h
    split at h
    · rcases List.mem_cons.1 h with rfl | h
      · exact hx z (by simp)
      · exact merge_all hP hx' hy z h
    · split at h
      · rcases List.mem_cons.1 h with rfl | h
        · exact hy z (by simp)
        · exact merge_all hP hx hy' z h
      · rcases List.mem_cons.1 h with rfl | h
        · exact hP x y (by omega) (hx x (by simp)) (hy y (by simp))
        · exact merge_all hP hx' hy' z h
termination_by xs ys => xs.length + ys.length
theorem most_merge : ∀ xs ys : List LV, mostV (mergeV xs ys) = max (mostV xs) (mostV ys) := by
  have cons : ∀ (x : LV) (vs : List LV), mostV (x :: vs) = max x.plus (mostV vs) := by
    intro x vs
    have h1 : mostV (x :: vs) ≤ max x.plus (mostV vs) := most_le (by have := most_0 vs; omega) fun y hy => by
      rcases List.mem_cons.1 hy with rfl | hy
      · omega
      · have := most_ge hy; omega
    have h2 := most_ge (vs := x :: vs) (x := x) (by simp)
    have h3 : mostV vs ≤ mostV (x :: vs) := most_le (most_0 _) fun y hy => most_ge (by simp [hy])
    omega
  have n0 : mostV [] = 0 := rfl
  have key : ∀ (n : Nat) (xs ys : List LV), xs.length + ys.length ≤ n → mostV (mergeV xs ys) = max (mostV xs) (mostV ys) := by
    intro n
    induction n with
    | zero =>
      intro xs ys h
      have hx : xs = [] := List.length_eq_zero_iff.1 (by omega)
      have hy : ys = [] := List.length_eq_zero_iff.1 (by omega)
      subst hx hy
      rw [mergeV]; simp [n0]
    | succ n ih =>
      intro xs ys h
      match xs, ys with
      | [], ys => rw [mergeV, n0]; have := most_0 ys; omega
      | x :: xs, [] => rw [mergeV, n0]; have := most_0 (x :: xs); omega
      | x :: xs, y :: ys =>
        simp only [List.length_cons] at h
        rw [mergeV]
        split
        · rw [cons, ih xs (y :: ys) (by simp; omega), cons x xs, cons y ys]; omega
        · split
          · rw [cons, ih (x :: xs) ys (by simp; omega), cons x xs, cons y ys]; omega
          · rw [cons, ih xs ys (by omega), cons x xs, cons y ys]
            show max (max x.plus y.plus) _ = _
            omega
  exact fun xs ys => key _ xs ys (Nat.le_refl _)
def btV (l : LL) : Int := max l.c (mostV l.vars)
theorem VL.all {l : LL} (h : VL l) : ∀ x ∈ l.vars, Rng x := fun x hx => by
  obtain ⟨i, hi⟩ := List.mem_iff_getElem?.1 hx
  exact h.rng i x hi
theorem VL.covm {l : LL} (h : VL l) (hc : 0 < l.c) : ∀ x ∈ l.vars, x.plus < l.c := fun x hx => by
  obtain ⟨i, hi⟩ := List.mem_iff_getElem?.1 hx
  exact h.cov hc i x hi
theorem VL.mk' {l : LL} (c0 : 0 ≤ l.c) (c1 : l.c ≤ 100) (hr : ∀ x ∈ l.vars, Rng x) (hs : Srt l.vars) (hc : 0 < l.c → ∀ x ∈ l.vars, x.plus < l.c) : VL l := by
  refine ⟨c0, c1, fun i x e => hr x (List.mem_of_getElem? e), fun i x y ex ey => ?_, fun h i x e => hc h x (List.mem_of_getElem? e)⟩
  unfold Srt at hs
  rw [List.pairwise_iff_getElem] at hs
  obtain ⟨hi, rfl⟩ := List.getElem?_eq_some_iff.1 ex
  obtain ⟨hj, rfl⟩ := List.getElem?_eq_some_iff.1 ey
  exact hs i (i + 1) hi hj (by omega)
theorem joinR_VL {a b : LL} (ha : VL a) (hb : VL b) : VL (joinR a b) := by
  have hr := merge_all (P := Rng) (fun x y e hx hy => by obtain ⟨a1, a2, a3, a4⟩ := hx; obtain ⟨b1, b2, b3, b4⟩ := hy; exact ⟨a1, a2, by show 0 ≤ max x.plus y.plus; omega, by show max x.plus y.plus ≤ 100; omega⟩) ha.all hb.all
  have a0 := ha.c0
  have a1 := ha.c1
  have b0 := hb.c0
  have b1 := hb.c1
  unfold joinR
  by_cases hc : 0 < (mergeV a.vars b.vars).length ∧ max a.c b.c ≤ mostV (mergeV a.vars b.vars)
  · rw [if_pos hc]
    exact VL.mk' (Int.le_refl 0) (by show (0 : Int) ≤ 100; omega) hr (mergeV_srt ha.srt hb.srt) (fun h => absurd h (by show ¬ (0 : Int) < 0; omega))
  · rw [if_neg hc]
    refine VL.mk' (by show 0 ≤ max a.c b.c; omega) (by show max a.c b.c ≤ 100; omega) hr (mergeV_srt ha.srt hb.srt) (fun h x hx => ?_)
    show x.plus < max a.c b.c
    have : x.plus ≤ mostV (mergeV a.vars b.vars) := most_ge hx
    have hl : 0 < (mergeV a.vars b.vars).length := List.length_pos_of_mem hx
    have : ¬ max a.c b.c ≤ mostV (mergeV a.vars b.vars) := fun e => hc ⟨hl, e⟩
    omega
theorem joinR_bt (a b : LL) (_a0 : 0 ≤ a.c) (_b0 : 0 ≤ b.c) : btV (joinR a b) = max (btV a) (btV b) := by
  have h := most_merge a.vars b.vars
  have h0 := most_0 (mergeV a.vars b.vars)
  unfold btV joinR
  by_cases hc : 0 < (mergeV a.vars b.vars).length ∧ max a.c b.c ≤ mostV (mergeV a.vars b.vars)
  · rw [if_pos hc]
    show max 0 (mostV (mergeV a.vars b.vars)) = _
    omega
  · rw [if_neg hc]
    show max (max a.c b.c) (mostV (mergeV a.vars b.vars)) = _
    omega
theorem upV_srt {vs : List LV} (n : Int) (h : Srt vs) : Srt (upV vs n) := by
  unfold Srt upV
  rw [List.pairwise_map]
  exact h
theorem plusR_VL {l : LL} {n : Int} (h : VL l) (n0 : 0 ≤ n) (he : (plusR l n).2 = 0) : VL (plusR l n).1 ∧ plusR l n = (⟨pcR l n, upV l.vars n⟩, 0) ∧ pcR l n ≤ 100 ∧ ∀ x ∈ l.vars, x.plus + n ≤ 100 := by
  unfold plusR at he ⊢
  cases hb : (decide (100 < pcR l n) || l.vars.any fun x => decide (100 < x.plus + n)) with
  | true => rw [hb] at he; simp at he
  | false =>
    rw [hb] at he
    simp only [Bool.or_eq_false_iff, decide_eq_false_iff_not, List.any_eq_false, decide_eq_true_eq] at hb
    obtain ⟨h1, h2⟩ := hb
    have c0 := h.c0
    refine ⟨VL.mk' ?_ ?_ ?_ (upV_srt n h.srt) ?_, rfl, by omega, fun x hx => by have := h2 x hx; omega⟩
    · show 0 ≤ pcR l n
      unfold pcR; split <;> omega
    · show pcR l n ≤ 100
      omega
    · intro x hx
      obtain ⟨y, hy, rfl⟩ := List.mem_map.1 hx
      obtain ⟨r1, r2, r3, r4⟩ := h.all y hy
      have := h2 y hy
      exact ⟨r1, r2, by show 0 ≤ y.plus + n; omega, by show y.plus + n ≤ 100; omega⟩
    · intro hc x hx
      obtain ⟨y, hy, rfl⟩ := List.mem_map.1 hx
      show y.plus + n < pcR l n
      have hc : 0 < pcR l n := hc
      unfold pcR at hc ⊢
      split at hc
      · rename_i hor
        rw [if_pos hor]
        rcases hor with h0 | h0
        · have := h.covm h0 y hy; omega
        · rw [List.length_eq_zero_iff] at h0; rw [h0] at hy; simp at hy
      · omega
theorem look_setE (L : Es) (k v i : Int) : look (setE L k v) i = if i = k then some v else look L i := by
  induction L with
  | nil => rw [setE, look]; rfl
  | cons e L ih =>
    rw [setE]
    by_cases hk : k = e.1
    · rw [if_pos hk, look, look]
      by_cases hi : i = k
      · rw [if_pos hi, if_pos hi]
      · rw [if_neg hi, if_neg hi, if_neg (by intro e; exact hi (e.trans hk.symm))]
    · rw [if_neg hk, look, ih, look]
      by_cases hi : i = e.1
      · rw [if_pos hi, if_pos hi, if_neg (by intro e; exact hk (e ▸ hi))]
      · rw [if_neg hi, if_neg hi]
theorem look_raise (L : Es) (k p i : Int) : look (raiseE L k p) i = if i = k then mxo (look L k) (some p) else look L i := by
  unfold raiseE
  cases hk : look L k with
  | none => simp only [look_setE]; rfl
  | some o =>
    by_cases hlt : o < p
    · simp only [if_pos hlt, look_setE]
      by_cases hi : i = k
      · rw [if_pos hi, if_pos hi]; simp only [mxo]; congr 1; omega
      · rw [if_neg hi, if_neg hi]
    · simp only [if_neg hlt]
      by_cases hi : i = k
      · rw [if_pos hi, hi, hk]; simp only [mxo]; congr 1; omega
      · rw [if_neg hi]
theorem look_add (n : Int) : ∀ {vs : List LV} (L : Es) (i : Int), Srt vs → look (addE L vs n) i = mxo (look L i) (pOf (upV vs n) i)
  | [], L, i, _ => by show look L i = mxo (look L i) none; rw [mxo_none]
  | x :: vs, L, i, h => by
    show look (addE (raiseE L x.idx (x.plus + n)) vs n) i = mxo (look L i) (pOf (⟨x.idx, x.plus + n⟩ :: upV vs n) i)
    rw [look_add n _ i h.tail, look_raise, pOf]
    by_cases hi : i = x.idx
    · rw [if_pos hi, if_pos hi, pOf_none fun y hy => by
        obtain ⟨z, hz, rfl⟩ := List.mem_map.1 hy
        have := h.head z hz
        show i ≠ z.idx
        omega]
      rw [mxo_none, hi]
    · rw [if_neg hi, if_neg hi]
structure RS (c : Int) (L : Es) (out : LL) : Prop where
  lk : ∀ i, look L i = pOf out.vars i
  bt : max c (mostV out.vars) = btV out
  c0 : 0 ≤ c
  vl : VL out
theorem most_up {l : LL} {n : Int} (n0 : 0 ≤ n) (h : VL l) : max (l.c + n) (mostV (upV l.vars n)) = max (pcR l n) (mostV (upV l.vars n)) := by
  have c0 := h.c0
  unfold pcR
  by_cases hor : 0 < l.c ∨ l.vars.length = 0
  · rw [if_pos hor]
  · rw [if_neg hor]
    have hc : l.c = 0 := by
      by_cases hz : 0 < l.c
      · exact absurd (.inl hz) hor
      · omega
    cases hv : l.vars with
    | nil => exact absurd (.inr (by rw [hv]; rfl)) hor
    | cons x vs =>
      have hx := h.all x (by rw [hv]; simp)
      obtain ⟨_, _, p0, _⟩ := hx
      have : x.plus + n ≤ mostV (upV (x :: vs) n) := most_ge (x := ⟨x.idx, x.plus + n⟩) (by simp [upV])
      omega
theorem one_VL {x : LV} (h : Rng x) : VL ⟨0, [x]⟩ :=
  VL.mk' (Int.le_refl 0) (by show (0 : Int) ≤ 100; omega) (fun y hy => by simp at hy; subst hy; exact h) (by unfold Srt; simp) (fun h => absurd h (by show ¬ (0 : Int) < 0; omega))
def bigS (s : Int × Es) : Prop := 100 < s.1 ∨ ∃ i o, look s.2 i = some o ∧ 100 < o
theorem mxo_ge {a b : Option Int} {o : Int} (h : a = some o) (ho : 100 < o) : ∃ o', mxo a b = some o' ∧ 100 < o' := by
  subst h
  cases b with
  | none => exact ⟨o, rfl, ho⟩
  | some p => exact ⟨max o p, rfl, by omega⟩
theorem mxo_ge' {a b : Option Int} {o : Int} (h : b = some o) (ho : 100 < o) : ∃ o', mxo a b = some o' ∧ 100 < o' := by
  subst h
  cases a with
  | none => exact ⟨o, rfl, ho⟩
  | some p => exact ⟨max p o, rfl, by omega⟩
theorem bigS_step {vals : List LL} (hv : ∀ y ∈ vals, VL y) {s : Int × Es} (x : LV) (h : bigS s) : bigS (asgOne vals s x) := by
  unfold asgOne
  split
  · split
    · rename_i y hy
      rcases h with h | ⟨i, o, h1, h2⟩
      · exact .inl (by show 100 < max s.1 _; omega)
      · obtain ⟨o', e, ho⟩ := mxo_ge (b := pOf (upV y.vars x.plus) i) h1 h2
        exact .inr ⟨i, o', by rw [look_add _ _ _ (hv y (List.mem_of_getElem? hy)).srt]; exact e, ho⟩
    · exact h
  · rcases h with h | ⟨i, o, h1, h2⟩
    · exact .inl h
    · right
      by_cases hi : i = x.idx
      · subst hi
        obtain ⟨o', e, ho⟩ := mxo_ge (b := some x.plus) h1 h2
        exact ⟨x.idx, o', by rw [look_raise, if_pos rfl]; exact e, ho⟩
      · exact ⟨i, o, by rw [look_raise, if_neg hi]; exact h1, h2⟩
theorem bigS_all {vals : List LL} (hv : ∀ y ∈ vals, VL y) : ∀ (vs : List LV) {s : Int × Es}, bigS s → bigS (vs.foldl (asgOne vals) s)
  | [], _s, h => h
  | x :: vs, _s, h => bigS_all hv vs (bigS_step hv x h)
theorem RS_step {vals : List LL} (hv : ∀ y ∈ vals, VL y) {c : Int} {L : Es} {out : LL} (x : LV) (hx : Rng x) (r : RS c L out) :
    (∃ out', repOne vals (some out) x = some out' ∧ RS (asgOne vals (c, L) x).1 (asgOne vals (c, L) x).2 out') ∨ (repOne vals (some out) x = none ∧ bigS (asgOne vals (c, L) x)) := by
  obtain ⟨lk, bt, c0, vo⟩ := r
  obtain ⟨x1, x2, x3, x4⟩ := hx
  have o0 := vo.c0
  by_cases hm : x.idx < 0 ∧ -1 - x.idx < (vals.length : Int)
  · have hm' : 0 ≤ -1 - x.idx ∧ -1 - x.idx < (vals.length : Int) := ⟨by omega, hm.2⟩
    obtain ⟨y, hy⟩ : ∃ y, vals[(-1 - x.idx).toNat]? = some y := ⟨_, List.getElem?_eq_getElem (by omega)⟩
    have vy := hv y (List.mem_of_getElem? hy)
    have ea : asgOne vals (c, L) x = (max c (y.c + x.plus), addE L y.vars x.plus) := by unfold asgOne; rw [if_pos hm', hy]
    have er : repOne vals (some out) x = if (plusR y x.plus).2 = 0 then some (joinR out (plusR y x.plus).1) else none := by
      unfold repOne
      show (if x.idx < 0 ∧ -1 - x.idx < (vals.length : Int) then _ else _) = _
      rw [if_pos hm, hy]
    rw [ea, er]
    by_cases he : (plusR y x.plus).2 = 0
    · left
      obtain ⟨p1, p2, p3, p4⟩ := plusR_VL vy x3 he
      rw [if_pos he]
      refine ⟨_, rfl, ⟨fun i => ?_, ?_, by show 0 ≤ max c _; omega, joinR_VL vo p1⟩⟩
      · rw [look_add _ _ _ vy.srt, lk]
        show _ = pOf (mergeV out.vars (plusR y x.plus).1.vars) i
        rw [pOf_merge vo.srt p1.srt, p2]
      · have h1 := joinR_bt out (plusR y x.plus).1 o0 p1.c0
        have h2 := most_up x3 vy
        have h3 : mostV (joinR out (plusR y x.plus).1).vars = max (mostV out.vars) (mostV (upV y.vars x.plus)) := by
          show mostV (mergeV out.vars (plusR y x.plus).1.vars) = _
          rw [most_merge, p2]
        have h4 : btV (plusR y x.plus).1 = max (pcR y x.plus) (mostV (upV y.vars x.plus)) := by rw [p2]; rfl
        rw [h1, h3, h4, ← bt]
        show max (max c (y.c + x.plus)) _ = _
        omega
    · right
      rw [if_neg he]
      refine ⟨rfl, ?_⟩
      unfold plusR at he
      cases hb : (decide (100 < pcR y x.plus) || y.vars.any fun z => decide (100 < z.plus + x.plus)) with
      | false => rw [hb] at he; exact absurd rfl he
      | true =>
        rw [Bool.or_eq_true] at hb
        rcases hb with hb | hb
        · have hb := of_decide_eq_true hb
          left
          show 100 < max c (y.c + x.plus)
          unfold pcR at hb
          split at hb <;> omega
        · right
          obtain ⟨z, hz, hb⟩ := List.any_eq_true.1 hb
          have hb := of_decide_eq_true hb
          have hp : pOf (upV y.vars x.plus) z.idx = some (z.plus + x.plus) := pOf_of (upV_srt x.plus vy.srt) (y := ⟨z.idx, z.plus + x.plus⟩) (List.mem_map.2 ⟨z, hz, rfl⟩)
          obtain ⟨o', e, ho⟩ := mxo_ge' (a := look L z.idx) hp hb
          exact ⟨z.idx, o', by rw [look_add _ _ _ vy.srt]; exact e, ho⟩
  · left
    have hm' : ¬ (0 ≤ -1 - x.idx ∧ -1 - x.idx < (vals.length : Int)) := fun e => hm ⟨by omega, e.2⟩
    have ea : asgOne vals (c, L) x = (c, raiseE L x.idx x.plus) := by unfold asgOne; rw [if_neg hm']
    have er : repOne vals (some out) x = some (joinR out ⟨0, [x]⟩) := by
      unfold repOne
      show (if x.idx < 0 ∧ -1 - x.idx < (vals.length : Int) then _ else _) = _
      rw [if_neg hm]
    rw [ea, er]
    have v1 := one_VL ⟨x1, x2, x3, x4⟩
    refine ⟨_, rfl, ⟨fun i => ?_, ?_, c0, joinR_VL vo v1⟩⟩
    · show look (raiseE L x.idx x.plus) i = pOf (mergeV out.vars [x]) i
      rw [look_raise, pOf_merge vo.srt v1.srt, pOf, pOf, ← lk]
      by_cases hi : i = x.idx
      · rw [if_pos hi, if_pos hi, hi]
      · rw [if_neg hi, if_neg hi, mxo_none]
    · have h1 := joinR_bt out ⟨0, [x]⟩ o0 (Int.le_refl 0)
      have h3 : mostV (joinR out ⟨0, [x]⟩).vars = max (mostV out.vars) (mostV [x]) := most_merge _ _
      have h4 : btV ⟨0, [x]⟩ = max 0 (mostV [x]) := rfl
      have h5 : mostV [x] = max 0 x.plus := rfl
      rw [h1, h3, h4, ← bt]
      omega
theorem fold_RS {vals : List LL} (hv : ∀ y ∈ vals, VL y) : ∀ (vs : List LV) {c : Int} {L : Es} {out : LL}, (∀ x ∈ vs, Rng x) → RS c L out →
    (∃ out', vs.foldl (repOne vals) (some out) = some out' ∧ RS (vs.foldl (asgOne vals) (c, L)).1 (vs.foldl (asgOne vals) (c, L)).2 out') ∨ (vs.foldl (repOne vals) (some out) = none ∧ bigS (vs.foldl (asgOne vals) (c, L)))
  | [], c, L, out, _, r => .inl ⟨out, rfl, r⟩
  | x :: vs, c, L, out, hx, r => by
    rw [List.foldl_cons, List.foldl_cons]
    rcases RS_step hv x (hx x (by simp)) r with ⟨out', e, r'⟩ | ⟨e, b⟩
    · rw [e]
      exact fold_RS hv vs (fun y hy => hx y (by simp [hy])) r'
    · rw [e, rep_none]
      exact .inr ⟨rfl, bigS_all hv vs b⟩
theorem look_none {L : Es} {i : Int} (h : i ∉ L.map (·.1)) : look L i = none := by
  induction L with
  | nil => rfl
  | cons e L ih =>
    rw [List.map_cons, List.mem_cons, not_or] at h
    rw [look, if_neg h.1]; exact ih h.2
theorem keys_srt {L : Es} (hn : (L.map (·.1)).Nodup) : (keysE L).Pairwise (· < ·) := by
  have p := List.mergeSort_perm (L.map (·.1)) fun x y => decide (x ≤ y)
  have h1 : (keysE L).Pairwise (fun a b => decide (a ≤ b) = true) := List.pairwise_mergeSort (fun a b c h1 h2 => by simp at *; omega) (fun a b => by simp; omega) _
  have h2 : (keysE L).Pairwise (· ≠ ·) := p.nodup_iff.2 hn
  exact (h1.and h2).imp fun h => by
    have := of_decide_eq_true h.1
    have := h.2
    omega
theorem lvs_srt {L : Es} (hn : (L.map (·.1)).Nodup) : Srt (lvs L (keysE L)) := by
  unfold Srt lvs
  rw [List.pairwise_map]
  exact keys_srt hn
theorem lvs_pOf (L : Es) (i : Int) : ∀ l : List Int, (∀ z ∈ l, ∃ o, look L z = some o) → pOf (lvs L l) i = if i ∈ l then look L i else none
  | [], _ => by simp [lvs, pOf]
  | z :: l, h => by
    have ih := lvs_pOf L i l fun w hw => h w (by simp [hw])
    show pOf (⟨z, (look L z).getD 0⟩ :: lvs L l) i = _
    rw [pOf, ih]
    by_cases hi : i = z
    · subst hi
      obtain ⟨o, ho⟩ := h i (by simp)
      simp [ho]
    · have : (i ∈ z :: l) ↔ i ∈ l := by simp [hi]
      simp only [if_neg hi, this]
theorem lvs_all {L : Es} (i : Int) : pOf (lvs L (keysE L)) i = look L i := by
  rw [lvs_pOf L i _ fun z hz => keysE_mem hz]
  split
  · rfl
  · rename_i h
    rw [look_none fun hh => h ((List.mergeSort_perm _ _).mem_iff.2 hh)]
theorem limR_RS {c : Int} {L : Es} {out : LL} (hn : (L.map (·.1)).Nodup) (r : RS c L out) : sumR c L = (out, 0) := by
  obtain ⟨lk, bt, c0, vo⟩ := r
  have e : lvs L (keysE L) = out.vars := Srt.ext (lvs_srt hn) vo.srt fun i => by rw [lvs_all, lk]
  unfold sumR limR
  rw [e]
  have o0 := vo.c0
  have o1 := vo.c1
  have m1 : mostV out.vars ≤ 100 := most_le (by omega) fun x hx => (vo.all x hx).2.2.2
  have m0 := most_0 out.vars
  unfold btV at bt
  have hb : big ⟨c, out.vars⟩ = false := by
    unfold big
    rw [Bool.or_eq_false_iff]
    refine ⟨?_, decide_eq_false (by show ¬ 100 < c; omega)⟩
    rw [List.any_eq_false]
    intro x hx
    have := (vo.all x hx).2.2.2
    simp; omega
  rw [hb, cond_false]
  obtain ⟨oc, ov⟩ := out
  simp only at *
  congr 2
  cases hv : covd ⟨c, ov⟩ with
  | true =>
    rw [cond_true]
    obtain ⟨x, hx, hxc⟩ := List.any_eq_true.1 hv
    have hxc : c ≤ x.plus := of_decide_eq_true hxc
    have : x.plus ≤ mostV ov := most_ge hx
    by_cases hc : 0 < oc
    · have h1 : mostV ov < oc := by
        rcases most_cases ov with h | ⟨y, hy, h⟩
        · omega
        · have := vo.covm hc y hy
          have : y.plus < oc := this
          omega
      omega
    · omega
  | false =>
    rw [cond_false]
    have hlt : ∀ x ∈ ov, x.plus < c := by
      intro x hx
      have := List.any_eq_false.1 hv x hx
      simp at this
      exact this
    rcases most_cases ov with h | ⟨y, hy, h⟩
    · rw [h] at bt; omega
    · have := hlt y hy
      by_cases hc : 0 < oc
      · have : y.plus < oc := vo.covm hc y hy
        omega
      · omega
theorem limR_big {s : Int × Es} (h : bigS s) : sumR s.1 s.2 = (⟨0, []⟩, 15) := by
  have hb : big ⟨s.1, lvs s.2 (keysE s.2)⟩ = true := by
    unfold big
    rw [Bool.or_eq_true]
    rcases h with h | ⟨i, o, h1, h2⟩
    · exact .inr (decide_eq_true h)
    · left
      rw [← lvs_all] at h1
      obtain ⟨y, hy, _, e⟩ := pOf_mem h1
      exact List.any_eq_true.2 ⟨y, hy, decide_eq_true (by omega)⟩
  unfold sumR limR
  rw [hb]; rfl
theorem asg_rep {l : LL} {vals : List LL} (hl : VL l) (hv : ∀ y ∈ vals, VL y) : asgR l vals = repR l vals ∧ (∀ r, repS l vals = some r → VL r) := by
  have r0 : RS l.c [] ⟨l.c, []⟩ := ⟨fun i => rfl, rfl, hl.c0, VL.mk' hl.c0 hl.c1 (by simp) (by unfold Srt; simp) (by simp)⟩
  have hn := asgF_nodup (vals := vals) l.vars (l.c, []) List.nodup_nil
  unfold asgR repR asgS repS
  rcases fold_RS hv l.vars hl.all r0 with ⟨out, e, r⟩ | ⟨e, b⟩
  · rw [e]
    exact ⟨limR_RS hn r, fun r' e' => by cases e'; exact r.vl⟩
  · rw [e]
    exact ⟨limR_big b, fun r' e' => by cases e'⟩
theorem max_join {a b : LL} (ha : VL a) (hb : VL b) : limR (max a.c b.c) (mergeV a.vars b.vars) = (joinR a b, 0) := by
  have vj := joinR_VL ha hb
  have a0 := ha.c0
  have a1 := ha.c1
  have b0 := hb.c0
  have b1 := hb.c1
  have hall : ∀ x ∈ mergeV a.vars b.vars, Rng x := vj.all
  have hbg : big ⟨max a.c b.c, mergeV a.vars b.vars⟩ = false := by
    unfold big
    rw [Bool.or_eq_false_iff]
    refine ⟨?_, decide_eq_false (by show ¬ 100 < max a.c b.c; omega)⟩
    rw [List.any_eq_false]
    intro x hx
    have := (hall x hx).2.2.2
    simp; omega
  unfold limR
  rw [hbg, cond_false]
  unfold joinR
  congr 2
  cases hv : covd ⟨max a.c b.c, mergeV a.vars b.vars⟩ with
  | true =>
    obtain ⟨x, hx, hxc⟩ := List.any_eq_true.1 hv
    have hxc : max a.c b.c ≤ x.plus := of_decide_eq_true hxc
    have : x.plus ≤ mostV (mergeV a.vars b.vars) := most_ge hx
    rw [cond_true, if_pos ⟨List.length_pos_of_mem hx, by omega⟩]
  | false =>
    rw [cond_false, if_neg]
    rintro ⟨h1, h2⟩
    have hlt : ∀ x ∈ mergeV a.vars b.vars, x.plus < max a.c b.c := by
      intro x hx
      have := List.any_eq_false.1 hv x hx
      simp at this
      omega
    rcases most_cases (mergeV a.vars b.vars) with h | ⟨y, hy, h⟩
    · obtain ⟨y, hy⟩ := List.exists_mem_of_length_pos h1
      have := hlt y hy
      have := (hall y hy).2.2.1
      omega
    · have := hlt y hy
      omega
structure Pm (l : LL) : Prop where
  vl : VL l
  par : ∀ x ∈ l.vars, 0 ≤ x.idx
theorem srt_len : ∀ {vs : List LV} {a b : Int}, Srt vs → a ≤ b + 1 → (∀ x ∈ vs, a ≤ x.idx ∧ x.idx ≤ b) → (vs.length : Int) ≤ b - a + 1
  | [], a, b, _, h, _ => by simp; omega
  | x :: vs, a, b, hs, h, hx => by
    obtain ⟨h1, h2⟩ := hx x (by simp)
    have := srt_len (vs := vs) (a := x.idx + 1) (b := b) hs.tail (by omega) fun y hy => by
      have := hs.head y hy
      have := (hx y (by simp [hy])).2
      omega
    simp only [List.length_cons]
    omega
theorem Pm.len {l : LL} (h : Pm l) : l.vars.length ≤ 8 := by
  have := srt_len (a := 0) (b := 7) h.vl.srt (by omega) fun x hx => ⟨h.par x hx, (h.vl.all x hx).2.1⟩
  omega
theorem Pm.join {a b : LL} (ha : Pm a) (hb : Pm b) : Pm (joinR a b) :=
  ⟨joinR_VL ha.vl hb.vl, merge_all (P := fun x => 0 ≤ x.idx) (fun _x _y _ hx _ => hx) ha.par hb.par⟩
theorem Pm.zero : Pm ⟨0, []⟩ := ⟨VL.mk' (Int.le_refl 0) (by show (0 : Int) ≤ 100; omega) (by simp) (by unfold Srt; simp) (by simp), by simp⟩
def Sc (n : Nat) (l : LL) : Prop := ∀ x ∈ l.vars, x.idx < 0 → -1 - x.idx < (n : Int)
theorem rep_Pm {vals : List LL} (hv : ∀ y ∈ vals, Pm y) : ∀ (vs : List LV) {out r : LL}, (∀ x ∈ vs, Rng x ∧ (x.idx < 0 → -1 - x.idx < (vals.length : Int))) → Pm out → vs.foldl (repOne vals) (some out) = some r → Pm r
  | [], out, r, _, ho, e => by cases e; exact ho
  | x :: vs, out, r, hx, ho, e => by
    rw [List.foldl_cons] at e
    cases h1 : repOne vals (some out) x with
    | none => rw [h1, rep_none] at e; cases e
    | some o =>
      rw [h1] at e
      refine rep_Pm hv vs (fun y hy => hx y (by simp [hy])) ?_ e
      obtain ⟨hr, hsc⟩ := hx x (by simp)
      unfold repOne at h1
      simp only at h1
      by_cases hm : x.idx < 0 ∧ -1 - x.idx < (vals.length : Int)
      · rw [if_pos hm] at h1
        obtain ⟨y, hy⟩ : ∃ y, vals[(-1 - x.idx).toNat]? = some y := ⟨_, List.getElem?_eq_getElem (by omega)⟩
        rw [hy] at h1
        simp only at h1
        by_cases he : (plusR y x.plus).2 = 0
        · rw [if_pos he] at h1
          cases h1
          have py := hv y (List.mem_of_getElem? hy)
          obtain ⟨p1, p2, _, _⟩ := plusR_VL py.vl hr.2.2.1 he
          refine ho.join ⟨p1, fun z hz => ?_⟩
          rw [p2] at hz
          obtain ⟨w, hw, rfl⟩ := List.mem_map.1 hz
          exact py.par w hw
        · rw [if_neg he] at h1; cases h1
      · rw [if_neg hm] at h1
        cases h1
        have h0 : 0 ≤ x.idx := by
          by_cases h : x.idx < 0
          · exact absurd ⟨h, hsc h⟩ hm
          · omega
        exact ho.join ⟨one_VL hr, fun z hz => by simp at hz; subst hz; exact h0⟩
theorem repR_Pm {vals : List LL} (hv : ∀ y ∈ vals, Pm y) {l : LL} (hl : VL l) (hs : Sc vals.length l) (h0 : (repR l vals).2 = 0) : Pm (repR l vals).1 := by
  unfold repR at h0 ⊢
  cases h : repS l vals with
  | none => rw [h] at h0; simp at h0
  | some r =>
    exact rep_Pm (out := ⟨l.c, []⟩) (r := r) hv l.vars (fun x hx => ⟨hl.all x hx, hs x hx⟩) ⟨VL.mk' hl.c0 hl.c1 (by simp) (by unfold Srt; simp) (by simp), by simp⟩ h
theorem parts_Pm {l : LL} (h : Pm l) : ∀ p ∈ partsR l, Pm p ∧ p.vars.length ≤ 1 := by
  intro p hp
  unfold partsR at hp
  rcases List.mem_append.1 hp with hp | hp
  · split at hp
    · simp at hp
      subst hp
      exact ⟨⟨VL.mk' h.vl.c0 h.vl.c1 (by simp) (by unfold Srt; simp) (by simp), by simp⟩, by simp⟩
    · simp at hp
  · obtain ⟨x, hx, rfl⟩ := List.mem_map.1 hp
    exact ⟨⟨one_VL (h.vl.all x hx), fun z hz => by simp at hz; subst hz; exact h.par z hx⟩, by simp⟩
theorem low_Pm {l : LL} {k : Int} (h : Pm l) (k0 : 0 ≤ k) : Pm (lowR l k) := by
  unfold lowR
  have c0 := h.vl.c0
  have c1 := h.vl.c1
  cases hv : l.vars with
  | nil => exact ⟨VL.mk' (by show 0 ≤ max 0 (l.c - k); omega) (by show max 0 (l.c - k) ≤ 100; omega) (by simp) (by unfold Srt; simp) (by simp), by simp⟩
  | cons x vs =>
    have hx : x ∈ l.vars := by rw [hv]; simp
    obtain ⟨r1, r2, r3, r4⟩ := h.vl.all x hx
    exact ⟨one_VL ⟨r1, r2, by show 0 ≤ max 0 (x.plus - k); omega, by show max 0 (x.plus - k) ≤ 100; omega⟩, fun z hz => by simp at hz; subst hz; exact h.par x hx⟩
theorem piv_of {l : LL} {n : Nat} (h : VL l) (hs : Sc n l) : 0 ≤ (pivR l.vars).2 ∧ (pivR l.vars).2 ≤ 100 ∧ (pivR l.vars).1 < (n : Int) := by
  unfold pivR
  cases hn : lastNeg l.vars with
  | none => simp; omega
  | some x =>
    obtain ⟨h1, h2⟩ := lastNeg_some hn
    obtain ⟨_, _, r3, r4⟩ := h.all x h1
    exact ⟨r3, r4, hs x h1 h2⟩
def stepP (high : LL) (s : Option (List LL × Bool)) (p : LL) : Option (List LL × Bool) := match s with
  | none => none
  | some (vals, ch) =>
    if (repR high vals).2 = 0 then
      if leqB p (repR high vals).1 = true then some (vals, ch)
      else if (pivR high.vars).1 < 0 then none
      else match vals[(pivR high.vars).1.toNat]? with
        | some y => some (vals.set (pivR high.vars).1.toNat (joinR y (lowR p (pivR high.vars).2)), true)
        | none => none
    else none
def visP (low high : LL) (vals : List LL) : Option (List LL × Bool) :=
  if (repR low vals).2 = 0 then (partsR (repR low vals).1).foldl (stepP high) (some (vals, false)) else none
theorem stepP_none (high : LL) (l : List LL) : l.foldl (stepP high) none = none := by
  induction l with
  | nil => rfl
  | cons x l ih => exact ih
theorem stepP_Pm {high : LL} {vals : List LL} {ch : Bool} {p : LL} {r : List LL × Bool} (hh : VL high) (hs : Sc vals.length high) (hv : ∀ y ∈ vals, Pm y) (hp : Pm p) (e : stepP high (some (vals, ch)) p = some r) : (∀ y ∈ r.1, Pm y) ∧ r.1.length = vals.length := by
  unfold stepP at e
  simp only at e
  by_cases h1 : (repR high vals).2 = 0
  · rw [if_pos h1] at e
    by_cases h2 : leqB p (repR high vals).1 = true
    · rw [if_pos h2] at e; cases e; exact ⟨hv, rfl⟩
    · rw [if_neg h2] at e
      by_cases h3 : (pivR high.vars).1 < 0
      · rw [if_pos h3] at e; cases e
      · rw [if_neg h3] at e
        cases hy : vals[(pivR high.vars).1.toNat]? with
        | none => rw [hy] at e; cases e
        | some y =>
          rw [hy] at e
          cases e
          refine ⟨fun z hz => ?_, by simp⟩
          rcases List.mem_or_eq_of_mem_set hz with h | h
          · exact hv z h
          · rw [h]; exact (hv y (List.mem_of_getElem? hy)).join (low_Pm hp (piv_of hh hs).1)
  · rw [if_neg h1] at e; cases e
end Go.Proofs.YtnacljdablhbgaaGreat
