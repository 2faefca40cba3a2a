/- UnifyInverts: the contracts of both Inverts (no condition). -/
import Derived.Test.YtnacljdablhbgaaGreatCk
namespace Go.Proofs.YtnacljdablhbgaaGreat
open Go.AG

theorem freeT {P : T × Int → Prop} {o : AOut} (h : isT P o) : o.free = true := by obtain ⟨e, rfl, _⟩ := h; simp [AOut.free, AV.free, AV.frees, enc_free]

theorem WF_FV {v : Int} {t : T} {d y : Int} (hf : FV t d y) (hw : WF v t d) : 0 ≤ y ∧ y < v := by
  induction hf with
  | here hk hd => obtain ⟨w1, w2⟩ := hw; have := w1 hk; omega
  | kid hj _ ih => obtain ⟨w1, w2⟩ := hw; exact ih (w2 _ _ hj)

theorem c92 (m : Nat) (a : List AV) (h : AH) : cl (m + 1) (.fn 92 [] []) a .no h = evFn EI (cl m) 10000 92 a .no h := by rw [cl_run (by rw [allS_fids]; decide) (by decide), List.append_nil]
theorem c130 (m : Nat) (a : List AV) (h : AH) : cl (m + 1) (.fn 130 [] []) a .no h = evFn EI (cl m) 10000 130 a .no h := by rw [cl_run (by rw [allS_fids]; decide) (by decide), List.append_nil]
theorem c131 (m : Nat) (a : List AV) (h : AH) : cl (m + 1) (.fn 131 [] []) a .no h = evFn EI (cl m) 10000 131 a .no h := by rw [cl_run (by rw [allS_fids]; decide) (by decide), List.append_nil]
theorem c46 (m : Nat) (a : List AV) (h : AH) : cl (m + 1) (.fn 46 [] []) a .no h = evFn EI (cl m) 10000 46 a .no h := by rw [cl_run (by rw [allS_fids]; decide) (by decide), List.append_nil]
theorem c90 (m : Nat) (a : List AV) (h : AH) : cl (m + 1) (.fn 90 [] []) a .no h = evFn EI (cl m) 10000 90 a .no h := by rw [cl_run (by rw [allS_fids]; decide) (by decide), List.append_nil]
theorem c43 (m : Nat) (a : List AV) (h : AH) : cl (m + 1) (.fn 43 [] []) a .no h = evFn EI (cl m) 10000 43 a .no h := by rw [cl_run (by rw [allS_fids]; decide) (by decide), List.append_nil]
theorem c85 (m : Nat) (a : List AV) (h : AH) : cl (m + 1) (.fn 85 [] []) a .no h = evFn EI (cl m) 10000 85 a .no h := by rw [cl_run (by rw [allS_fids]; decide) (by decide), List.append_nil]
theorem c81 (m : Nat) (a : List AV) (h : AH) : cl (m + 1) (.fn 81 [] []) a .no h = evFn EI (cl m) 10000 81 a .no h := by rw [cl_run (by rw [allS_fids]; decide) (by decide), List.append_nil]
theorem c83 (m : Nat) (c a : List AV) (rc : RC) (h : AH) : cl (m + 1) (.fn 83 [] c) a rc h = evFn EI (cl m) 10000 83 (a ++ c) rc h := cl_run (by rw [allS_fids]; decide) (by decide) m c a rc h
theorem c127 (m : Nat) (c a : List AV) (h : AH) : cl (m + 1) (.fn 127 [] c) a .no h = evFn EI (cl m) 10000 127 (a ++ c) .no h := cl_run (by rw [allS_fids]; decide) (by decide) m c a .no h
theorem c86 (m : Nat) (c a : List AV) (h : AH) : cl (m + 1) (.fn 86 [] c) a .no h = evFn EI (cl m) 10000 86 (a ++ c) .no h := cl_run (by rw [allS_fids]; decide) (by decide) m c a .no h
theorem c124 (m : Nat) (c a : List AV) (h : AH) : cl (m + 1) (.fn 124 [] c) a .no h = evFn EI (cl m) 10000 124 (a ++ c) .no h := cl_run (by rw [allS_fids]; decide) (by decide) m c a .no h
theorem c122 (m : Nat) (c a : List AV) (h : AH) : cl (m + 1) (.fn 122 [] c) a .no h = evFn EI (cl m) 10000 122 (a ++ c) .no h := cl_run (by rw [allS_fids]; decide) (by decide) m c a .no h

theorem A10 (t : T) (vars : List Int) (hs : size t ≤ 200) (hf : Fit t) (hw : WF 1000 t 0) (hv : vars.length ≤ 20) : ∃ o, isT (invR vars t) o ∧ Ans CI (.fn 10 [] []) (aZT (vars, t)) o := by
  obtain ⟨o, ⟨L, rfl, hp1, hp2⟩, hu⟩ := mkS_use (G_both.2 S45 (by simp [allS])) t (A45 t 1000 (by omega) hf hw)
  obtain ⟨k, i, nm, ls, ks⟩ := t
  refine ans_of (n := 10000) (cl_ok 1000) cf10 (pureI 10) (by simp [aZT, AV.frees, AV.free, enc_free, encI_frees]) (fun _ => freeT) (run10 (cl 1000) 10000 k i nm ls ks vars L (by omega) hv (by omega) (fun y hy => WF_FV ((hp1 y).1 hy) hw) (fun y hy => (hp1 y).2 hy) ?_ ?_ ?_)
  · intro l x h hl
    obtain ⟨o, rfl, hu⟩ := mkS_use (G_both.2 S44 (by simp [allS])) (l, x) (A44 l x (by omega))
    exact cl_G (hu _ h (by simp [aZI, AV.norms, AV.norm, encI_norms])) _
  · intro h
    exact cl_G (hu _ h (by rw [← enc_eq]; simp [aT, AV.norms, enc_norm])) _
  · intro to V h hV hto
    rw [← enc_eq, c46 999]
    refine call46 (cl 999) 10000 k i nm ls ks to V h hV (fun H q1 q2 q3 => ?_)
    exact ren92 hto (by omega) (fun m k j h => cl_G (g72 k j h) m) c92 c130 c131 999 (.mk k i nm ls ks) 0 H 0 0 (by omega) hw (by omega) (by omega) q1 q2 q3

theorem A9 (t : T) (vars : List Int) (hs : size t ≤ 200) (hf : Fit t) (hsh : Short t) (hw : WF 1000 t 0) (hv : vars.length ≤ 20) (h41 : ∃ o, isL (fvP t) o ∧ Ans CI (.fn 41 [] []) (aT t) o) : ∃ o, isT (invR vars t) o ∧ Ans CI (.fn 9 [] []) (aZT (vars, t)) o := by
  obtain ⟨o, ⟨L, rfl, hp1, hp2⟩, hu⟩ := mkS_use (G_both.2 S41 (by simp [allS])) t h41
  obtain ⟨k, i, nm, ls, ks⟩ := t
  refine ans_of (n := 10000) (cl_ok 1000) cf9 (pureI 9) (by simp [aZT, AV.frees, AV.free, enc_free, encI_frees]) (fun _ => freeT) (run9 (cl 1000) 10000 k i nm ls ks vars L (by omega) hv (by omega) (fun y hy => WF_FV ((hp1 y).1 hy) hw) hp1 ?_ ?_ ?_ ?_)
  · intro l x h hl
    obtain ⟨o, rfl, hu⟩ := mkS_use (G_both.2 S40 (by simp [allS])) (l, x) (A40 l x (by omega))
    exact cl_G (hu _ h (by simp [aZI, AV.norms, AV.norm, encI_norms])) _
  · intro x h
    exact cl_G (g42 vars x (by omega) h) _
  · intro h
    exact cl_G (hu _ h (by rw [← enc_eq]; simp [aT, AV.norms, enc_norm])) _
  · intro to V h hV hto hb
    rw [← enc_eq, c43 999]
    refine call43 (cl 999) 10000 k i nm ls ks to V h hV (fun a b H => ?_) (fun f H hf => ?_) (fun kf kb H q1 q2 q3 q4 q5 => ?_)
    · rw [c83 998]; exact call83 (cl 998) 10000 a b H
    · rw [c85 998]; exact call85 (cl 998) 10000 f H hf
    · rw [← enc_eq]
      exact build90 hto (by omega) (fun m k j h => cl_G (g128 k j h) m) (fun m k i nm ls ks h h1 h2 => cl_G (g87 k i nm ls ks h h1 h2) m) (fun m x hx h => cl_G (g89 x hx h) m) c90 c127 c86 999 (.mk k i nm ls ks) 0 H (by omega) hw hsh hb (by omega) (by omega) q1 q2 q3 q4 q5

theorem A123 : ∃ o, o = .ret (.agg U65) ∧ Ans CI (.fn 123 [] []) (a0 ()) o := by
  have h0 : CallOk CI (fun _ _ _ _ => none) := by intro f a rc h out rc' h' q; cases q
  have e := ev123
  cases hv : evFn EI (fun _ _ _ _ => none) 1 123 [] .no emptyH with
  | none => rw [hv] at e; cases e
  | some r =>
    obtain ⟨o, rc, h'⟩ := r
    rw [hv] at e
    injection e with e
    injection e with e1 e2
    subst e1 e2
    exact ⟨_, rfl, by simp [AV.free, AV.frees], by simp [a0, AV.frees], by simp [AOut.free, AV.free, U65, AV.frees], _, h', _, step_ok hEI h0 1, hv, by simp [AOut.norm, AV.norm, AV.norms, U65]⟩
theorem g123 (h : AH) : G (.fn 123 [] []) [] .no h = some (.ret (.agg U65), .no, h) := by
  obtain ⟨o, rfl, hu⟩ := mkS_use (G_both.2 S123 (by simp [allS])) () A123
  exact hu _ h rfl

theorem sortMem (zs : List Int) : (∀ y, y ∈ sorted zs ↔ y ∈ zs) ∧ (sorted zs).length = zs.length := by
  have p := List.mergeSort_perm zs fun x y => decide (x ≤ y)
  exact ⟨fun y => p.mem_iff, p.length_eq⟩

theorem c82 (m : Nat) (h : AH) (v : AV) (out : List Int) (ho : Own 10 1 false h v (out.map AG.encI)) (hl : out.length ≤ 100000) :
    ∃ (h' : AH) (out2 : List Int), cl m (.fn 82 [] []) [v] .no h = some (.ret (.tup []), .no, h') ∧ Own 10 1 false h' v (out2.map AG.encI) ∧ (∀ y, y ∈ out2 ↔ y ∈ out) ∧ out2.length = out.length ∧ ∀ k, k < 10 → h'.get k = h.get k := by
  have hG : ∀ a, G (.fn 82 [] []) a .no h = none := fun a => G_none (by rw [allS_fids]; decide)
  have known : ∀ {a r}, sortCall (.fn 82 [] []) a .no h = some r → cl m (.fn 82 [] []) a .no h = some r := by
    intro a r e
    exact mix_known (by simp only [K0, hG, e]) m
  obtain ⟨hc, ⟨rfl, e⟩ | ⟨k, g, rfl, e1, e2, e3⟩⟩ := ho
  · have : out = [] := by simpa using e
    subst this
    exact ⟨h, [], known rfl, ⟨by simp, .inl ⟨rfl, rfl⟩⟩, fun _ => Iff.rfl, rfl, fun _ _ => rfl⟩
  · rw [flat_encI] at e1
    rw [List.length_map] at *
    by_cases hn : out.length = 0
    · have : out = [] := List.length_eq_zero_iff.1 hn
      subst this
      exact ⟨h, [], known (by simp only [sortCall]; rw [if_pos hn]), ⟨by simp, .inr ⟨k, g, rfl, by rw [flat_encI]; exact e1, e2, e3⟩⟩, fun _ => Iff.rfl, rfl, fun _ _ => rfl⟩
    · have hx : ∃ zs : List Int, h.get k = some (.row g 1 false (zs.map AG.encI) 0) ∧ zs.length = out.length ∧ out.length < 4611686018427387904 := ⟨out, e1, rfl, by omega⟩
      have hch : hx.choose = out := by
        have := e1.symm.trans hx.choose_spec.1
        injection this with this
        injection this with _ _ _ this
        exact (map_inj (fun _ _ => encI_inj) this).symm
      have hs := sortMem out
      refine ⟨h.set k (.row g 1 false ((sorted out).map AG.encI) 0), sorted out, known ?_, ⟨?_, .inr ⟨k, g, ?_, ?_, ?_, e3⟩⟩, hs.1, hs.2, fun j hj => get_set_o (by omega)⟩
      · simp only [sortCall]
        rw [if_neg hn, dif_pos hx, hch]
      · intro x hx
        obtain ⟨y, _, rfl⟩ := List.mem_map.1 hx
        exact ⟨rfl, rfl⟩
      · rw [List.length_map, hs.2]
      · rw [flat_encI, get_set, if_pos rfl]
      · rw [next_set]; exact e2

theorem A41 (t : T) (hs : size t ≤ 200) (hw : WF 1000 t 0) : ∃ o, isL (fvP t) o ∧ Ans CI (.fn 41 [] []) (aT t) o := by
  obtain ⟨k, i, nm, ls, ks⟩ := t
  refine ansD_of (n := 10000) (cl_ok 1000) cf41 (pureI 41) (by simp [aT, AV.frees, enc_free]) (fun _ => freeL) (run41 (cl 1000) 10000 k i nm ls ks (fun h => ?_) (fun tm0 h t3 t4 hn b1 b2 b3 b4 b6 => ?_) (c82 1000) (by omega))
  · rw [c81 999]; exact call81 (cl 999) 10000 k i nm ls ks h
  · rw [c122 999]
    refine call122 (cl 999) 10000 tm0 k i nm ls ks h hn b1 b2 b3 b4 b6 (fun h => cl_G (g123 h) _) (fun H v out F hl => ?_)
    rw [← enc_eq]
    exact visit124 (by omega) t3 t4 (fun m a h => cl_yld m 6 a h) c124 999 (.mk k i nm ls ks) 0 H v out (by omega) hw (by omega) (by omega) F (by omega)

end Go.Proofs.YtnacljdablhbgaaGreat

/- UnifyInverts: the contract of the law, from that of awake (no condition). -/
namespace Go.Proofs.YtnacljdablhbgaaGreat
open Go.AG

theorem Fit_Thin {t : T} (h : Fit t) : Thin t := by
  induction h with
  | mk h1 h2 h3 h4 h5 h6 h7 ih => exact ⟨h4, h5, h6, ih⟩

theorem Thin_ren {to : List Int} {t : T} (h : Thin t) : ∀ d, Thin (ren to t d) := by
  induction h with
  | @mk k i nm ls ks h4 h5 h6 h7 ih =>
    intro d
    simp only [ren]
    by_cases hk : k = 0
    · rw [if_pos hk]
      by_cases hl : i < d
      · rw [if_pos hl]; exact ⟨h4, h5, h6, h7⟩
      · rw [if_neg hl]; exact ⟨by simp, by simp, by simp, by simp⟩
    · rw [if_neg hk]
      refine ⟨h4, h5, by rw [rens_length]; exact h6, fun t ht => ?_⟩
      obtain ⟨a, ha⟩ := List.mem_iff_getElem?.1 ht
      rw [rens_get] at ha
      cases hg : ks[a]? with
      | none => rw [hg] at ha; cases ha
      | some u =>
        rw [hg] at ha
        cases ha
        exact ih u (List.mem_of_getElem? hg) _

theorem Thin_invR {vars : List Int} {t : T} {r : T × Int} (h : Thin t) (hr : invR vars t r) : Thin r.1 := by
  have h0 : Thin T0 := ⟨by simp, by simp, by simp, by simp⟩
  rcases hr with ⟨_, rfl⟩ | ⟨_, to, _, rfl⟩
  · exact h0
  · unfold renR; split
    · exact h0
    · exact Thin_ren h 0

theorem A3 (t : T) (vars : List Int) (hf : Fit t) (h8 : ∃ o, o = .ret (.bool true) ∧ Ans CI (.fn 8 [] []) (a0 ()) o) : ∃ h' o', evFn EI G 0 3 (aZT (vars, t)) .no emptyH = some (o', .no, h') ∧ o'.norm = .ret (.bool true) := by
  obtain ⟨o8, rfl, u8⟩ := mkS_use (G_both.2 S8 (by simp [allS])) () h8
  obtain ⟨o6, ⟨bF, rfl, hF⟩, u6⟩ := mkS_use (G_both.2 S6 (by simp [allS])) [t] (A6 _ [t] (Nat.le_refl _) (by simp) (by simpa using hf))
  have e7 : ∃ e7 : Int, (bF = true → ∀ a h, AV.norms a = aChk7 (t, 1000, 8, 65536, 65536) → G (.fn 7 [] []) a .no h = some (.ret (.int .i64 e7), .no, h)) ∧ (bF = true → e7 = 0 → WF 1000 t 0) := by
    by_cases hb : bF = true
    · have hs := (hF hb).1
      simp only [sizes] at hs
      obtain ⟨o7, ⟨e, rfl, he⟩, u7⟩ := mkS_use (G_both.2 S7 (by simp [allS])) (t, 1000, 8, 65536, 65536) (A7 t 1000 8 65536 65536 (by omega) hf)
      exact ⟨e, fun _ => u7, fun _ => he⟩
    · exact ⟨0, fun h => absurd h hb, fun h => absurd h hb⟩
  obtain ⟨e7, u7, w7⟩ := e7
  have er : ∃ r : T × Int, (vars.length ≤ 20 → bF = true → e7 = 0 → (∀ a h, AV.norms a = aZT (vars, t) → G (.fn 9 [] []) a .no h = some (.ret (.tup [enc r.1, .int .i64 r.2]), .no, h)) ∧ (∀ a h, AV.norms a = aZT (vars, t) → G (.fn 10 [] []) a .no h = some (.ret (.tup [enc r.1, .int .i64 r.2]), .no, h)) ∧ Thin r.1) := by
    by_cases hb : vars.length ≤ 20 ∧ bF = true ∧ e7 = 0
    · obtain ⟨hv, hb, he⟩ := hb
      have hs := (hF hb).1
      have hsh := (hF hb).2 t (by simp)
      simp only [sizes] at hs
      have hw := w7 hb he
      obtain ⟨o9, ⟨r, rfl, h9⟩, u9⟩ := mkS_use (G_both.2 S9 (by simp [allS])) (vars, t) (A9 t vars (by omega) hf hsh hw hv (A41 t (by omega) hw))
      obtain ⟨o10, ⟨r', rfl, h10⟩, u10⟩ := mkS_use (G_both.2 S10 (by simp [allS])) (vars, t) (A10 t vars (by omega) hf hw hv)
      have := invR_one h9 h10
      subst this
      exact ⟨r, fun _ _ _ => ⟨u9, u10, Thin_invR (Fit_Thin hf) h9⟩⟩
    · exact ⟨(t, 0), fun h1 h2 h3 => absurd ⟨h1, h2, h3⟩ hb⟩
  obtain ⟨r, ur⟩ := er
  obtain ⟨k, i, nm, ls, ks⟩ := t
  refine evFn_R cf3 (pureI 3) (run3 G 0 k i nm ls ks vars bF e7 r (fun h => u8 _ h rfl) (fun h => u6 _ h ?_) (fun hb h => u7 hb _ h ?_) (fun h1 h2 h3 h => (ur h1 h2 h3).1 _ h ?_) (fun h1 h2 h3 h => (ur h1 h2 h3).2.1 _ h ?_) (fun h1 h2 h3 h => ?_))
  · rw [← enc_eq]; simp [aTs, AV.norms, AV.norm, enc_norm]
  · rw [← enc_eq]; simp [aChk7, AV.norms, AV.norm, enc_norm]
  · rw [← enc_eq]; simp [aZT, AV.norms, AV.norm, enc_norm, encI_norms]
  · rw [← enc_eq]; simp [aZT, AV.norms, AV.norm, enc_norm, encI_norms]
  · obtain ⟨o, rfl, hu⟩ := mkS_use (G_both.2 S11 (by simp [allS])) r.1 (A11 _ r.1 (Nat.le_refl _) (ur h1 h2 h3).2.2)
    exact hu _ h (by simp [aTT, AV.norms, enc_norm])

end Go.Proofs.YtnacljdablhbgaaGreat
