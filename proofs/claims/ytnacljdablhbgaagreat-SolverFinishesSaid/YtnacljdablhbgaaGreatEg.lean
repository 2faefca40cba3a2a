/- SolverFinishes: the contracts of the guards; the table (no condition). -/
import Derived.Test.YtnacljdablhbgaaGreatEf
namespace Go.Proofs.YtnacljdablhbgaaGreat
open Go.AG
theorem encM_inj (x y : MV) (h : encM x = encM y) : x = y := by
  have h1 : enc x.ty = enc y.ty := by
    have := congrArg (fun a => evFaddr (.vptr a) emptyH 0 5 true) h
    simp only [faddr_M0] at this
    injection this with e; injection e
  have h2 : enc x.val = enc y.val := by
    have := congrArg (fun a => evFaddr (.vptr a) emptyH 6 5 true) h
    simp only [faddr_M6] at this
    injection this with e; injection e
  obtain ⟨a, b, c, d⟩ := x
  obtain ⟨a', b', c', d'⟩ := y
  have h3 : b = b' := by simp [encM] at h; exact h.2.2.2.2.2.1
  have h4 : d = d' := by simp [encM] at h; exact h.2.2.2.2.2.2.2.2.2.2.2
  rw [show a = a' from enc_inj h1, show c = c' from enc_inj h2, h3, h4]
def aTI (x : T × Int) : List AV := [enc x.1, .int .i64 x.2]
theorem aTI_inj (x y : T × Int) (h : aTI x = aTI y) : x = y := by
  obtain ⟨a, b⟩ := x; obtain ⟨c, d⟩ := y
  simp [aTI] at h
  rw [enc_inj h.1, h.2]
def a59 (x : List T × Int × Int × Int × Int) : List AV := [.lst (x.1.map enc), .int .i64 x.2.1, .int .i64 x.2.2.1, .int .i64 x.2.2.2.1, .int .i64 x.2.2.2.2]
theorem a59_inj (x y : List T × Int × Int × Int × Int) (h : a59 x = a59 y) : x = y := by
  obtain ⟨a, b, c, d, e⟩ := x; obtain ⟨a', b', c', d', e'⟩ := y
  simp only [a59, List.cons.injEq, AV.int.injEq, AV.lst.injEq, true_and, and_true] at h
  obtain ⟨h1, h2, h3, h4, h5⟩ := h
  rw [map_inj (fun _ _ => enc_inj) h1, h2, h3, h4, h5]
def a18 (x : List MV × List T × List T) : List AV := [.lst (x.1.map encM), .lst (x.2.1.map enc), .lst (x.2.2.map enc)]
theorem a18_inj (x y : List MV × List T × List T) (h : a18 x = a18 y) : x = y := by
  obtain ⟨a, b, c⟩ := x; obtain ⟨a', b', c'⟩ := y
  simp only [a18, List.cons.injEq, AV.lst.injEq, and_true] at h
  rw [map_inj encM_inj h.1, map_inj (fun _ _ => enc_inj) h.2.1, map_inj (fun _ _ => enc_inj) h.2.2]
def aMs (x : List MV) : List AV := [.lst (x.map encM)]
theorem aMs_inj (x y : List MV) (h : aMs x = aMs y) : x = y := by
  simp only [aMs, List.cons.injEq, AV.lst.injEq, and_true] at h
  exact map_inj encM_inj h
def aLs0 (x : List LL) : List AV := [.lst (x.map encL), .lst []]
theorem aLs0_inj (x y : List LL) (h : aLs0 x = aLs0 y) : x = y := by
  simp only [aLs0, List.cons.injEq, AV.lst.injEq, and_true] at h
  exact map_inj (fun _ _ => encL_inj) h
def aT0 (x : T) : List AV := [enc x, enc (.mk 0 0 (bs []) [] [])]
theorem aT0_inj (x y : T) (h : aT0 x = aT0 y) : x = y := by simp [aT0] at h; exact enc_inj h
noncomputable def Z135 : AG.Spec := mkS 135 aL aL_inj vB
noncomputable def Z21 : AG.Spec := mkS 21 aL aL_inj vB
noncomputable def Z20 : AG.Spec := mkS 20 aTI aTI_inj fun _ o => isB o
noncomputable def Z49 : AG.Spec := mkS 49 aIT aIT_inj fun _ o => isB o
noncomputable def Z59 : AG.Spec := mkS 59 a59 a59_inj fun _ o => isI o
noncomputable def Z47 : AG.Spec := mkS 47 aLs0 aLs0_inj fun _ o => isB o
noncomputable def Z11 : AG.Spec := mkS 11 aT0 aT0_inj fun _ o => isB o
noncomputable def Z18 : AG.Spec := mkS 18 a18 a18_inj fun _ o => isB o
noncomputable def Z48 : AG.Spec := mkS 48 aMs aMs_inj isB8
noncomputable def Z58 : AG.Spec := mkS 58 aLL aLL_inj fun _ o => o = .ret (.bool true)
noncomputable def Z13 : AG.Spec := mkS 13 a0 a0_inj fun _ o => o = .ret (.bool true)
noncomputable def allZ : List AG.Spec := [S24, S6, S7, Z135, Z21, Z20, Z49, Z59, Z47, Z11, Z18, Z48, Z58, Z13]
theorem allZ_fids : allZ.map AG.Spec.fid = [24, 6, 7, 135, 21, 20, 49, 59, 47, 11, 18, 48, 58, 13] := rfl
noncomputable def GZ : CallF := tblCall (tblAll allZ)
theorem allZ_meets : ∀ s ∈ allZ, s.Meets CI := by
  intro s hs
  simp only [allZ, List.mem_cons, List.mem_nil_iff, or_false] at hs
  rcases hs with h | h | h | h | h | h | h | h | h | h | h | h | h | h <;> (subst h; exact mkS_meets)
theorem GZ_both : CallOk CI GZ ∧ ∀ s ∈ allZ, s.Used GZ := oracles_at allZ allZ_meets (by rw [allZ_fids]; decide)
theorem GZ_none {f : FuncId} {c a : List AV} {rc : RC} {h : AH} (hf : f ∉ allZ.map AG.Spec.fid) : GZ (.fn f [] c) a rc h = none := by
  have hn : ∀ s ∈ allZ, f ≠ s.fid := fun s hs e => hf (e ▸ List.mem_map_of_mem hs)
  unfold GZ tblCall
  cases rc <;> try rfl
  simp only [AV.norm, AV.norms, tblAll_none hn]
theorem GZ_yld {k : Nat} {a : List AV} {rc : RC} {h : AH} : GZ (.yld k) a rc h = none := by
  unfold GZ tblCall
  cases rc <;> try rfl
  simp only [AV.norm, tblAll_yld]
theorem A20 : ∀ (m : Nat) (t : T) (n : Int), size t ≤ m → Fit t → ∃ o, isB o ∧ Ans CI (.fn 20 [] []) (aTI (t, n)) o := by
  intro m
  induction m with
  | zero => intro t n h; have := size_pos t; omega
  | succ m ih =>
    rintro ⟨k, i, nm, ls, ks⟩ n h hf
    obtain ⟨f1, f2, f3, f4, f5, f6, f7⟩ := hf
    simp only [size] at h
    refine ansF_of (n := 1125899906842625) GZ_both.1 cf20 (pureF 20) (by simp [aTI, AV.frees, AV.free, enc_free]) (fun _ => freeB) (run20 GZ _ k i nm ls ks n (by omega) (fun l hl => by have := f5 l hl; omega) (by omega) (by omega) (fun t ht => ?_))
    obtain ⟨a, ha, rfl⟩ := List.mem_iff_getElem.1 ht
    have hs := size_mem (List.getElem?_eq_getElem ha)
    obtain ⟨o, ⟨b, rfl⟩, hu⟩ := mkS_use (GZ_both.2 Z20 (by simp [allZ])) (ks[a], n) (ih ks[a] n (by omega) (f7 _ ht))
    exact ⟨b, fun h' => hu _ h' (by simp [aTI, AV.norms, AV.norm, enc_norm])⟩
theorem us20 (t : T) (n : Int) (hf : Fit t) : ∃ b : Bool, ∀ a h, AV.norms a = [enc t, .int .i64 n] → GZ (.fn 20 [] []) a .no h = some (.ret (.bool b), .no, h) := by
  obtain ⟨o, ⟨b, rfl⟩, hu⟩ := mkS_use (GZ_both.2 Z20 (by simp [allZ])) (t, n) (A20 _ t n (Nat.le_refl _) hf)
  exact ⟨b, fun a h ha => hu a h ha⟩
theorem A49 (l : List T) (n : Int) (hl : l.length < 1125899906842624) (hf : ∀ t ∈ l, Fit t) : ∃ o, isB o ∧ Ans CI (.fn 49 [] []) (aIT (n, l)) o :=
  ansF_of (n := 1125899906842625) GZ_both.1 cf49 (pureF 49) (by simp [aIT, AV.frees, AV.free, encT_frees]) (fun _ => freeB) (run49 GZ _ n l (by omega) (by omega) (fun t ht => by
    obtain ⟨b, hb⟩ := us20 t n (hf t ht)
    exact ⟨b, fun h => hb _ h (by simp [AV.norms, AV.norm, enc_norm])⟩))
theorem us7 (t : T) (v p q r : Int) (hs : size t ≤ 10000) (hf : Fit t) : ∃ e : Int, ∀ a h, AV.norms a = aChk7 (t, v, p, q, r) → GZ (.fn 7 [] []) a .no h = some (.ret (.int .i64 e), .no, h) := by
  obtain ⟨o, ⟨e, rfl, _⟩, hu⟩ := mkS_use (GZ_both.2 S7 (by simp [allZ])) (t, v, p, q, r) (A7 t v p q r hs hf)
  exact ⟨e, fun a h ha => hu a h ha⟩
theorem us24 (l : List T) (m : Int) (hm : m < 9223372036854775808) (hl : l.length < 1125899906842624) (hf : ∀ t ∈ l, Fit t) : ∃ e : Int, (∀ a h, AV.norms a = aIT (m, l) → GZ (.fn 24 [] []) a .no h = some (.ret (.int .i64 e), .no, h)) ∧ (sizes l < 2305843009213693952 → 0 ≤ e ∧ e ≤ sizes l ∧ (e ≤ m → e = sizes l)) := by
  obtain ⟨o, ⟨e, rfl, he⟩, hu⟩ := mkS_use (GZ_both.2 S24 (by simp [allZ])) (m, l) (A24 _ l m (Nat.le_refl _) hm hl hf)
  exact ⟨e, fun a h ha => hu a h ha, he⟩
theorem us6 (l : List T) (hl : l.length < 1125899906842624) (hf : ∀ t ∈ l, Fit t) : ∃ b : Bool, (∀ a h, AV.norms a = aTs l → GZ (.fn 6 [] []) a .no h = some (.ret (.bool b), .no, h)) ∧ (b = true → sizes l ≤ 200 ∧ ∀ t ∈ l, Short t) := by
  obtain ⟨o, ⟨b, rfl, hb⟩, hu⟩ := mkS_use (GZ_both.2 S6 (by simp [allZ])) l (A6 _ l (Nat.le_refl _) hl hf)
  exact ⟨b, fun a h ha => hu a h ha, hb⟩
theorem A59 (l : List T) (a p q r : Int) (hl : l.length < 1125899906842624) (hs : sizes l ≤ 10000) (hf : ∀ t ∈ l, Fit t) : ∃ o, isI o ∧ Ans CI (.fn 59 [] []) (a59 (l, a, p, q, r)) o :=
  ansF_of (n := 1125899906842625) GZ_both.1 cf59 (pureF 59) (by simp [a59, AV.frees, AV.free, encT_frees]) (fun _ => freeI) (run59 GZ _ l a p q r (by omega) (by omega) (fun t ht v => by
    obtain ⟨i, hi, rfl⟩ := List.mem_iff_getElem.1 ht
    have hsz := size_mem (List.getElem?_eq_getElem hi)
    obtain ⟨e, he⟩ := us7 l[i] v p q r (by omega) (hf _ ht)
    exact ⟨e, fun h => he _ h (by simp [aChk7, AV.norms, AV.norm, enc_norm])⟩))
theorem A47z (l : List LL) : ∃ o, isB o ∧ Ans CI (.fn 47 [] []) (aLs0 l) o :=
  ansF_of (n := 1) GZ_both.1 ((cfE 47).trans cf47) (pureF 47) (by simp [aLs0, AV.frees, AV.free, encL_frees]) (fun _ => freeB) (run47z GZ 1 l (by omega))
theorem A11z (t : T) : ∃ o, isB o ∧ Ans CI (.fn 11 [] []) (aT0 t) o := by
  obtain ⟨k, i, nm, ls, ks⟩ := t
  refine ansF_of (n := 1) GZ_both.1 ((cfE 11).trans cf11) (pureF 11) (by simp [aT0, AV.frees, enc_free]) (fun _ => freeB) (run11z GZ 1 k i nm ls ks (by omega) ?_)
  obtain ⟨o, ⟨b, rfl⟩, hu⟩ := mkS_use (GZ_both.2 Z47 (by simp [allZ])) ls (A47z ls)
  exact ⟨b, fun h => hu _ h (by simp [aLs0, AV.norms, AV.norm, encL_norms])⟩
theorem A18 (ms : List MV) (ctx ts : List T) (hl : ctx.length < 1125899906842624) (hc : ∀ t ∈ ctx, Fit t) (hl2 : ts.length < 1125899906842624) (ht : ∀ t ∈ ts, Fit t) : ∃ o, isB o ∧ Ans CI (.fn 18 [] []) (a18 (ms, ctx, ts)) o := by
  obtain ⟨e1, v1, p1⟩ := us24 ctx 60 (by omega) hl hc
  obtain ⟨e2, v2, p2⟩ := us24 ts 60 (by omega) hl2 ht
  obtain ⟨b1, v3, w3⟩ := us6 ctx hl hc
  obtain ⟨b2, v4, w4⟩ := us6 ts hl2 ht
  have msf : AV.frees (ms.map encM) = true := frees_map encM_free ms
  refine ansF_of (n := 1125899906842625) GZ_both.1 cf18 (pureF 18) (by simp [a18, AV.frees, AV.free, encT_frees, msf]) (fun _ => freeB) (run18 GZ _ ms ctx ts e1 e2 b1 b2 (by omega) (by omega) (fun h => v1 _ h (by simp [aIT, AV.norms, AV.norm, encT_norms])) (fun h => v2 _ h (by simp [aIT, AV.norms, AV.norm, encT_norms])) (fun h => v3 _ h (by simp [aTs, AV.norms, AV.norm, encT_norms])) (fun h => v4 _ h (by simp [aTs, AV.norms, AV.norm, encT_norms])) (fun hb t htm => ?_) (fun hb => ?_))
  · obtain ⟨i, hi, rfl⟩ := List.mem_iff_getElem.1 htm
    have hsz := size_mem (List.getElem?_eq_getElem hi)
    have := (w4 hb).1
    obtain ⟨e, he⟩ := us7 ts[i] (ctx.length : Int) 8 (ms.length : Int) 65536 (by omega) (ht _ htm)
    exact ⟨e, fun h => he _ h (by simp [aChk7, AV.norms, AV.norm, enc_norm])⟩
  · have := (w3 hb).1
    obtain ⟨o, ⟨e, rfl⟩, hu⟩ := mkS_use (GZ_both.2 Z59 (by simp [allZ])) (ctx, 0, 8, (ms.length : Int), 65536) (A59 ctx 0 8 (ms.length : Int) 65536 hl (by omega) hc)
    exact ⟨e, fun h => hu _ h (by simp [a59, AV.norms, AV.norm, encT_norms])⟩
theorem freeB8 {ms : List MV} {o : AOut} (h : isB8 ms o) : o.free = true := by obtain ⟨b, rfl, _⟩ := h; simp [AOut.free, AV.free]
theorem A48 (ms : List MV) (hf : ∀ m ∈ ms, FitM m) : ∃ o, isB8 ms o ∧ Ans CI (.fn 48 [] []) (aMs ms) o := by
  have msf : AV.frees (ms.map encM) = true := frees_map encM_free ms
  have fit : ∀ m ∈ ms, ∀ t ∈ [m.ty, m.val], Fit t := fun m hm t ht => by
    simp at ht
    rcases ht with rfl | rfl
    · exact (hf m hm).ty
    · exact (hf m hm).val
  refine ansF_of (n := 101) GZ_both.1 cf48 (pureF 48) (by simp [aMs, AV.frees, AV.free, msf]) (fun _ => freeB8) (run48 GZ 101 ms (by omega) (by omega) (fun m hm => ?_) (fun m hm => ?_) (fun m hm => ?_))
  · obtain ⟨e, v, _⟩ := us24 [m.ty, m.val] 40 (by omega) (by simp) (fit m hm)
    exact ⟨e, fun h => v _ h (by rw [← enc_parts, ← enc_parts]; simp [aIT, AV.norms, AV.norm, enc_norm])⟩
  · obtain ⟨b, v, w⟩ := us6 [m.ty, m.val] (by simp) (fit m hm)
    refine ⟨b, fun h => v _ h (by rw [← enc_parts, ← enc_parts]; simp [aTs, AV.norms, AV.norm, enc_norm]), fun hb => ?_⟩
    have := (w hb).1
    simp only [sizes] at this
    obtain ⟨e1, h1⟩ := us7 m.ty 0 8 (ms.length : Int) 65536 (by omega) (hf m hm).ty
    obtain ⟨e2, h2⟩ := us7 m.val 0 8 (ms.length : Int) 65536 (by omega) (hf m hm).val
    exact ⟨e1, e2, fun h => h1 _ h (by rw [← enc_parts]; simp [aChk7, AV.norms, AV.norm, enc_norm]), fun h => h2 _ h (by rw [← enc_parts]; simp [aChk7, AV.norms, AV.norm, enc_norm])⟩
  · obtain ⟨o, ⟨b, rfl⟩, hu⟩ := mkS_use (GZ_both.2 Z11 (by simp [allZ])) m.val (A11z m.val)
    exact ⟨b, fun h => hu _ h (by rw [← enc_parts]; simp [aT0, enc, encs, AV.norms, AV.norm, enc_norm])⟩
theorem A58 (x : LL) (hl : x.vars.length < 1125899906842624) : ∃ o, o = .ret (.bool true) ∧ Ans CI (.fn 58 [] []) (aLL x) o :=
  ans_of (n := x.vars.length + 1) GZ_both.1 cf58 (pureI 58) (by simp [aLL, AV.frees, encL_free]) (by rintro o rfl; simp [AOut.free, AV.free]) (FQ_FX (run58 GZ _ x (by omega) (by omega)))
theorem GZ_KV : KV GZ := ⟨fun a x h ha hl => by
    obtain ⟨o, rfl, hu⟩ := mkS_use (GZ_both.2 Z135 (by simp [allZ])) x (A135 x hl)
    exact hu _ h (by simp [aL, AV.norms, ha.norm]), fun a x h ha hl => by
    obtain ⟨o, rfl, hu⟩ := mkS_use (GZ_both.2 Z21 (by simp [allZ])) x (A21x x hl)
    exact hu _ h (by simp [aL, AV.norms, ha.norm])⟩
theorem GZ_K58 : K58 GZ := ⟨fun a b x h ha hb hl => by
    obtain ⟨o, rfl, hu⟩ := mkS_use (GZ_both.2 Z58 (by simp [allZ])) x (A58 x (by omega))
    exact hu _ h (by simp [aLL, AV.norms, ha.norm, hb.norm])⟩
theorem GZ_KG : KG GZ where
  r48 := fun ms hl hf => by
    obtain ⟨o, ⟨b, rfl, hb⟩, hu⟩ := mkS_use (GZ_both.2 Z48 (by simp [allZ])) ms (A48 ms hf)
    exact ⟨b, hb, fun h => hu _ h (by simp [aMs, AV.norms, AV.norm, encM_norms])⟩
  r20 := fun t n hf => us20 t n hf
  r18 := fun ms ctx ts hm hl hc hl2 ht => by
    obtain ⟨o, ⟨b, rfl⟩, hu⟩ := mkS_use (GZ_both.2 Z18 (by simp [allZ])) (ms, ctx, ts) (A18 ms ctx ts hl hc hl2 ht)
    exact ⟨b, fun a h ha => hu a h ha⟩
  r49 := fun n ctx hl hc => by
    obtain ⟨o, ⟨b, rfl⟩, hu⟩ := mkS_use (GZ_both.2 Z49 (by simp [allZ])) (n, ctx) (A49 ctx n hl hc)
    exact ⟨b, fun h => hu _ h (by simp [aIT, AV.norms, AV.norm, encT_norms])⟩
end Go.Proofs.YtnacljdablhbgaaGreat
