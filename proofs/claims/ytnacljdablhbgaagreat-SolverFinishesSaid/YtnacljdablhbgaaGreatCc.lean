/- SolverFinishes: contracts with chosen answers (no condition). -/
import Derived.Test.YtnacljdablhbgaaGreatCb
namespace Go.Proofs.YtnacljdablhbgaaGreat
open Go.AG
theorem pureI (f : FuncId) (h : impI f = false := by rfl) : EI.pure f = true := by show (!(impI f)) = true; rw [h]; rfl
theorem size_pos (t : T) : 1 ≤ size t := by cases t; simp only [size]; omega
theorem length_sizes (ks : List T) : ks.length ≤ sizes ks := by
  induction ks with
  | nil => simp
  | cons t l ih => have := size_pos t; simp only [List.length_cons, sizes]; omega
theorem size_mem {ks : List T} {a : Nat} {t : T} (h : ks[a]? = some t) : size t ≤ sizes ks := by
  have h1 := sizes_take ks a t h
  have h2 := sizes_take_le ks (a + 1)
  omega
open Classical in
noncomputable def mkS {α : Type} (fid : FuncId) (args : α → List AV) (hinj : ∀ x y, args x = args y → x = y) (P : α → AOut → Prop) : AG.Spec where
  α := α
  fid := fid
  caps := fun _ => []
  args := args
  out := fun x => if h : ∃ o, P x o ∧ Ans CI (.fn fid [] []) (args x) o then h.choose else .ret .nilp
  dom := fun x => ∃ o, P x o ∧ Ans CI (.fn fid [] []) (args x) o
  func := fun x y _ _ _ h => by rw [hinj x y h]
theorem mkS_out {α : Type} {fid : FuncId} {args : α → List AV} {hinj : ∀ x y, args x = args y → x = y} {P : α → AOut → Prop} (x : α) (hx : ∃ o, P x o ∧ Ans CI (.fn fid [] []) (args x) o) :
    P x ((mkS fid args hinj P).out x) ∧ Ans CI (.fn fid [] []) (args x) ((mkS fid args hinj P).out x) := by
  have e : (mkS fid args hinj P).out x = hx.choose := dif_pos hx
  rw [e]; exact hx.choose_spec
theorem mkS_meets {α : Type} {fid : FuncId} {args : α → List AV} {hinj : ∀ x y, args x = args y → x = y} {P : α → AOut → Prop} : (mkS fid args hinj P).Meets CI :=
  fun x hx => (mkS_out x hx).2
theorem mkS_use {α : Type} {fid : FuncId} {args : α → List AV} {hinj : ∀ x y, args x = args y → x = y} {P : α → AOut → Prop} {call : CallF} (hu : (mkS fid args hinj P).Used call) (x : α) (hx : ∃ o, P x o ∧ Ans CI (.fn fid [] []) (args x) o) :
    ∃ o, P x o ∧ ∀ a h, AV.norms a = args x → call (.fn fid [] []) a .no h = some (o, .no, h) :=
  ⟨_, (mkS_out (hinj := hinj) x hx).1, fun a h ha => hu x [] a h hx (by simp [AV.norms]; rfl) ha⟩
theorem ans_of {f : FuncId} {az : List AV} {P : AOut → Prop} {call : CallF} {n nt : Nat} {rs : List ARes} {body : ACode} (hc : CallOk CI call) (hcf : EI.cf f = some ⟨nt, rs, body⟩) (hp : EI.pure f = true) (hfr : AV.frees az = true) (hfo : ∀ o, P o → o.free = true)
    (hR : R call n [.code body] (FX rs P) .normal ⟨startTm az, ⟨[], .no, none, f⟩⟩ emptyH) : ∃ o, P o ∧ Ans CI (.fn f [] []) az o := by
  obtain ⟨e, fr, h, q, o, hP, hQ⟩ := hR
  obtain ⟨h', o', q1, q2⟩ := evFn_R (o := o) hcf hp ⟨e, fr, h, q, hQ⟩
  refine ⟨o, hP, by simp [AV.free, AV.frees], hfr, hfo o hP, _, h', o', step_ok hEI hc n, ?_, q2⟩
  show evFn EI call n f (app [] (app az [])) .no emptyH = _
  rw [app_eq, app_eq]; simpa using q1
theorem R_mono {call : CallF} {n : Nat} {Q Q' : AEx → AF → AH → Prop} {c : ACode} {fr : AF} {h : AH} (hq : ∀ e fr h, Q e fr h → Q' e fr h) (hR : R call n [.code c] Q .normal fr h) : R call n [.code c] Q' .normal fr h := by
  obtain ⟨e, fr, h, q, r⟩ := hR
  exact ⟨e, fr, h, q, hq _ _ _ r⟩
theorem FQ_FX {call : CallF} {n : Nat} {rs : List ARes} {o : AOut} {c : ACode} {fr : AF} {h : AH} (hR : R call n [.code c] (FQ rs o) .normal fr h) : R call n [.code c] (FX rs (fun o' => o' = o)) .normal fr h :=
  R_mono (fun _ _ _ q => ⟨o, rfl, q⟩) hR
def aT (t : T) : List AV := [enc t]
theorem aT_inj (x y : T) (h : aT x = aT y) : x = y := by simp [aT] at h; exact enc_inj h
def aII (x : Int × Int) : List AV := [.int .i64 x.1, .int .i64 x.2]
theorem aII_inj (x y : Int × Int) (h : aII x = aII y) : x = y := by obtain ⟨a, b⟩ := x; obtain ⟨c, d⟩ := y; simp [aII] at h; simp [h]
def aI (x : Int) : List AV := [.int .i64 x]
theorem aI_inj (x y : Int) (h : aI x = aI y) : x = y := by simpa [aI] using h
def aU (x : Int) : List AV := [.int .u8 x]
theorem aU_inj (x y : Int) (h : aU x = aU y) : x = y := by simpa [aU] using h
def aS (x : ByteArray) : List AV := [.str x]
theorem aS_inj (x y : ByteArray) (h : aS x = aS y) : x = y := by simpa [aS] using h
def aL (x : LL) : List AV := [encL x]
theorem aL_inj (x y : LL) (h : aL x = aL y) : x = y := by simp [aL] at h; exact encL_inj h
def aLII (x : LL × Int × Int) : List AV := [encL x.1, .int .i64 x.2.1, .int .i64 x.2.2]
theorem aLII_inj (x y : LL × Int × Int) (h : aLII x = aLII y) : x = y := by
  obtain ⟨a, b, c⟩ := x; obtain ⟨a', b', c'⟩ := y
  simp [aLII] at h
  rw [encL_inj h.1, h.2.1, h.2.2]
def aChk (x : T × Int × Int × Int × Int × Int) : List AV := [enc x.1, .int .i64 x.2.1, .int .i64 x.2.2.1, .int .i64 x.2.2.2.1, .int .i64 x.2.2.2.2.1, .int .i64 x.2.2.2.2.2]
theorem aChk_inj (x y : T × Int × Int × Int × Int × Int) (h : aChk x = aChk y) : x = y := by
  obtain ⟨a, b, c, d, e, f⟩ := x; obtain ⟨a', b', c', d', e', f'⟩ := y
  simp [aChk] at h
  obtain ⟨h1, h2, h3, h4, h5, h6⟩ := h
  rw [enc_inj h1, h2, h3, h4, h5, h6]
def aChk7 (x : T × Int × Int × Int × Int) : List AV := [enc x.1, .int .i64 x.2.1, .int .i64 x.2.2.1, .int .i64 x.2.2.2.1, .int .i64 x.2.2.2.2]
theorem aChk7_inj (x y : T × Int × Int × Int × Int) (h : aChk7 x = aChk7 y) : x = y := by
  obtain ⟨a, b, c, d, e⟩ := x; obtain ⟨a', b', c', d', e'⟩ := y
  simp [aChk7] at h
  obtain ⟨h1, h2, h3, h4, h5⟩ := h
  rw [enc_inj h1, h2, h3, h4, h5]
def aIT (x : Int × List T) : List AV := [.int .i64 x.1, .lst (x.2.map enc)]
theorem aIT_inj (x y : Int × List T) (h : aIT x = aIT y) : x = y := by
  obtain ⟨a, b⟩ := x; obtain ⟨c, d⟩ := y
  simp only [aIT, List.cons.injEq, AV.int.injEq, AV.lst.injEq, true_and, and_true] at h
  rw [h.1, map_inj (fun _ _ => enc_inj) h.2]
def aTs (x : List T) : List AV := [.lst (x.map enc)]
theorem aTs_inj (x y : List T) (h : aTs x = aTs y) : x = y := by
  simp only [aTs, List.cons.injEq, AV.lst.injEq, and_true] at h
  exact map_inj (fun _ _ => enc_inj) h
def aLf (x : List LL) : List AV := [.lst (x.map encL), .fn 26 [] []]
theorem aLf_inj (x y : List LL) (h : aLf x = aLf y) : x = y := by
  simp only [aLf, List.cons.injEq, AV.lst.injEq, and_true] at h
  exact map_inj (fun _ _ => encL_inj) h
def aLL (x : LL) : List AV := [encL x, encL x]
theorem aLL_inj (x y : LL) (h : aLL x = aLL y) : x = y := by simp [aLL] at h; exact encL_inj h
def a0 (_ : Unit) : List AV := []
theorem a0_inj (x y : Unit) (_ : a0 x = a0 y) : x = y := rfl
theorem oracles_at {C : Cx} (l : List AG.Spec) (hl : ∀ s ∈ l, s.Meets C) (hd : (l.map AG.Spec.fid).Nodup) : CallOk C (tblCall (tblAll l)) ∧ ∀ s ∈ l, s.Used (tblCall (tblAll l)) := by
  constructor
  · apply tbl_ok
    induction l with
    | nil => intro f a o e; cases e
    | cons s l ih =>
      intro f a o e
      unfold tblAll at e
      cases hs : s.tbl f a with
      | some o' => rw [hs] at e; cases e; exact Spec.tbl_ans (hl s (by simp)) hs
      | none => rw [hs] at e; exact ih (fun s hs => hl s (by simp [hs])) (by simp at hd; exact hd.2) f a o e
  · have key : ∀ s ∈ l, ∀ x, s.dom x → tblAll l (.fn s.fid [] (s.caps x)) (s.args x) = some (s.out x) := by
      clear hl
      induction l with
      | nil => intro s hs; simp at hs
      | cons t l ih =>
        intro s hs x hx
        unfold tblAll
        rcases List.mem_cons.1 hs with rfl | hs
        · rw [Spec.tbl_at hx]
        · have hne : s.fid ≠ t.fid := by
            intro e
            simp only [List.map_cons, List.nodup_cons, List.mem_map, not_exists, not_and] at hd
            exact hd.1 s hs e
          rw [Spec.tbl_other hne]
          exact ih (by simp only [List.map_cons, List.nodup_cons] at hd; exact hd.2) s hs x hx
    intro s hs x fc a h hx hc ha
    have e : tblAll l (AV.fn s.fid [] fc).norm (AV.norms a) = some (s.out x) := by
      simp only [AV.norm, AV.norms, hc, ha]
      exact key s hs x hx
    simp only [tblCall, e]
theorem tblAll_none {l : List AG.Spec} {f : FuncId} {c a : List AV} (h : ∀ s ∈ l, f ≠ s.fid) : tblAll l (.fn f [] c) a = none := by
  induction l with
  | nil => rfl
  | cons s l ih => unfold tblAll; rw [Spec.tbl_other (h s (by simp))]; exact ih fun s hs => h s (by simp [hs])
theorem tblAll_yld {l : List AG.Spec} {k : Nat} {a : List AV} : tblAll l (.yld k) a = none := by
  induction l with
  | nil => rfl
  | cons s l ih =>
    unfold tblAll
    have : s.tbl (.yld k) a = none := by
      unfold AG.Spec.tbl
      rw [dif_neg]
      rintro ⟨y, _, e, _⟩
      cases e
    rw [this]; exact ih
def formT (t : T) : Bool := formK t.kind t.idx t.name t.levels t.kids
noncomputable def S72 : AG.Spec := mkS 72 aII aII_inj fun x o => o = .ret (.int .i64 (binders x.1 x.2))
noncomputable def S117 : AG.Spec := mkS 117 aU aU_inj fun x o => o = .ret (.bool (letter x))
noncomputable def S116 : AG.Spec := mkS 116 aI aI_inj fun x o => o = .ret (.int .i64 (kidsOf x))
noncomputable def S28 : AG.Spec := mkS 28 aT aT_inj fun x o => o = .ret (.int .i64 (size x))
noncomputable def S29 : AG.Spec := mkS 29 aT aT_inj fun _ o => isI o
noncomputable def S69 : AG.Spec := mkS 69 aT aT_inj fun x o => o = .ret (.bool (formT x))
noncomputable def S21 : AG.Spec := mkS 21 aL aL_inj fun _ o => isB o
noncomputable def S70 : AG.Spec := mkS 70 aS aS_inj fun _ o => isB o
noncomputable def S71 : AG.Spec := mkS 71 aLII aLII_inj fun _ o => isI o
noncomputable def S27 : AG.Spec := mkS 27 aChk aChk_inj fun x o => isW x.2.2.1 x.1 x.2.1 o
noncomputable def S7 : AG.Spec := mkS 7 aChk7 aChk7_inj fun x o => isW (max x.2.1 0) x.1 0 o
noncomputable def S24 : AG.Spec := mkS 24 aIT aIT_inj fun x o => isN x.1 x.2 o
noncomputable def S26 : AG.Spec := mkS 26 aL aL_inj fun x o => o = .ret (.bool (decide ((20 : Int) < (x.vars.length : Int))))
noncomputable def S68 : AG.Spec := mkS 68 aLf aLf_inj fun x o => isX x o
noncomputable def S25 : AG.Spec := mkS 25 aLf aLf_inj fun x o => isY x o
noncomputable def S6 : AG.Spec := mkS 6 aTs aTs_inj fun x o => isF x o
noncomputable def allS : List AG.Spec := [S72, S117, S116, S28, S29, S69, S21, S70, S71, S27, S7, S24, S26, S68, S25, S6]
theorem allS_fids : allS.map AG.Spec.fid = [72, 117, 116, 28, 29, 69, 21, 70, 71, 27, 7, 24, 26, 68, 25, 6] := rfl
noncomputable def G : CallF := tblCall (tblAll allS)
theorem allS_meets : ∀ s ∈ allS, s.Meets CI := by
  intro s hs
  simp only [allS, List.mem_cons, List.mem_nil_iff, or_false] at hs
  rcases hs with h | h | h | h | h | h | h | h | h | h | h | h | h | h | h | h <;> (subst h; exact mkS_meets)
theorem G_both : CallOk CI G ∧ ∀ s ∈ allS, s.Used G := oracles_at allS allS_meets (by rw [allS_fids]; decide)
inductive Fit : T → Prop
  | mk {k i : Int} {nm : ByteArray} {ls : List LL} {ks : List T} (h1 : -9223372036854775808 ≤ i) (h2 : i < 9223372036854775808) (h3 : nm.size < 1125899906842624) (h4 : ls.length < 1125899906842624) (h5 : ∀ x ∈ ls, x.vars.length < 1125899906842624)
      (h6 : ks.length < 1125899906842624) (h7 : ∀ t ∈ ks, Fit t) : Fit (.mk k i nm ls ks)
theorem freeI {o : AOut} (h : isI o) : o.free = true := by obtain ⟨e, rfl⟩ := h; simp [AOut.free, AV.free]
theorem freeB {o : AOut} (h : isB o) : o.free = true := by obtain ⟨e, rfl⟩ := h; simp [AOut.free, AV.free]
theorem A72 (x : Int × Int) : ∃ o, o = .ret (.int .i64 (binders x.1 x.2)) ∧ Ans CI (.fn 72 [] []) (aII x) o :=
  ans_of (n := 0) G_both.1 cf72 (pureI 72) (by simp [aII, AV.frees, AV.free]) (by rintro o rfl; simp [AOut.free, AV.free]) (FQ_FX (run72 G 0 x.1 x.2))
theorem g72 (k j : Int) (h : AH) : G (.fn 72 [] []) [.int .i64 k, .int .i64 j] .no h = some (.ret (.int .i64 (binders k j)), .no, h) := by
  obtain ⟨o, rfl, hu⟩ := mkS_use (G_both.2 S72 (by simp [allS])) (k, j) (A72 (k, j))
  exact hu _ h (by simp [aII, AV.norms, AV.norm])
theorem A117 (x : Int) : ∃ o, o = .ret (.bool (letter x)) ∧ Ans CI (.fn 117 [] []) (aU x) o :=
  ans_of (n := 0) G_both.1 cf117 (pureI 117) (by simp [aU, AV.frees, AV.free]) (by rintro o rfl; simp [AOut.free, AV.free]) (FQ_FX (run117 G 0 x))
theorem g117 (c : Int) (h : AH) : G (.fn 117 [] []) [.int .u8 c] .no h = some (.ret (.bool (letter c)), .no, h) := by
  obtain ⟨o, rfl, hu⟩ := mkS_use (G_both.2 S117 (by simp [allS])) c (A117 c)
  exact hu _ h (by simp [aU, AV.norms, AV.norm])
theorem A116 (x : Int) : ∃ o, o = .ret (.int .i64 (kidsOf x)) ∧ Ans CI (.fn 116 [] []) (aI x) o :=
  ans_of (n := 0) G_both.1 cf116 (pureI 116) (by simp [aI, AV.frees, AV.free]) (by rintro o rfl; simp [AOut.free, AV.free]) (FQ_FX (run116 G 0 x))
theorem g116 (c : Int) (h : AH) : G (.fn 116 [] []) [.int .i64 c] .no h = some (.ret (.int .i64 (kidsOf c)), .no, h) := by
  obtain ⟨o, rfl, hu⟩ := mkS_use (G_both.2 S116 (by simp [allS])) c (A116 c)
  exact hu _ h (by simp [aI, AV.norms, AV.norm])
theorem A69 (k i : Int) (nm : ByteArray) (ls : List LL) (ks : List T) : ∃ o, o = .ret (.bool (formT (.mk k i nm ls ks))) ∧ Ans CI (.fn 69 [] []) (aT (.mk k i nm ls ks)) o :=
  ans_of (n := 0) G_both.1 cf69 (pureI 69) (by simp [aT, AV.frees, enc_free]) (by rintro o rfl; simp [AOut.free, AV.free]) (FQ_FX (run69 G 0 k i nm ls ks (g116 k)))
theorem g69 (k i : Int) (nm : ByteArray) (ls : List LL) (ks : List T) (h : AH) : G (.fn 69 [] []) [.agg [.int .i64 k, .int .i64 i, .str nm, .lst (ls.map encL), .lst (ks.map enc)]] .no h = some (.ret (.bool (formK k i nm ls ks)), .no, h) := by
  obtain ⟨o, rfl, hu⟩ := mkS_use (G_both.2 S69 (by simp [allS])) (.mk k i nm ls ks) (A69 k i nm ls ks)
  exact hu _ h (by rw [← enc_eq]; simp [aT, AV.norms, enc_norm])
theorem A21 (x : LL) (hl : x.vars.length < 1125899906842624) : ∃ o, isB o ∧ Ans CI (.fn 21 [] []) (aL x) o :=
  ans_of (n := x.vars.length + 1) G_both.1 cf21 (pureI 21) (by simp [aL, AV.frees, encL_free]) (fun _ => freeB) (run21 G _ x.c x.vars (by omega) (by omega))
theorem A70 (s : ByteArray) (hl : s.size < 1125899906842624) : ∃ o, isB o ∧ Ans CI (.fn 70 [] []) (aS s) o :=
  ans_of (n := s.size + 1) G_both.1 cf70 (pureI 70) (by simp [aS, AV.frees, AV.free]) (fun _ => freeB) (run70 G _ s (by omega) (by omega) g117)
theorem A71 (x : LL) (p q : Int) (hl : x.vars.length < 1125899906842624) : ∃ o, isI o ∧ Ans CI (.fn 71 [] []) (aLII (x, p, q)) o := by
  obtain ⟨o, ⟨b, rfl⟩, hu⟩ := mkS_use (G_both.2 S21 (by simp [allS])) x (A21 x hl)
  exact ans_of (n := x.vars.length + 1) G_both.1 cf71 (pureI 71) (by simp [aLII, AV.frees, AV.free, encL_free]) (fun _ => freeI) (run71 G _ x p q b (by omega) (by omega) (fun h => hu _ h (by simp [aL, AV.norms, encL_norm])))
theorem A28 : ∀ n t, size t ≤ n → n ≤ 10000 → ∃ o, o = .ret (.int .i64 (size t)) ∧ Ans CI (.fn 28 [] []) (aT t) o := by
  intro n
  induction n with
  | zero => intro t h; have := size_pos t; omega
  | succ n ih =>
    rintro ⟨k, i, nm, ls, ks⟩ h hn
    simp only [size] at h
    have hl := length_sizes ks
    refine ans_of (n := 20000) G_both.1 cf28 (pureI 28) (by simp [aT, AV.frees, enc_free]) (by rintro o rfl; simp [AOut.free, AV.free]) (FQ_FX (run28 G 20000 k i nm ls ks (by omega) (by omega) (by omega) (fun t ht h' => ?_)))
    obtain ⟨a, ha, rfl⟩ := List.mem_iff_getElem.1 ht
    have hs := size_mem (List.getElem?_eq_getElem ha)
    obtain ⟨o, rfl, hu⟩ := mkS_use (G_both.2 S28 (by simp [allS])) ks[a] (ih _ (by omega) (by omega))
    exact hu _ h' (by simp [aT, AV.norms, enc_norm])
theorem A29 : ∀ n t, size t ≤ n → n ≤ 10000 → ∃ o, isI o ∧ Ans CI (.fn 29 [] []) (aT t) o := by
  intro n
  induction n with
  | zero => intro t h; have := size_pos t; omega
  | succ n ih =>
    rintro ⟨k, i, nm, ls, ks⟩ h hn
    simp only [size] at h
    have hl := length_sizes ks
    refine ans_of (n := 20000) G_both.1 cf29 (pureI 29) (by simp [aT, AV.frees, enc_free]) (fun _ => freeI) (run29 G 20000 k i nm ls ks (by omega) (by omega) (fun t ht => ?_))
    obtain ⟨a, ha, rfl⟩ := List.mem_iff_getElem.1 ht
    have hs := size_mem (List.getElem?_eq_getElem ha)
    obtain ⟨o, ⟨e, rfl⟩, hu⟩ := mkS_use (G_both.2 S29 (by simp [allS])) ks[a] (ih _ (by omega) (by omega))
    exact ⟨e, fun h' => hu _ h' (by simp [aT, AV.norms, enc_norm])⟩
theorem freeW {v : Int} {t : T} {d : Int} {o : AOut} (h : isW v t d o) : o.free = true := by obtain ⟨e, rfl, _⟩ := h; simp [AOut.free, AV.free]
theorem A27 : ∀ (n : Nat) (t : T) (d v p q r : Int), size t ≤ n → n ≤ 10000 → Fit t → 0 ≤ d → d + (n : Int) ≤ 20000 → ∃ o, isW v t d o ∧ Ans CI (.fn 27 [] []) (aChk (t, d, v, p, q, r)) o := by
  intro n
  induction n with
  | zero => intro t d v p q r h; have := size_pos t; omega
  | succ n ih =>
    rintro ⟨k, i, nm, ls, ks⟩ d v p q r h hn hf hd0 hd1
    obtain ⟨f1, f2, f3, f4, f5, f6, f7⟩ := hf
    simp only [size] at h
    have hl := length_sizes ks
    refine ans_of (n := 20000 + ls.length) G_both.1 cf27 (pureI 27) (by simp [aChk, AV.frees, AV.free, enc_free]) (fun _ => freeW) (run27 G _ k i nm ls ks d v p q r f1 f2 (by omega) (by omega) (by omega) (by omega) hd0 (by omega) (g69 k i nm ls ks) ?_ (fun l hlm => ?_) (g72 k) (fun t ht d' e1 e2 => ?_))
    · obtain ⟨o, ⟨b, rfl⟩, hu⟩ := mkS_use (G_both.2 S70 (by simp [allS])) nm (A70 nm f3)
      exact ⟨b, fun h' => hu _ h' (by simp [aS, AV.norms, AV.norm])⟩
    · obtain ⟨o, ⟨e, rfl⟩, hu⟩ := mkS_use (G_both.2 S71 (by simp [allS])) (l, p, r) (A71 l p r (f5 l hlm))
      exact ⟨e, fun h' => hu _ h' (by simp [aLII, AV.norms, AV.norm, encL_norm])⟩
    · obtain ⟨a, ha, rfl⟩ := List.mem_iff_getElem.1 ht
      have hs := size_mem (List.getElem?_eq_getElem ha)
      obtain ⟨o, ⟨e, rfl, he⟩, hu⟩ := mkS_use (G_both.2 S27 (by simp [allS])) (ks[a], d', v, p, q, r) (ih ks[a] d' v p q r (by omega) (by omega) (f7 _ ht) e1 (by omega))
      exact ⟨e, fun h' => hu _ h' (by simp [aChk, AV.norms, AV.norm, enc_norm]), he⟩
theorem A7 (t : T) (v p q r : Int) (hs : size t ≤ 10000) (hf : Fit t) : ∃ o, isW (max v 0) t 0 o ∧ Ans CI (.fn 7 [] []) (aChk7 (t, v, p, q, r)) o := by
  obtain ⟨o1, ⟨e, rfl, he⟩, u1⟩ := mkS_use (G_both.2 S27 (by simp [allS])) (t, 0, max v 0, p, q, r) (A27 10000 t 0 (max v 0) p q r hs (Nat.le_refl _) hf (by omega) (by omega))
  obtain ⟨o2, rfl, u2⟩ := mkS_use (G_both.2 S28 (by simp [allS])) t (A28 10000 t hs (Nat.le_refl _))
  obtain ⟨o3, ⟨dp, rfl⟩, u3⟩ := mkS_use (G_both.2 S29 (by simp [allS])) t (A29 10000 t hs (Nat.le_refl _))
  obtain ⟨k, i, nm, ls, ks⟩ := t
  exact ans_of (n := 0) G_both.1 cf7 (pureI 7) (by simp [aChk7, AV.frees, AV.free, enc_free]) (fun _ => freeW) (run7 G 0 k i nm ls ks v p q r e _ dp (fun h => u1 _ h (by rw [← enc_eq]; simp [aChk, AV.norms, AV.norm, enc_norm])) he (fun h => u2 _ h (by rw [← enc_eq]; simp [aT, AV.norms, enc_norm])) (fun h => u3 _ h (by rw [← enc_eq]; simp [aT, AV.norms, enc_norm])))
theorem encL_frees (l : List LL) : AV.frees (l.map encL) = true := frees_map encL_free l
theorem Fit_kids {t : T} (h : Fit t) : t.kids.length < 1125899906842624 ∧ ∀ s ∈ t.kids, Fit s := by
  obtain ⟨h1, h2, h3, h4, h5, h6, h7⟩ := h; exact ⟨h6, h7⟩
theorem Fit_levels {t : T} (h : Fit t) : t.levels.length < 1125899906842624 ∧ ∀ x ∈ t.levels, x.vars.length < 1125899906842624 := by
  obtain ⟨h1, h2, h3, h4, h5, h6, h7⟩ := h; exact ⟨h4, h5⟩
theorem freeN {m : Int} {l : List T} {o : AOut} (h : isN m l o) : o.free = true := by obtain ⟨e, rfl, _⟩ := h; simp [AOut.free, AV.free]
theorem freeX {l : List LL} {o : AOut} (h : isX l o) : o.free = true := by obtain ⟨e, rfl, _⟩ := h; simp [AOut.free, AV.free]
theorem freeY {l : List LL} {o : AOut} (h : isY l o) : o.free = true := by obtain ⟨e, rfl, _⟩ := h; simp [AOut.free, AV.free]
theorem freeF {l : List T} {o : AOut} (h : isF l o) : o.free = true := by obtain ⟨e, rfl, _⟩ := h; simp [AOut.free, AV.free]
theorem A24 : ∀ (n : Nat) (l : List T) (most : Int), sizes l ≤ n → most < 9223372036854775808 → l.length < 1125899906842624 → (∀ t ∈ l, Fit t) → ∃ o, isN most l o ∧ Ans CI (.fn 24 [] []) (aIT (most, l)) o := by
  intro n
  induction n with
  | zero =>
    intro l most h hm hl hf
    have hl := length_sizes l
    refine ans_of (n := l.length + 1) G_both.1 cf24 (pureI 24) (by simp [aIT, AV.frees, AV.free, encT_frees]) (fun _ => freeN) (run24 G _ most l hm (by omega) (by omega) (fun t ht => ?_))
    have : l = [] := List.length_eq_zero_iff.1 (by omega)
    subst this; simp at ht
  | succ n ih =>
    intro l most h hm hl hf
    refine ans_of (n := l.length + 1) G_both.1 cf24 (pureI 24) (by simp [aIT, AV.frees, AV.free, encT_frees]) (fun _ => freeN) (run24 G _ most l hm (by omega) (by omega) (fun t ht m' hm' => ?_))
    obtain ⟨a, ha, rfl⟩ := List.mem_iff_getElem.1 ht
    have hs := size_mem (List.getElem?_eq_getElem ha)
    rw [size_kids] at hs
    obtain ⟨k1, k2⟩ := Fit_kids (hf _ ht)
    obtain ⟨o, ⟨e, rfl, he⟩, hu⟩ := mkS_use (G_both.2 S24 (by simp [allS])) (m', l[a].kids) (ih l[a].kids m' (by omega) hm' k1 k2)
    exact ⟨e, fun h' => hu _ h' (by simp [aIT, AV.norms, AV.norm, encT_norms]), he⟩
theorem A26 (x : LL) : ∃ o, o = .ret (.bool (decide ((20 : Int) < (x.vars.length : Int)))) ∧ Ans CI (.fn 26 [] []) (aL x) o :=
  ans_of (n := 0) G_both.1 cf26 (pureI 26) (by simp [aL, AV.frees, encL_free]) (by rintro o rfl; simp [AOut.free, AV.free]) (FQ_FX (run26 G 0 x))
theorem g26 (x : LL) (h : AH) : G (.fn 26 [] []) [encL x] .no h = some (.ret (.bool (decide ((20 : Int) < (x.vars.length : Int)))), .no, h) := by
  obtain ⟨o, rfl, hu⟩ := mkS_use (G_both.2 S26 (by simp [allS])) x (A26 x)
  exact hu _ h (by simp [aL, AV.norms, encL_norm])
theorem A68 (l : List LL) (hl : l.length < 1125899906842624) : ∃ o, isX l o ∧ Ans CI (.fn 68 [] []) (aLf l) o :=
  ans_of (n := l.length + 1) G_both.1 cf68 (pureI 68) (by simp [aLf, AV.frees, AV.free, encL_frees]) (fun _ => freeX) (run68 G _ l (by omega) (by omega) (fun x _ => g26 x))
theorem A25 (l : List LL) (hl : l.length < 1125899906842624) : ∃ o, isY l o ∧ Ans CI (.fn 25 [] []) (aLf l) o := by
  obtain ⟨o, ⟨e, rfl, he⟩, hu⟩ := mkS_use (G_both.2 S68 (by simp [allS])) l (A68 l hl)
  exact ans_of (n := l.length + 1) G_both.1 cf25 (pureI 25) (by simp [aLf, AV.frees, AV.free, encL_frees]) (fun _ => freeY) (run25 G _ l e he (fun h => hu _ h (by simp [aLf, AV.norms, AV.norm, encL_norms])))
theorem A6 : ∀ (n : Nat) (l : List T), sizes l ≤ n → l.length < 1125899906842624 → (∀ t ∈ l, Fit t) → ∃ o, isF l o ∧ Ans CI (.fn 6 [] []) (aTs l) o := by
  intro n
  induction n with
  | zero =>
    intro l h hl hf
    have hl' := length_sizes l
    have hnil : l = [] := List.length_eq_zero_iff.1 (by omega)
    obtain ⟨o, ⟨e, rfl, he⟩, hu⟩ := mkS_use (G_both.2 S24 (by simp [allS])) (200, l) (A24 _ l 200 (Nat.le_refl _) (by omega) hl hf)
    refine ans_of (n := l.length + 1) G_both.1 cf6 (pureI 6) (by simp [aTs, AV.frees, AV.free, encT_frees]) (fun _ => freeF) (run6 G _ l (by omega) hl ⟨e, fun h' => hu _ h' (by simp [aIT, AV.norms, AV.norm, encT_norms]), he⟩ (fun t ht => ?_) (fun t ht => ?_))
    all_goals subst hnil; simp at ht
  | succ n ih =>
    intro l h hl hf
    obtain ⟨o, ⟨e, rfl, he⟩, hu⟩ := mkS_use (G_both.2 S24 (by simp [allS])) (200, l) (A24 _ l 200 (Nat.le_refl _) (by omega) hl hf)
    refine ans_of (n := l.length + 1) G_both.1 cf6 (pureI 6) (by simp [aTs, AV.frees, AV.free, encT_frees]) (fun _ => freeF) (run6 G _ l (by omega) hl ⟨e, fun h' => hu _ h' (by simp [aIT, AV.norms, AV.norm, encT_norms]), he⟩ (fun t ht => ?_) (fun t ht => ?_))
    · obtain ⟨o, ⟨e, rfl, he⟩, hu⟩ := mkS_use (G_both.2 S25 (by simp [allS])) t.levels (A25 t.levels (Fit_levels (hf t ht)).1)
      exact ⟨e, fun h' => hu _ h' (by simp [aLf, AV.norms, AV.norm, encL_norms]), he⟩
    · obtain ⟨a, ha, rfl⟩ := List.mem_iff_getElem.1 ht
      have hs := size_mem (List.getElem?_eq_getElem ha)
      rw [size_kids] at hs
      obtain ⟨k1, k2⟩ := Fit_kids (hf _ ht)
      obtain ⟨o, ⟨e, rfl, he⟩, hu⟩ := mkS_use (G_both.2 S6 (by simp [allS])) l[a].kids (ih l[a].kids (by omega) k1 k2)
      exact ⟨e, fun h' => hu _ h' (by simp [aTs, AV.norms, AV.norm, encT_norms]), he⟩
def sorted (zs : List Int) : List Int := zs.mergeSort fun x y => decide (x ≤ y)
theorem sortMem (zs : List Int) : (∀ y, y ∈ sorted zs ↔ y ∈ zs) ∧ (sorted zs).length = zs.length := by
  have p := List.mergeSort_perm zs fun x y => decide (x ≤ y)
  exact ⟨fun y => p.mem_iff, p.length_eq⟩
end Go.Proofs.YtnacljdablhbgaaGreat
