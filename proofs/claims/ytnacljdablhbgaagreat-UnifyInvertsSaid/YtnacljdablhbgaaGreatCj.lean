/- UnifyInverts: the contracts, put together: one oracle for all (no condition). -/
import Derived.Test.YtnacljdablhbgaaGreatCh
import Derived.Test.YtnacljdablhbgaaGreatCi
namespace Go.Proofs.YtnacljdablhbgaaGreat
open Go.AG

open Classical in
/- a contract whose answers are whatever is shown -/
noncomputable def mkS {α : Type} (fid : FuncId) (args : α → List AV) (hinj : ∀ x y, args x = args y → x = y) (P : α → AOut → Prop) : AG.Spec where
  α := α
  fid := fid
  caps := fun _ => []
  args := args
  out := fun x => if h : ∃ o, P x o ∧ Ans CI (.fn fid [] []) (args x) o then h.choose else .ret .nilp
  dom := fun x => ∃ o, P x o ∧ Ans CI (.fn fid [] []) (args x) o
  func := fun x y _ _ _ h => by rw [hinj x y h]

theorem mkS_out {α : Type} {fid : FuncId} {args : α → List AV} {hinj : ∀ x y, args x = args y → x = y} {P : α → AOut → Prop} (x : α) (hx : ∃ o, P x o ∧ Ans CI (.fn fid [] []) (args x) o) :
    P x ((mkS fid args hinj P).out x) ∧ Ans CI (.fn fid [] []) (args x) ((mkS fid args hinj P).out x) := by
  have e : (mkS fid args hinj P).out x = hx.choose := dif_pos hx
  rw [e]; exact hx.choose_spec

theorem mkS_meets {α : Type} {fid : FuncId} {args : α → List AV} {hinj : ∀ x y, args x = args y → x = y} {P : α → AOut → Prop} : (mkS fid args hinj P).Meets CI :=
  fun x hx => (mkS_out x hx).2

theorem mkS_use {α : Type} {fid : FuncId} {args : α → List AV} {hinj : ∀ x y, args x = args y → x = y} {P : α → AOut → Prop} {call : CallF} (hu : (mkS fid args hinj P).Used call) (x : α) (hx : ∃ o, P x o ∧ Ans CI (.fn fid [] []) (args x) o) :
    ∃ o, P x o ∧ ∀ a h, AV.norms a = args x → call (.fn fid [] []) a .no h = some (o, .no, h) :=
  ⟨_, (mkS_out (hinj := hinj) x hx).1, fun a h ha => hu x [] a h hx (by simp [AV.norms]; rfl) ha⟩

/- what a run gives -/
theorem ans_of {f : FuncId} {az : List AV} {P : AOut → Prop} {call : CallF} {n nt : Nat} {rs : List ARes} {body : ACode} (hc : CallOk CI call) (hcf : EI.cf f = some ⟨nt, rs, body⟩) (hp : EI.pure f = true) (hfr : AV.frees az = true) (hfo : ∀ o, P o → o.free = true)
    (hR : R call n [.code body] (FX rs P) .normal ⟨startTm az, ⟨[], .no, none, f⟩⟩ emptyH) : ∃ o, P o ∧ Ans CI (.fn f [] []) az o := by
  obtain ⟨e, fr, h, q, o, hP, hQ⟩ := hR
  obtain ⟨h', o', q1, q2⟩ := evFn_R (o := o) hcf hp ⟨e, fr, h, q, hQ⟩
  refine ⟨o, hP, by simp [AV.free, AV.frees], hfr, hfo o hP, _, h', o', step_ok hEI hc n, ?_, q2⟩
  show evFn EI call n f (app [] (app az [])) .no emptyH = _
  rw [app_eq, app_eq]; simpa using q1

theorem ansD_of {f : FuncId} {az : List AV} {P : AOut → Prop} {call : CallF} {n nt : Nat} {rs : List ARes} {body : ACode} (hc : CallOk CI call) (hcf : EI.cf f = some ⟨nt, rs, body⟩) (hp : EI.pure f = true) (hfr : AV.frees az = true) (hfo : ∀ o, P o → o.free = true)
    (hR : R call n [.code body] (FD call rs P) .normal ⟨startTm az, ⟨[], .no, none, f⟩⟩ emptyH) : ∃ o, P o ∧ Ans CI (.fn f [] []) az o := by
  obtain ⟨o, hP, h', o', q1, q2⟩ := evFn_FD hcf hp hR
  refine ⟨o, hP, by simp [AV.free, AV.frees], hfr, hfo o hP, _, h', o', step_ok hEI hc n, ?_, q2⟩
  show evFn EI call n f (app [] (app az [])) .no emptyH = _
  rw [app_eq, app_eq]; simpa using q1

theorem R_mono {call : CallF} {n : Nat} {Q Q' : AEx → AF → AH → Prop} {c : ACode} {fr : AF} {h : AH} (hq : ∀ e fr h, Q e fr h → Q' e fr h) (hR : R call n [.code c] Q .normal fr h) : R call n [.code c] Q' .normal fr h := by
  obtain ⟨e, fr, h, q, r⟩ := hR
  exact ⟨e, fr, h, q, hq _ _ _ r⟩

theorem FQ_FX {call : CallF} {n : Nat} {rs : List ARes} {o : AOut} {c : ACode} {fr : AF} {h : AH} (hR : R call n [.code c] (FQ rs o) .normal fr h) : R call n [.code c] (FX rs (fun o' => o' = o)) .normal fr h :=
  R_mono (fun _ _ _ q => ⟨o, rfl, q⟩) hR

/-! the contracts -/
def aT (t : T) : List AV := [enc t]
theorem aT_inj (x y : T) (h : aT x = aT y) : x = y := by simp [aT] at h; exact enc_inj h
def aII (x : Int × Int) : List AV := [.int .i64 x.1, .int .i64 x.2]
theorem aII_inj (x y : Int × Int) (h : aII x = aII y) : x = y := by obtain ⟨a, b⟩ := x; obtain ⟨c, d⟩ := y; simp [aII] at h; simp [h]
def aI (x : Int) : List AV := [.int .i64 x]
theorem aI_inj (x y : Int) (h : aI x = aI y) : x = y := by simpa [aI] using h
def aU (x : Int) : List AV := [.int .u8 x]
theorem aU_inj (x y : Int) (h : aU x = aU y) : x = y := by simpa [aU] using h
def aS (x : ByteArray) : List AV := [.str x]
theorem aS_inj (x y : ByteArray) (h : aS x = aS y) : x = y := by simpa [aS] using h
def aL (x : LL) : List AV := [encL x]
theorem aL_inj (x y : LL) (h : aL x = aL y) : x = y := by simp [aL] at h; exact encL_inj h
def aLII (x : LL × Int × Int) : List AV := [encL x.1, .int .i64 x.2.1, .int .i64 x.2.2]
theorem aLII_inj (x y : LL × Int × Int) (h : aLII x = aLII y) : x = y := by
  obtain ⟨a, b, c⟩ := x; obtain ⟨a', b', c'⟩ := y
  simp [aLII] at h
  rw [encL_inj h.1, h.2.1, h.2.2]
def aChk (x : T × Int × Int × Int × Int × Int) : List AV := [enc x.1, .int .i64 x.2.1, .int .i64 x.2.2.1, .int .i64 x.2.2.2.1, .int .i64 x.2.2.2.2.1, .int .i64 x.2.2.2.2.2]
theorem aChk_inj (x y : T × Int × Int × Int × Int × Int) (h : aChk x = aChk y) : x = y := by
  obtain ⟨a, b, c, d, e, f⟩ := x; obtain ⟨a', b', c', d', e', f'⟩ := y
  simp [aChk] at h
  obtain ⟨h1, h2, h3, h4, h5, h6⟩ := h
  rw [enc_inj h1, h2, h3, h4, h5, h6]
def aChk7 (x : T × Int × Int × Int × Int) : List AV := [enc x.1, .int .i64 x.2.1, .int .i64 x.2.2.1, .int .i64 x.2.2.2.1, .int .i64 x.2.2.2.2]
theorem aChk7_inj (x y : T × Int × Int × Int × Int) (h : aChk7 x = aChk7 y) : x = y := by
  obtain ⟨a, b, c, d, e⟩ := x; obtain ⟨a', b', c', d', e'⟩ := y
  simp [aChk7] at h
  obtain ⟨h1, h2, h3, h4, h5⟩ := h
  rw [enc_inj h1, h2, h3, h4, h5]
def aIT (x : Int × List T) : List AV := [.int .i64 x.1, .lst (x.2.map enc)]
theorem aIT_inj (x y : Int × List T) (h : aIT x = aIT y) : x = y := by
  obtain ⟨a, b⟩ := x; obtain ⟨c, d⟩ := y
  simp only [aIT, List.cons.injEq, AV.int.injEq, AV.lst.injEq, true_and, and_true] at h
  rw [h.1, map_inj (fun _ _ => enc_inj) h.2]
def aTs (x : List T) : List AV := [.lst (x.map enc)]
theorem aTs_inj (x y : List T) (h : aTs x = aTs y) : x = y := by
  simp only [aTs, List.cons.injEq, AV.lst.injEq, and_true] at h
  exact map_inj (fun _ _ => enc_inj) h
def aLf (x : List LL) : List AV := [.lst (x.map encL), .fn 26 [] []]
theorem aLf_inj (x y : List LL) (h : aLf x = aLf y) : x = y := by
  simp only [aLf, List.cons.injEq, AV.lst.injEq, and_true] at h
  exact map_inj (fun _ _ => encL_inj) h
def aLL (x : LL) : List AV := [encL x, encL x]
theorem aLL_inj (x y : LL) (h : aLL x = aLL y) : x = y := by simp [aLL] at h; exact encL_inj h
def aLsLs (x : List LL) : List AV := [.lst (x.map encL), .lst (x.map encL)]
theorem aLsLs_inj (x y : List LL) (h : aLsLs x = aLsLs y) : x = y := by
  simp only [aLsLs, List.cons.injEq, AV.lst.injEq, and_true] at h
  exact map_inj (fun _ _ => encL_inj) h.1
def aTT (x : T) : List AV := [enc x, enc x]
theorem aTT_inj (x y : T) (h : aTT x = aTT y) : x = y := by simp [aTT] at h; exact enc_inj h
def aZI (x : List Int × Int) : List AV := [.lst (x.1.map AG.encI), .int .i64 x.2]
theorem aZI_inj (x y : List Int × Int) (h : aZI x = aZI y) : x = y := by
  obtain ⟨a, b⟩ := x; obtain ⟨c, d⟩ := y
  simp only [aZI, List.cons.injEq, AV.int.injEq, AV.lst.injEq, true_and, and_true] at h
  rw [map_inj (fun _ _ => encI_inj) h.1, h.2]
def aZTI (x : List Int × T × Int) : List AV := [.lst (x.1.map AG.encI), enc x.2.1, .int .i64 x.2.2]
theorem aZTI_inj (x y : List Int × T × Int) (h : aZTI x = aZTI y) : x = y := by
  obtain ⟨a, b, e⟩ := x; obtain ⟨c, d, f⟩ := y
  simp only [aZTI, List.cons.injEq, AV.int.injEq, AV.lst.injEq, true_and, and_true] at h
  rw [map_inj (fun _ _ => encI_inj) h.1, enc_inj h.2.1, h.2.2]
def aZT (x : List Int × T) : List AV := [.lst (x.1.map AG.encI), enc x.2]
theorem aZT_inj (x y : List Int × T) (h : aZT x = aZT y) : x = y := by
  obtain ⟨a, b⟩ := x; obtain ⟨c, d⟩ := y
  simp only [aZT, List.cons.injEq, AV.lst.injEq, and_true] at h
  rw [map_inj (fun _ _ => encI_inj) h.1, enc_inj h.2]
def a0 (_ : Unit) : List AV := []
theorem a0_inj (x y : Unit) (_ : a0 x = a0 y) : x = y := rfl

end Go.Proofs.YtnacljdablhbgaaGreat

/- UnifyInverts: one oracle for all contracts; what it does not know is run (no condition). -/
namespace Go.Proofs.YtnacljdablhbgaaGreat
open Go.AG

theorem oracles_at {C : Cx} (l : List AG.Spec) (hl : ∀ s ∈ l, s.Meets C) (hd : (l.map AG.Spec.fid).Nodup) : CallOk C (tblCall (tblAll l)) ∧ ∀ s ∈ l, s.Used (tblCall (tblAll l)) := by
  constructor
  · apply tbl_ok
    induction l with
    | nil => intro f a o e; cases e
    | cons s l ih =>
      intro f a o e
      unfold tblAll at e
      cases hs : s.tbl f a with
      | some o' => rw [hs] at e; cases e; exact Spec.tbl_ans (hl s (by simp)) hs
      | none => rw [hs] at e; exact ih (fun s hs => hl s (by simp [hs])) (by simp at hd; exact hd.2) f a o e
  · have key : ∀ s ∈ l, ∀ x, s.dom x → tblAll l (.fn s.fid [] (s.caps x)) (s.args x) = some (s.out x) := by
      clear hl
      induction l with
      | nil => intro s hs; simp at hs
      | cons t l ih =>
        intro s hs x hx
        unfold tblAll
        rcases List.mem_cons.1 hs with rfl | hs
        · rw [Spec.tbl_at hx]
        · have hne : s.fid ≠ t.fid := by
            intro e
            simp only [List.map_cons, List.nodup_cons, List.mem_map, not_exists, not_and] at hd
            exact hd.1 s hs e
          rw [Spec.tbl_other hne]
          exact ih (by simp only [List.map_cons, List.nodup_cons] at hd; exact hd.2) s hs x hx
    intro s hs x fc a h hx hc ha
    have e : tblAll l (AV.fn s.fid [] fc).norm (AV.norms a) = some (s.out x) := by
      simp only [AV.norm, AV.norms, hc, ha]
      exact key s hs x hx
    simp only [tblCall, e]

theorem tblAll_none {l : List AG.Spec} {f : FuncId} {c a : List AV} (h : ∀ s ∈ l, f ≠ s.fid) : tblAll l (.fn f [] c) a = none := by
  induction l with
  | nil => rfl
  | cons s l ih => unfold tblAll; rw [Spec.tbl_other (h s (by simp))]; exact ih fun s hs => h s (by simp [hs])
theorem tblAll_yld {l : List AG.Spec} {k : Nat} {a : List AV} : tblAll l (.yld k) a = none := by
  induction l with
  | nil => rfl
  | cons s l ih =>
    unfold tblAll
    have : s.tbl (.yld k) a = none := by
      unfold AG.Spec.tbl
      rw [dif_neg]
      rintro ⟨y, _, e, _⟩
      cases e
    rw [this]; exact ih

def formT (t : T) : Bool := formK t.kind t.idx t.name t.levels t.kids
def fvP (t : T) (L : List Int) : Prop := (∀ y, y ∈ L ↔ FV t 0 y) ∧ L.length ≤ size t

noncomputable def S72 : AG.Spec := mkS 72 aII aII_inj fun x o => o = .ret (.int .i64 (binders x.1 x.2))
noncomputable def S117 : AG.Spec := mkS 117 aU aU_inj fun x o => o = .ret (.bool (letter x))
noncomputable def S116 : AG.Spec := mkS 116 aI aI_inj fun x o => o = .ret (.int .i64 (kidsOf x))
noncomputable def S28 : AG.Spec := mkS 28 aT aT_inj fun x o => o = .ret (.int .i64 (size x))
noncomputable def S29 : AG.Spec := mkS 29 aT aT_inj fun _ o => isI o
noncomputable def S69 : AG.Spec := mkS 69 aT aT_inj fun x o => o = .ret (.bool (formT x))
noncomputable def S21 : AG.Spec := mkS 21 aL aL_inj fun _ o => isB o
noncomputable def S70 : AG.Spec := mkS 70 aS aS_inj fun _ o => isB o
noncomputable def S71 : AG.Spec := mkS 71 aLII aLII_inj fun _ o => isI o
noncomputable def S27 : AG.Spec := mkS 27 aChk aChk_inj fun x o => isW x.2.2.1 x.1 x.2.1 o
noncomputable def S7 : AG.Spec := mkS 7 aChk7 aChk7_inj fun x o => isW (max x.2.1 0) x.1 0 o
noncomputable def S24 : AG.Spec := mkS 24 aIT aIT_inj fun x o => isN x.1 x.2 o
noncomputable def S26 : AG.Spec := mkS 26 aL aL_inj fun x o => o = .ret (.bool (decide ((20 : Int) < (x.vars.length : Int))))
noncomputable def S68 : AG.Spec := mkS 68 aLf aLf_inj fun x o => isX x o
noncomputable def S25 : AG.Spec := mkS 25 aLf aLf_inj fun x o => isY x o
noncomputable def S6 : AG.Spec := mkS 6 aTs aTs_inj fun x o => isF x o
noncomputable def S58 : AG.Spec := mkS 58 aLL aLL_inj fun _ o => o = .ret (.bool true)
noncomputable def S47 : AG.Spec := mkS 47 aLsLs aLsLs_inj fun _ o => o = .ret (.bool true)
noncomputable def S11 : AG.Spec := mkS 11 aTT aTT_inj fun _ o => o = .ret (.bool true)
noncomputable def S44 : AG.Spec := mkS 44 aZI aZI_inj fun x o => o = .ret (.bool (decide (x.2 ∈ x.1)))
noncomputable def S42 : AG.Spec := mkS 42 aZI aZI_inj fun x o => o = .ret (.int .i64 (idxOf x.1 x.2))
noncomputable def S40 : AG.Spec := mkS 40 aZI aZI_inj fun x o => o = .ret (.bool (decide (x.2 ∈ x.1)))
noncomputable def S129 : AG.Spec := mkS 129 aZI aZI_inj fun x o => isL (addP x.1 x.2) o
noncomputable def S91 : AG.Spec := mkS 91 aZTI aZTI_inj fun x o => isL (freeP x.1 x.2.1 x.2.2) o
noncomputable def S45 : AG.Spec := mkS 45 aT aT_inj fun x o => isL (fvP x) o
noncomputable def S10 : AG.Spec := mkS 10 aZT aZT_inj fun x o => isT (invR x.1 x.2) o
noncomputable def S128 : AG.Spec := mkS 128 aII aII_inj fun x o => o = .ret (.int .i64 (binders x.1 x.2))
noncomputable def S89 : AG.Spec := mkS 89 aI aI_inj fun x o => o = .ret (enc (.mk 0 x (bs []) [] []))
noncomputable def S87 : AG.Spec := mkS 87 aT aT_inj fun x o => o = .ret (enc (.mk x.kind x.idx x.name x.levels []))
noncomputable def S123 : AG.Spec := mkS 123 a0 a0_inj fun _ o => o = .ret (.agg U65)
noncomputable def S41 : AG.Spec := mkS 41 aT aT_inj fun x o => isL (fvP x) o
noncomputable def S9 : AG.Spec := mkS 9 aZT aZT_inj fun x o => isT (invR x.1 x.2) o
noncomputable def S8 : AG.Spec := mkS 8 a0 a0_inj fun _ o => o = .ret (.bool true)

noncomputable def allS : List AG.Spec := [S72, S117, S116, S28, S29, S69, S21, S70, S71, S27, S7, S24, S26, S68, S25, S6, S58, S47, S11, S44, S42, S40, S129, S91, S45, S10, S128, S89, S87, S123, S41, S9, S8]

theorem allS_fids : allS.map AG.Spec.fid = [72, 117, 116, 28, 29, 69, 21, 70, 71, 27, 7, 24, 26, 68, 25, 6, 58, 47, 11, 44, 42, 40, 129, 91, 45, 10, 128, 89, 87, 123, 41, 9, 8] := rfl

noncomputable def G : CallF := tblCall (tblAll allS)

theorem allS_meets : ∀ s ∈ allS, s.Meets CI := by
  intro s hs
  simp only [allS, List.mem_cons, List.mem_nil_iff, or_false] at hs
  rcases hs with h | h | h | h | h | h | h | h | h | h | h | h | h | h | h | h | h | h | h | h | h | h | h | h | h | h | h | h | h | h | h | h | h <;> (subst h; exact mkS_meets)

theorem G_both : CallOk CI G ∧ ∀ s ∈ allS, s.Used G := oracles_at allS allS_meets (by rw [allS_fids]; decide)

theorem G_none {f : FuncId} {c a : List AV} {rc : RC} {h : AH} (hf : f ∉ allS.map AG.Spec.fid) : G (.fn f [] c) a rc h = none := by
  have hn : ∀ s ∈ allS, f ≠ s.fid := fun s hs e => hf (e ▸ List.mem_map_of_mem hs)
  unfold G tblCall
  cases rc <;> try rfl
  simp only [AV.norm, AV.norms, tblAll_none hn]
theorem G_yld {k : Nat} {a : List AV} {rc : RC} {h : AH} : G (.yld k) a rc h = none := by
  unfold G tblCall
  cases rc <;> try rfl
  simp only [AV.norm, tblAll_yld]

/- the table, and the sort -/
noncomputable def K0 : CallF := fun f a rc h => match G f a rc h with
  | some r => some r
  | none => sortCall f a rc h

theorem K0_ok : CallOk CI K0 := by
  intro f args rc h out rc' h' q
  unfold K0 at q
  cases hk : G f args rc h with
  | some r => rw [hk] at q; exact G_both.1 f args rc h out rc' h' (by rw [hk]; exact q)
  | none => rw [hk] at q; exact sort_ok f args rc h out rc' h' q

theorem K0_of {f : AV} {a : List AV} {rc : RC} {h : AH} {r : AOut × RC × AH} (e : G f a rc h = some r) : K0 f a rc h = some r := by simp only [K0, e]

theorem sort_none {f : FuncId} {c a : List AV} {rc : RC} {h : AH} (hf : f ≠ 82) : sortCall (.fn f [] c) a rc h = none := by
  unfold sortCall
  split
  · rename_i e; injection e with e1; exact absurd e1 hf
  · rename_i e; injection e with e1; exact absurd e1 hf
  · rfl

theorem K0_none {f : FuncId} {c a : List AV} {rc : RC} {h : AH} (hf : f ∉ allS.map AG.Spec.fid) (h82 : f ≠ 82) : K0 (.fn f [] c) a rc h = none := by
  simp only [K0, G_none hf, sort_none h82]
theorem K0_yld {k : Nat} {a : List AV} {rc : RC} {h : AH} : K0 (.yld k) a rc h = none := by
  simp only [K0, G_yld]
  unfold sortCall
  split <;> first | rfl | (rename_i e; cases e)

/- what the table does not know is run -/
noncomputable def cl (m : Nat) : CallF := mix K0 EI 10000 m
theorem cl_ok (m : Nat) : CallOk CI (cl m) := mix_ok hEI K0_ok 10000 m
theorem cl_G {f : AV} {a : List AV} {rc : RC} {h : AH} {r : AOut × RC × AH} (e : G f a rc h = some r) (m : Nat) : cl m f a rc h = some r := mix_known (K0_of e) m
theorem cl_run {f : FuncId} (hf : f ∉ allS.map AG.Spec.fid) (h82 : f ≠ 82) (m : Nat) (c a : List AV) (rc : RC) (h : AH) : cl (m + 1) (.fn f [] c) a rc h = evFn EI (cl m) 10000 f (a ++ c) rc h := mix_run (K0_none hf h82)
theorem cl_yld (m l : Nat) (a : List AV) (h : AH) : cl (m + 1) (.yld l) a .no h = evYld (cl m) 10000 l a h := mix_yld K0_yld

end Go.Proofs.YtnacljdablhbgaaGreat
