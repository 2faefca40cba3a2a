/- UnifyInverts: the table of functions; the small functions of the reference (no condition). -/
import Derived.Test.YtnacljdablhbgaaGreatBa
import Derived.Test.YtnacljdablhbgaaGreatAn
namespace Go.Proofs.YtnacljdablhbgaaGreat
open Go.AG
theorem hmix : Tryz.prog.follows .mixedOrders = true := by kernel_rfl
theorem hnames : namesOk Tryz.prog = true := by kernel_rfl
noncomputable def CI : Cx := cxOf Tryz.prog keepI hmix
theorem hEI : EnvOk CI EI := env_ok Tryz.prog keepI _ hmix hnames
def binders (kind kid : Int) : Int := if (kid = 1 ∧ (kind = 5 ∨ kind = 6 ∨ kind = 7)) ∨ (kid = 2 ∧ kind = 11) then 1 else 0
theorem run72 (call : CallF) (n : Nat) (kind kid : Int) : R call n [.code b72] (FQ r72 (.ret (.int .i64 (binders kind kid)))) .normal ⟨startTm [.int .i64 kind, .int .i64 kid], ⟨[], .no, none, 72⟩⟩ emptyH := by
  unfold b72 r72 emptyH
  repeat' (first | simp only [go_sem, Nat.reduceEqDiff, reduceCtorEq, *, s72_0, s72_1] | refine sG_nbool (fun _ => ?_) (fun _ => ?_) | refine sG_bool (fun _ => ?_) (fun _ => ?_) | refine sB_nbool (fun _ => ?_) (fun _ => ?_) | refine sB_bool (fun _ => ?_) (fun _ => ?_) | refine dC_nbool (fun _ => ?_) (fun _ => ?_) | refine dC_bool (fun _ => ?_) (fun _ => ?_))
  all_goals (simp_all [binders])
def letter (c : Int) : Bool := decide (97 ≤ c) && decide (c ≤ 122) || decide (65 ≤ c) && decide (c ≤ 90) || decide (c = 95)
theorem run117 (call : CallF) (n : Nat) (c : Int) : R call n [.code b117] (FQ r117 (.ret (.bool (letter c)))) .normal ⟨startTm [.int .u8 c], ⟨[], .no, none, 117⟩⟩ emptyH := by
  unfold b117 r117 emptyH
  repeat' (first | simp only [go_sem, Nat.reduceEqDiff, reduceCtorEq, *, s117_0] | refine sG_nbool (fun _ => ?_) (fun _ => ?_) | refine sG_bool (fun _ => ?_) (fun _ => ?_) | refine sB_nbool (fun _ => ?_) (fun _ => ?_) | refine sB_bool (fun _ => ?_) (fun _ => ?_) | refine dC_nbool (fun _ => ?_) (fun _ => ?_) | refine dC_bool (fun _ => ?_) (fun _ => ?_))
  all_goals (first | (simp_all [letter]; done) | (simp_all [letter]; omega))
def kidsOf (kind : Int) : Int := if kind = 4 ∨ kind = 5 ∨ kind = 6 ∨ kind = 7 then 2 else if kind = 8 ∨ kind = 11 then 3 else if kind = 9 ∨ kind = 10 then 1 else 0
theorem run116 (call : CallF) (n : Nat) (c : Int) : R call n [.code b116] (FQ r116 (.ret (.int .i64 (kidsOf c)))) .normal ⟨startTm [.int .i64 c], ⟨[], .no, none, 116⟩⟩ emptyH := by
  unfold b116 r116 emptyH
  repeat' (first | simp only [go_sem, Nat.reduceEqDiff, reduceCtorEq, *, s116_0, s116_1] | refine sG_nbool (fun _ => ?_) (fun _ => ?_) | refine sG_bool (fun _ => ?_) (fun _ => ?_) | refine sB_nbool (fun _ => ?_) (fun _ => ?_) | refine sB_bool (fun _ => ?_) (fun _ => ?_) | refine dC_nbool (fun _ => ?_) (fun _ => ?_) | refine dC_bool (fun _ => ?_) (fun _ => ?_))
  all_goals (simp_all [kidsOf])
mutual
def size : T → Nat
  | .mk _ _ _ _ ks => 1 + sizes ks
def sizes : List T → Nat
  | [] => 0
  | t :: l => size t + sizes l
end
theorem sizes_take (ks : List T) (i : Nat) (t : T) (h : ks[i]? = some t) : sizes (ks.take (i + 1)) = sizes (ks.take i) + size t := by
  induction ks generalizing i with
  | nil => simp at h
  | cons a l ih =>
    cases i with
    | zero => simp at h; subst h; simp [sizes]
    | succ i => simp at h; simp only [List.take_succ_cons, sizes, ih i h]; omega
theorem sizes_take_le (ks : List T) (m : Nat) : sizes (ks.take m) ≤ sizes ks := by
  induction ks generalizing m with
  | nil => simp
  | cons a l ih => cases m with
    | zero => simp [sizes]
    | succ m => simp only [List.take_succ_cons, sizes]; have := ih m; omega
def boxT (t : T) : AObj := .box (enc t).cells
theorem boxT_eq (k i : Int) (nm : ByteArray) (ls : List LL) (ks : List T) : boxT (.mk k i nm ls ks) = .box [.int .i64 k, .int .i64 i, .str nm, .lst (ls.map encL), .lst (ks.map enc)] := by
  rw [boxT, enc_eq]; rfl
def I28 (t : T) (j : Nat) (fr : AF) (h : AH) : Prop := ∃ tm m, m + j = t.kids.length ∧ fr = ⟨tm, ⟨[], .no, none, 28⟩⟩ ∧ h = ⟨1, 0, Tr.lf.put 0 (boxT t)⟩ ∧
    nth tm 1 = .ptr 0 0 0 ∧ nth tm 3 = .int .i64 ((1 + sizes (t.kids.take m) : Nat) : Int) ∧ nth tm 4 = .int .i64 (m : Int)
theorem run28 (call : CallF) (n : Nat) (k i : Int) (nm : ByteArray) (ls : List LL) (ks : List T) (hn : ks.length < n) (hs : 1 + sizes ks < 9223372036854775807) (hl : ks.length < 9223372036854775807)
    (hc : ∀ t ∈ ks, ∀ h, call (.fn 28 [] []) [enc t] .no h = some (.ret (.int .i64 (size t)), .no, h)) :
    R call n [.code b28] (FQ r28 (.ret (.int .i64 (size (.mk k i nm ls ks))))) .normal ⟨startTm [enc (.mk k i nm ls ks)], ⟨[], .no, none, 28⟩⟩ emptyH := by
  rw [enc_eq]
  unfold b28 r28 emptyH
  simp only [go_sem, Nat.reduceAdd, s28_4, s28_3]
  refine R_loop (I28 (.mk k i nm ls ks)) ks.length hn ?_ ?_
  · exact ⟨_, 0, Nat.zero_add _, rfl, by rw [boxT_eq], by simp only [go_sem, Nat.reduceEqDiff], by simp only [go_sem, Nat.reduceEqDiff]; simp [sizes], by simp only [go_sem]; rfl⟩
  · rintro j fr h ⟨tm, m, hm, rfl, rfl, h1, h3, h4⟩
    simp only [T.kids] at hm h3
    rw [boxT_eq]
    unfold b28_1
    simp only [go_sem, Nat.reduceEqDiff, s28_0, h1, h4]
    refine sB_dec (fun hlt => ?_) (fun hge => ?_)
    · have hlt : m < ks.length := by omega
      have hget : ks[m]? = some ks[m] := List.getElem?_eq_getElem hlt
      have hcall := hc ks[m] (List.getElem_mem hlt)
      have ha := fun h => iaddr_map enc_cells hget .i64 h
      have hst := sizes_take ks m _ hget
      have hsz := sizes_take_le ks (m + 1)
      have hw1 : IntKind.wrap .i64 (((1 + sizes (ks.take m) : Nat) : Int) + (size ks[m] : Int)) = ((1 + sizes (ks.take (m + 1)) : Nat) : Int) := by rw [wrap_fits _ (by omega) (by omega)]; omega
      have hw2 := wrap_succ m (by omega)
      simp only [go_sem, Nat.reduceEqDiff, h1, h3, h4, ha, hcall, hw1, hw2]
      exact ⟨j - 1, by omega, _, m + 1, by simp only [T.kids]; omega, rfl, by rw [boxT_eq], by simp only [go_sem, Nat.reduceEqDiff, h1], by simp only [go_sem, Nat.reduceEqDiff, T.kids], by simp only [go_sem]⟩
    · have : m = ks.length := by omega
      subst this
      simp only [go_sem, Nat.reduceEqDiff, s28_2, h3]
      simp [size]
section
variable (call : CallF) (n : Nat) (k i : Int) (nm : ByteArray) (ls : List LL) (ks : List T) (tm : Tm) (h : AH) (v : Bool)
def form0 (k : Int) (ls : List LL) : Bool := decide ((ls.length : Int) = 0) || decide (k = 3)
def form1 (k : Int) (ls : List LL) : Bool := cond (decide (k = 2)) (decide ((ls.length : Int) = 1)) (form0 k ls)
def form2 (k : Int) (nm : ByteArray) (ls : List LL) : Bool := !(!(nm == bs []) && !decide (k = 3)) && form1 k ls
def form3 (k i : Int) (nm : ByteArray) (ls : List LL) : Bool := !(!decide (i = 0) && !decide (k = 0) && !decide (k = 12)) && form2 k nm ls
def formK (k i : Int) (nm : ByteArray) (ls : List LL) (ks : List T) : Bool := !(decide (k < 0) || decide (13 ≤ k) || !decide ((ks.length : Int) = kidsOf k)) && form3 k i nm ls
theorem run69_0 (h1 : nth tm 1 = .ptr 0 0 0) (hh : h.get 0 = some (.box [.int .i64 k, .int .i64 i, .str nm, .lst (ls.map encL), .lst (ks.map enc)])) :
    R call n [.code s69_0] (FQ [.tmp 2] (.ret (.bool (form0 k ls)))) .normal ⟨tm, ⟨[], .no, none, 69⟩⟩ h := by
  unfold s69_0 form0
  repeat' (first | simp only [go_sem, Nat.reduceEqDiff, *] | refine sG_nbool (fun _ => ?_) (fun _ => ?_) | refine sG_bool (fun _ => ?_) (fun _ => ?_) | refine sB_nbool (fun _ => ?_) (fun _ => ?_) | refine sB_bool (fun _ => ?_) (fun _ => ?_) | refine dC_nbool (fun _ => ?_) (fun _ => ?_) | refine dC_bool (fun _ => ?_) (fun _ => ?_))
theorem run69_1 (h1 : nth tm 1 = .ptr 0 0 0) (hh : h.get 0 = some (.box [.int .i64 k, .int .i64 i, .str nm, .lst (ls.map encL), .lst (ks.map enc)])) :
    R call n [.code s69_1] (FQ [.tmp 2] (.ret (.bool (form1 k ls)))) .normal ⟨tm, ⟨[], .no, none, 69⟩⟩ h := by
  unfold s69_1 form1
  repeat' (first | simp only [go_sem, Nat.reduceEqDiff, *] | refine sG_nbool (fun _ => ?_) (fun _ => ?_) | refine sG_bool (fun _ => ?_) (fun _ => ?_) | refine sB_nbool (fun _ => ?_) (fun _ => ?_) | refine sB_bool (fun _ => ?_) (fun _ => ?_) | refine dC_nbool (fun _ => ?_) (fun _ => ?_) | refine dC_bool (fun _ => ?_) (fun _ => ?_))
  exact run69_0 _ _ _ _ _ _ _ _ _ (by simp only [go_sem, Nat.reduceEqDiff, h1]) hh
theorem run69_2 (h1 : nth tm 1 = .ptr 0 0 0) (hh : h.get 0 = some (.box [.int .i64 k, .int .i64 i, .str nm, .lst (ls.map encL), .lst (ks.map enc)])) :
    R call n [.code s69_2] (FQ [.tmp 2] (.ret (.bool (form2 k nm ls)))) .normal ⟨tm, ⟨[], .no, none, 69⟩⟩ h := by
  unfold s69_2 form2
  repeat' (first | simp only [go_sem, Nat.reduceEqDiff, *] | refine sG_nbool (fun _ => ?_) (fun _ => ?_) | refine sG_bool (fun _ => ?_) (fun _ => ?_) | refine sB_nbool (fun _ => ?_) (fun _ => ?_) | refine sB_bool (fun _ => ?_) (fun _ => ?_) | refine dC_nbool (fun _ => ?_) (fun _ => ?_) | refine dC_bool (fun _ => ?_) (fun _ => ?_))
  all_goals exact run69_1 _ _ _ _ _ _ _ _ _ (by simp only [go_sem, Nat.reduceEqDiff, h1]) hh
theorem run69_3 (h1 : nth tm 1 = .ptr 0 0 0) (hh : h.get 0 = some (.box [.int .i64 k, .int .i64 i, .str nm, .lst (ls.map encL), .lst (ks.map enc)])) :
    R call n [.code s69_3] (FQ [.tmp 2] (.ret (.bool (form3 k i nm ls)))) .normal ⟨tm, ⟨[], .no, none, 69⟩⟩ h := by
  unfold s69_3 form3
  repeat' (first | simp only [go_sem, Nat.reduceEqDiff, *] | refine sG_nbool (fun _ => ?_) (fun _ => ?_) | refine sG_bool (fun _ => ?_) (fun _ => ?_) | refine sB_nbool (fun _ => ?_) (fun _ => ?_) | refine sB_bool (fun _ => ?_) (fun _ => ?_) | refine dC_nbool (fun _ => ?_) (fun _ => ?_) | refine dC_bool (fun _ => ?_) (fun _ => ?_))
  all_goals exact run69_2 _ _ _ _ _ _ _ _ _ (by simp only [go_sem, Nat.reduceEqDiff, h1]) hh
theorem run69 (hc : ∀ h, call (.fn 116 [] []) [.int .i64 k] .no h = some (.ret (.int .i64 (kidsOf k)), .no, h)) :
    R call n [.code b69] (FQ r69 (.ret (.bool (formK k i nm ls ks)))) .normal ⟨startTm [enc (.mk k i nm ls ks)], ⟨[], .no, none, 69⟩⟩ emptyH := by
  rw [enc_eq]
  unfold b69 r69 emptyH formK
  repeat' (first | simp only [go_sem, Nat.reduceEqDiff, Nat.reduceAdd, Nat.reduceLT, *, s69_4] | refine sG_nbool (fun _ => ?_) (fun _ => ?_) | refine sG_bool (fun _ => ?_) (fun _ => ?_) | refine sB_nbool (fun _ => ?_) (fun _ => ?_) | refine sB_bool (fun _ => ?_) (fun _ => ?_) | refine dC_nbool (fun _ => ?_) (fun _ => ?_) | refine dC_bool (fun _ => ?_) (fun _ => ?_))
  all_goals exact run69_3 _ _ k i nm ls ks _ _ (by simp only [go_sem, Nat.reduceEqDiff]) (by simp only [go_sem])
end
def isB (o : AOut) : Prop := ∃ b, o = .ret (.bool b)
def isI (o : AOut) : Prop := ∃ e, o = .ret (.int .i64 e)
def FX (rs : List ARes) (P : AOut → Prop) (e : AEx) (fr : AF) (h : AH) : Prop := ∃ o, P o ∧ FQ rs o e fr h
theorem FX_ret {rs : List ARes} {P : AOut → Prop} {tm : Tm} {rnd : Option Nat} {f : FuncId} {h : AH} : FX rs P .ret ⟨tm, ⟨[], .no, rnd, f⟩⟩ h = ∃ vs, evRes rs tm h = some vs ∧ P (AOut.ret (frz 4 h 0 (one vs)).norm) := by
  apply propext
  constructor
  · rintro ⟨o, hp, hq⟩
    rw [FQ_ret] at hq
    obtain ⟨vs, h1, rfl⟩ := hq
    exact ⟨vs, h1, hp⟩
  · rintro ⟨vs, h1, hp⟩
    exact ⟨_, hp, by rw [FQ_ret]; exact ⟨vs, h1, rfl⟩⟩
theorem isB_b (b : Bool) : isB (.ret (.bool b)) = True := eq_true ⟨b, rfl⟩
theorem isI_i (b : Int) : isI (.ret (.int .i64 b)) = True := eq_true ⟨b, rfl⟩
def I21 (c : Int) (vs : List LV) (j : Nat) (fr : AF) (h : AH) : Prop := ∃ tm m nx lo ob, m + j = vs.length ∧ fr = ⟨tm, ⟨[], .no, none, 21⟩⟩ ∧ h = ⟨nx, lo, ob⟩ ∧ 0 < nx ∧ ob.get 0 = some (.box [.int .i64 c, .lst (vs.map encV)]) ∧
    nth tm 1 = .ptr 0 0 0 ∧ nth tm 3 = .int .i64 (m : Int)
theorem I21_next {c : Int} {vs : List LV} {j m : Nat} {tm : Tm} {nx lo : Nat} {ob : Tr AObj} (hm : m + j = vs.length) (hlt : m < vs.length) (q1 : 0 < nx) (q2 : ob.get 0 = some (.box [.int .i64 c, .lst (vs.map encV)])) (q3 : nth tm 1 = .ptr 0 0 0) (q4 : nth tm 3 = .int .i64 ((m + 1 : Nat) : Int)) :
    ∃ j', j' < j ∧ I21 c vs j' ⟨tm, ⟨[], .no, none, 21⟩⟩ ⟨nx, lo, ob⟩ := ⟨j - 1, by omega, tm, m + 1, nx, lo, ob, by omega, rfl, rfl, q1, q2, q3, q4⟩
theorem run21 (call : CallF) (n : Nat) (c : Int) (vs : List LV) (hn : vs.length < n) (hl : vs.length < 9223372036854775807) :
    R call n [.code b21] (FX r21 isB) .normal ⟨startTm [encL ⟨c, vs⟩], ⟨[], .no, none, 21⟩⟩ emptyH := by
  unfold b21 r21 emptyH encL
  repeat' (first | simp only [go_sem, Nat.reduceEqDiff, Nat.reduceAdd, *, s21_7, s21_6, FX_ret, isB_b] | refine sG_nbool (fun _ => ?_) (fun _ => ?_) | refine sG_bool (fun _ => ?_) (fun _ => ?_) | refine sB_nbool (fun _ => ?_) (fun _ => ?_) | refine sB_bool (fun _ => ?_) (fun _ => ?_) | refine dC_nbool (fun _ => ?_) (fun _ => ?_) | refine dC_bool (fun _ => ?_) (fun _ => ?_))
  refine R_loop (I21 c vs) vs.length hn ⟨_, 0, _, _, _, Nat.zero_add _, rfl, rfl, Nat.zero_lt_one, by simp only [go_sem], by simp only [go_sem, Nat.reduceEqDiff], by simp only [go_sem]; rfl⟩ ?_
  rintro j fr h ⟨tm, m, nx, lo, ob, hm, rfl, rfl, hnx, hg, h1, h3⟩
  unfold b21_4
  simp only [go_sem, Nat.reduceEqDiff, h1, h3, hg]
  refine sB_dec (fun hlt => ?_) (fun hge => ?_)
  · have hlt : m < vs.length := by omega
    have hget : vs[m]? = some vs[m] := List.getElem?_eq_getElem hlt
    have ha := fun h => iaddr_map encV_cells hget .i64 h
    have hw2 := wrap_succ m (by omega)
    have hne : ¬ (0 = nx) := by omega
    have hv : encV vs[m] = .agg [.int .i64 vs[m].idx, .int .i64 vs[m].plus] := rfl
    cases m with
    | zero =>
      have hd : decide ((0 : Int) < ((0 : Nat) : Int)) = false := by simp
      repeat' (first | simp only [go_sem, Nat.reduceEqDiff, Nat.reduceAdd, Int.reduceNeg, *, s21_3, s21_2, s21_1, s21_0, FX_ret, isB_b] | refine sG_nbool (fun _ => ?_) (fun _ => ?_) | refine sG_bool (fun _ => ?_) (fun _ => ?_) | refine sB_nbool (fun _ => ?_) (fun _ => ?_) | refine sB_bool (fun _ => ?_) (fun _ => ?_) | refine dC_nbool (fun _ => ?_) (fun _ => ?_) | refine dC_bool (fun _ => ?_) (fun _ => ?_))
      all_goals exact I21_next hm hlt (by omega) (by simp only [go_sem, *]) (by simp only [go_sem, Nat.reduceEqDiff, *]) (by simp only [go_sem, *])
    | succ p =>
      have hgp : vs[p]? = some vs[p] := List.getElem?_eq_getElem (by omega)
      have ha3 := fun h => iaddr_map encV_cells hgp .i64 h
      have hv3 : encV vs[p] = .agg [.int .i64 vs[p].idx, .int .i64 vs[p].plus] := rfl
      have hw3 : IntKind.wrap .i64 (((p + 1 : Nat) : Int) - 1) = (p : Int) := by rw [wrap_fits _ (by omega) (by omega)]; omega
      have hd : decide ((0 : Int) < ((p + 1 : Nat) : Int)) = true := by simp
      repeat' (first | simp only [go_sem, Nat.reduceEqDiff, Nat.reduceAdd, Int.reduceNeg, *, s21_3, s21_2, s21_1, s21_0, FX_ret, isB_b] | refine sG_nbool (fun _ => ?_) (fun _ => ?_) | refine sG_bool (fun _ => ?_) (fun _ => ?_) | refine sB_nbool (fun _ => ?_) (fun _ => ?_) | refine sB_bool (fun _ => ?_) (fun _ => ?_) | refine dC_nbool (fun _ => ?_) (fun _ => ?_) | refine dC_bool (fun _ => ?_) (fun _ => ?_))
      all_goals exact I21_next hm hlt (by omega) (by simp only [go_sem, *]) (by simp only [go_sem, Nat.reduceEqDiff, *]) (by simp only [go_sem, *])
  · repeat' (first | simp only [go_sem, *, s21_5, FX_ret, isB_b] | refine sG_nbool (fun _ => ?_) (fun _ => ?_) | refine sG_bool (fun _ => ?_) (fun _ => ?_) | refine sB_nbool (fun _ => ?_) (fun _ => ?_) | refine sB_bool (fun _ => ?_) (fun _ => ?_) | refine dC_nbool (fun _ => ?_) (fun _ => ?_) | refine dC_bool (fun _ => ?_) (fun _ => ?_))
theorem strIdx_at (s : ByteArray) (m : Nat) (hm : m < s.size) : ∃ b : Int, evStrIdx (.str s) (.int .i64 (m : Int)) = some (.int .u8 b) := by
  have hl : m < s.data.toList.length := by simpa using hm
  refine ⟨((s.data.toList[m]'hl).toNat : Int), ?_⟩
  show bindO (nthL m s.data.toList) _ = _
  rw [nthL_eq, List.getElem?_eq_getElem hl]; rfl
def I70 (s : ByteArray) (j : Nat) (fr : AF) (_h : AH) : Prop := ∃ tm m b, m + j = s.size ∧ fr = ⟨tm, ⟨[], .no, none, 70⟩⟩ ∧ nth tm 0 = .str s ∧ nth tm 3 = .bool b ∧ nth tm 4 = .int .i64 (m : Int)
theorem I70_next {s : ByteArray} {j m : Nat} {tm : Tm} {h : AH} (hm : m + j = s.size) (hlt : m < s.size) (q1 : nth tm 0 = .str s) (q2 : ∃ b, nth tm 3 = .bool b) (q3 : nth tm 4 = .int .i64 ((m + 1 : Nat) : Int)) :
    ∃ j', j' < j ∧ I70 s j' ⟨tm, ⟨[], .no, none, 70⟩⟩ h := by
  obtain ⟨b, q2⟩ := q2
  exact ⟨j - 1, by omega, tm, m + 1, b, by omega, rfl, q1, q2, q3⟩
theorem run70 (call : CallF) (n : Nat) (s : ByteArray) (hn : s.size < n) (hl : s.size < 9223372036854775807) (hc : ∀ c h, call (.fn 117 [] []) [.int .u8 c] .no h = some (.ret (.bool (letter c)), .no, h)) :
    R call n [.code b70] (FX r70 isB) .normal ⟨startTm [.str s], ⟨[], .no, none, 70⟩⟩ emptyH := by
  unfold b70 r70 emptyH
  repeat' (first | simp only [go_sem, Nat.reduceEqDiff, reduceCtorEq, *, FX_ret, isB_b, s70_6, s70_7, s70_8] | refine sG_nbool (fun _ => ?_) (fun _ => ?_) | refine sG_bool (fun _ => ?_) (fun _ => ?_) | refine sB_nbool (fun _ => ?_) (fun _ => ?_) | refine sB_bool (fun _ => ?_) (fun _ => ?_) | refine dC_nbool (fun _ => ?_) (fun _ => ?_) | refine dC_bool (fun _ => ?_) (fun _ => ?_))
  refine R_loop (I70 s) s.size hn ⟨_, 0, true, Nat.zero_add _, rfl, by simp only [go_sem, reduceCtorEq], by simp only [go_sem, Nat.reduceEqDiff], by simp only [go_sem]; rfl⟩ ?_
  rintro j fr h ⟨tm, m, b, hm, rfl, h0, h3, h4⟩
  unfold b70_4
  simp only [go_sem, Nat.reduceEqDiff, reduceCtorEq, h0, h4]
  refine sB_dec (fun hlt => ?_) (fun hge => ?_)
  · have hlt : m < s.size := by omega
    obtain ⟨c, hb⟩ := strIdx_at s m hlt
    have hw2 := wrap_succ m (by omega)
    repeat' (first | simp only [go_sem, Nat.reduceEqDiff, reduceCtorEq, *, FX_ret, isB_b, s70_0, s70_1, s70_2, s70_3] | refine sG_nbool (fun _ => ?_) (fun _ => ?_) | refine sG_bool (fun _ => ?_) (fun _ => ?_) | refine sB_nbool (fun _ => ?_) (fun _ => ?_) | refine sB_bool (fun _ => ?_) (fun _ => ?_) | refine dC_nbool (fun _ => ?_) (fun _ => ?_) | refine dC_bool (fun _ => ?_) (fun _ => ?_))
    all_goals exact I70_next hm hlt (by simp only [go_sem, reduceCtorEq, *]) ⟨_, by simp only [go_sem, Nat.reduceEqDiff, *]; rfl⟩ (by simp only [go_sem, *])
  · repeat' (first | simp only [go_sem, Nat.reduceEqDiff, *, FX_ret, isB_b, s70_5] | refine sG_nbool (fun _ => ?_) (fun _ => ?_) | refine sG_bool (fun _ => ?_) (fun _ => ?_) | refine sB_nbool (fun _ => ?_) (fun _ => ?_) | refine sB_bool (fun _ => ?_) (fun _ => ?_) | refine dC_nbool (fun _ => ?_) (fun _ => ?_) | refine dC_bool (fun _ => ?_) (fun _ => ?_))
def I71 (_f _m0 : Nat) (x : LL) (p q : Int) (sl : Nat) (j : Nat) (fr : AF) (h : AH) : Prop := ∃ tm m, m + j = x.vars.length ∧ fr = ⟨tm, ⟨[], .no, none, 71⟩⟩ ∧ h.get 0 = some (.box [.int .i64 x.c, .lst (x.vars.map encV)]) ∧
  nth tm 3 = .ptr 0 0 0 ∧ nth tm 1 = .int .i64 p ∧ nth tm 2 = .int .i64 q ∧ nth tm sl = .int .i64 (m : Int)
theorem I71_next {f m0 : Nat} {x : LL} {p q : Int} {sl j m : Nat} {tm : Tm} {h : AH} (hm : m + j = x.vars.length) (hlt : m < x.vars.length) (q1 : h.get 0 = some (.box [.int .i64 x.c, .lst (x.vars.map encV)])) (q2 : nth tm 3 = .ptr 0 0 0) (q3 : nth tm 1 = .int .i64 p) (q4 : nth tm 2 = .int .i64 q) (q5 : nth tm sl = .int .i64 ((m + 1 : Nat) : Int)) :
    ∃ j', j' < j ∧ I71 f m0 x p q sl j' ⟨tm, ⟨[], .no, none, 71⟩⟩ h := ⟨j - 1, by omega, tm, m + 1, by omega, rfl, q1, q2, q3, q4, q5⟩
theorem run71 (call : CallF) (n : Nat) (x : LL) (p q : Int) (b : Bool) (hn : x.vars.length < n) (hl : x.vars.length < 9223372036854775807) (hc : ∀ h, call (.fn 21 [] []) [encL x] .no h = some (.ret (.bool b), .no, h)) :
    R call n [.code b71] (FX r71 isI) .normal ⟨startTm [encL x, .int .i64 p, .int .i64 q], ⟨[], .no, none, 71⟩⟩ emptyH := by
  unfold b71 r71 emptyH
  unfold encL at hc ⊢
  repeat' (first | simp only [go_sem, Nat.reduceEqDiff, Nat.reduceAdd, reduceCtorEq, *, FX_ret, isI_i, s71_6, s71_7] | refine sG_nbool (fun _ => ?_) (fun _ => ?_) | refine sG_bool (fun _ => ?_) (fun _ => ?_) | refine sB_nbool (fun _ => ?_) (fun _ => ?_) | refine sB_bool (fun _ => ?_) (fun _ => ?_) | refine dC_nbool (fun _ => ?_) (fun _ => ?_) | refine dC_bool (fun _ => ?_) (fun _ => ?_))
  refine R_loop (I71 0 0 x p q 7) x.vars.length hn ⟨_, 0, Nat.zero_add _, rfl, by simp only [go_sem], by simp only [go_sem, Nat.reduceEqDiff], by simp only [go_sem, Nat.reduceEqDiff], by simp only [go_sem, Nat.reduceEqDiff], by simp only [go_sem]; rfl⟩ ?_
  rintro j fr h ⟨tm, m, hm, rfl, hg, h3, h1, h2, h7⟩
  unfold b71_1
  simp only [go_sem, Nat.reduceEqDiff, hg, h3, h7]
  refine sB_dec (fun hlt => ?_) (fun hge => ?_)
  · have hlt : m < x.vars.length := by omega
    have hget : x.vars[m]? = some x.vars[m] := List.getElem?_eq_getElem hlt
    have ha := fun h => iaddr_map encV_cells hget .i64 h
    have hv : encV x.vars[m] = .agg [.int .i64 x.vars[m].idx, .int .i64 x.vars[m].plus] := rfl
    have hw2 := wrap_succ m (by omega)
    repeat' (first | simp only [go_sem, Nat.reduceEqDiff, *, FX_ret, isI_i, s71_0] | refine sG_nbool (fun _ => ?_) (fun _ => ?_) | refine sG_bool (fun _ => ?_) (fun _ => ?_) | refine sB_nbool (fun _ => ?_) (fun _ => ?_) | refine sB_bool (fun _ => ?_) (fun _ => ?_) | refine dC_nbool (fun _ => ?_) (fun _ => ?_) | refine dC_bool (fun _ => ?_) (fun _ => ?_))
    all_goals exact I71_next hm hlt (by simp only [go_sem, *]) (by simp only [go_sem, Nat.reduceEqDiff, *]) (by simp only [go_sem, Nat.reduceEqDiff, *]) (by simp only [go_sem, Nat.reduceEqDiff, *]) (by simp only [go_sem, *])
  · repeat' (first | simp only [go_sem, *, s71_5] | refine sG_nbool (fun _ => ?_) (fun _ => ?_) | refine sG_bool (fun _ => ?_) (fun _ => ?_) | refine sB_nbool (fun _ => ?_) (fun _ => ?_) | refine sB_bool (fun _ => ?_) (fun _ => ?_) | refine dC_nbool (fun _ => ?_) (fun _ => ?_) | refine dC_bool (fun _ => ?_) (fun _ => ?_))
    refine R_loop (I71 0 0 x p q 8) x.vars.length hn ⟨_, 0, Nat.zero_add _, rfl, by simp only [go_sem, *], by simp only [go_sem, Nat.reduceEqDiff, *], by simp only [go_sem, Nat.reduceEqDiff, *], by simp only [go_sem, Nat.reduceEqDiff, *], by simp only [go_sem, *]; rfl⟩ ?_
    rintro j fr h ⟨tm, m, hm, rfl, hg, h3, h1, h2, h7⟩
    unfold b71_3
    simp only [go_sem, Nat.reduceEqDiff, hg, h3, h7]
    refine sB_dec (fun hlt => ?_) (fun hge => ?_)
    · have hlt : m < x.vars.length := by omega
      have hget : x.vars[m]? = some x.vars[m] := List.getElem?_eq_getElem hlt
      have ha := fun h => iaddr_map encV_cells hget .i64 h
      have hv : encV x.vars[m] = .agg [.int .i64 x.vars[m].idx, .int .i64 x.vars[m].plus] := rfl
      have hw2 := wrap_succ m (by omega)
      repeat' (first | simp only [go_sem, Nat.reduceEqDiff, Int.reduceNeg, *, FX_ret, isI_i, s71_2] | refine sG_nbool (fun _ => ?_) (fun _ => ?_) | refine sG_bool (fun _ => ?_) (fun _ => ?_) | refine sB_nbool (fun _ => ?_) (fun _ => ?_) | refine sB_bool (fun _ => ?_) (fun _ => ?_) | refine dC_nbool (fun _ => ?_) (fun _ => ?_) | refine dC_bool (fun _ => ?_) (fun _ => ?_))
      all_goals exact I71_next hm hlt (by simp only [go_sem, *]) (by simp only [go_sem, Nat.reduceEqDiff, Int.reduceNeg, *]) (by simp only [go_sem, Nat.reduceEqDiff, Int.reduceNeg, *]) (by simp only [go_sem, Nat.reduceEqDiff, Int.reduceNeg, *]) (by simp only [go_sem, Int.reduceNeg, *])
    · repeat' (first | simp only [go_sem, *, FX_ret, isI_i, s71_4] | refine sG_nbool (fun _ => ?_) (fun _ => ?_) | refine sG_bool (fun _ => ?_) (fun _ => ?_) | refine sB_nbool (fun _ => ?_) (fun _ => ?_) | refine sB_bool (fun _ => ?_) (fun _ => ?_) | refine dC_nbool (fun _ => ?_) (fun _ => ?_) | refine dC_bool (fun _ => ?_) (fun _ => ?_))
def I29 (t : List AV) (ks : List T) (j : Nat) (fr : AF) (h : AH) : Prop := ∃ tm m e, m + j = ks.length ∧ fr = ⟨tm, ⟨[], .no, none, 29⟩⟩ ∧ h.get 0 = some (.box t) ∧ nth tm 1 = .ptr 0 0 0 ∧ nth tm 3 = .int .i64 e ∧ nth tm 4 = .int .i64 (m : Int)
theorem run29 (call : CallF) (n : Nat) (k i : Int) (nm : ByteArray) (ls : List LL) (ks : List T) (hn : ks.length < n) (hl : ks.length < 9223372036854775807)
    (hc : ∀ t ∈ ks, ∃ e, ∀ h, call (.fn 29 [] []) [enc t] .no h = some (.ret (.int .i64 e), .no, h)) :
    R call n [.code b29] (FX r29 isI) .normal ⟨startTm [enc (.mk k i nm ls ks)], ⟨[], .no, none, 29⟩⟩ emptyH := by
  rw [enc_eq]
  unfold b29 r29 emptyH
  simp only [go_sem, Nat.reduceAdd, s29_4, s29_3]
  refine R_loop (I29 [.int .i64 k, .int .i64 i, .str nm, .lst (ls.map encL), .lst (ks.map enc)] ks) ks.length hn ⟨_, 0, 0, Nat.zero_add _, rfl, by simp only [go_sem], by simp only [go_sem, Nat.reduceEqDiff], by simp only [go_sem, Nat.reduceEqDiff], by simp only [go_sem]; rfl⟩ ?_
  rintro j fr h ⟨tm, m, e, hm, rfl, hg, h1, h3, h4⟩
  unfold b29_1
  simp only [go_sem, Nat.reduceEqDiff, hg, h1, h4]
  refine sB_dec (fun hlt => ?_) (fun hge => ?_)
  · have hlt : m < ks.length := by omega
    have hget : ks[m]? = some ks[m] := List.getElem?_eq_getElem hlt
    have ha := fun h => iaddr_map enc_cells hget .i64 h
    obtain ⟨e2, hcall⟩ := hc ks[m] (List.getElem_mem hlt)
    have hw2 := wrap_succ m (by omega)
    simp only [go_sem, Nat.reduceEqDiff, s29_0, hg, h1, h3, h4, ha, hcall, hw2]
    exact ⟨j - 1, by omega, _, m + 1, _, by omega, rfl, hg, by simp only [go_sem, Nat.reduceEqDiff, *], by simp only [go_sem, Nat.reduceEqDiff, *]; rfl, by simp only [go_sem, *]⟩
  · simp only [go_sem, Nat.reduceEqDiff, s29_2, h3, FX_ret, isI_i]
end Go.Proofs.YtnacljdablhbgaaGreat
