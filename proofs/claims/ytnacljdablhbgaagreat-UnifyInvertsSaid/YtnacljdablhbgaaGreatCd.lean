/- UnifyInverts: Rename of the reference (no condition). -/
import Derived.Test.YtnacljdablhbgaaGreatCc
namespace Go.Proofs.YtnacljdablhbgaaGreat
open Go.AG
attribute [local go_sem] R_draw RD_nil RD_mv RD_pick RD_build RD_litT RD_load RD_store RD_nilChk RD_bin RD_un RD_mkFn RD_slice RD_faddr RD_field RD_iaddr RD_extract RD_len RD_append RD_call RD_new dE_eq dC_still dC_still0 dC_reads dC_reads0 dC_acts dC_acts0 dS_val dV_val dA_val dA_call dK_ret wants_n wants_s births_n births_c birth_new birth_mv birth_pick birth_build birth_lit birth_load birth_store birth_nilChk birth_bin birth_un birth_mkFn birth_slice birth_faddr birth_field birth_iaddr birth_extract birth_builtin birth_call ite_lohi ite_01 ite_02 ite_12 ite_23 ite_13 ite_03 rdsOk_nil rdsOk_cons rdOk_nil rdOk_cons sameVal_val beq_ptr beq_row beq_int beq_enc beq_lstT beq_lstL List.append_eq List.nil_append List.cons_append Bool.true_or Bool.or_true Bool.false_or Bool.or_false Bool.true_and Bool.and_true Bool.false_and Bool.and_false Bool.not_not R_nil R_skip R_seq R_region R_scope R_exit R_ret R_block R_cond sB_true sB_false R_code_exit R_code_ret R_code_panic R_ops_exit R_ops_ret R_ops_panic R_out_normal R_out_ret R_out_panic R_out_same R_out_other R_ops_nil R_op R_opg sG_true sG_false sR_val sR_call sR_pan sC_ret sC_pan LQ_normal LQ_exit LQ_ret LQ_panic op_mv' op_pick' op_new' op_box' op_load' op_store' op_bin' op_un' op_convInt' op_defer' sR_dfr sX_some dfr_fn cells_fn lies_fn cells_map lies_map op_iaddrA' op_lookup' op_mapUp' op_mkMap' putAll_2 op_mkSlice' op_slice' slice_hi tupL_t nthL_eq op_faddr' op_field' op_iaddr' op_strIdx' op_arrIdx' op_extract' op_len' op_append' op_max' op_call' op_mkFn' op_build' parts_nil parts_cons build_0 build_2 op_nilChk' nilChk_ptr op_lit' litParts_1 lit_int lit_agg5 lit_agg2 okV_s okH_s okVH_s ev_t ev_c putD_s putD_n nth_same nth_other startTm_1 startTm_2 startTm_3 startTm_4 startTm_5 startTm_6 startTm_nil evs_nil evs_cons pick_b bin_int bin_str int_add int_sub int_eql int_neq int_lss int_leq int_gtr int_geq str_eql str_neq un_not conv_int len_str len_nils len_lst len_clip len_row want_tt want_ff want_t bindO_some field_agg get_new_s get_new_o get_set_s get_set_o new_mk set_mk get_mk setR_zero setR_cons over_cons over_nil next_mk faddr_ptr faddr_vptr1 load_ptr load_vptrI load_vptrS load_vptrL load_vptrA load_enc load_encL load_encV load_encI loadAt_box grab_1 grab_A box_agg store_ptr storeAt_box cells_agg cells_int cells_bool cells_str cells_lst cells_nils cells_row lies_agg lies_int lies_bool lies_str lies_lst lies_nils lies_row Tr.get_put_same Tr.get_put_other res_nil res_tmp res_cell one_1 one_2 frz_int frz_bool frz_str frz_lst frz_clip frz_nils frz_tupS frz_aggS frz_fn norm_int norm_bool norm_str norm_nils norm_lst norm_clip norm_agg norm_tup norms_nil norms_cons max2 FQ_ret FQ_normal FQ_panic cond_true cond_false decide_true decide_false Bool.not_true Bool.not_false List.getElem?_cons_zero List.getElem?_cons_succ List.length_cons List.length_nil List.length_map List.map_cons List.map_nil List.drop_zero List.take_succ_cons List.take_zero List.drop_succ_cons Nat.zero_add Nat.add_zero Option.some.injEq exists_eq_left' exists_eq_left AOut.ret.injEq AOut.pan.injEq AV.int.injEq AV.bool.injEq ne_eq not_true_eq_false not_false_eq_true true_and and_true Nat.le_refl eq_self

def T0 : T := .mk 0 0 (bs []) [] []
theorem enc_T0 : enc T0 = .agg [.int .i64 0, .int .i64 0, .str (bs []), .lst [], .lst []] := by rw [T0, enc_eq]; rfl

open Classical in
noncomputable def renR (to : List Int) (t : T) : T × Int := if Bad to t 0 then (T0, 24) else (ren to t 0, 0)

/- a pair of a term and a number, made anew; the memory is as it was -/
structure G46 (r : T × Int) (h : AH) (v : AV) (h' : AH) : Prop where
  next : h.next ≤ h'.next
  low : h'.low = h.low
  objs : h'.objs = h.objs
  val : ∃ x1 x2 x3 x4 x5, v = .tup [.agg [x1, x2, x3, x4, x5], .int .i64 r.2] ∧ (AV.agg [x1, x2, x3, x4, x5]).norm = enc r.1 ∧ ∀ m h b, frz m h b (.agg [x1, x2, x3, x4, x5]) = .agg [x1, x2, x3, x4, x5]

theorem frz_z (m : Nat) (h : AH) (b : Nat) : frz m h b (.agg [.int .i64 0, .int .i64 0, .str (bs []), .nils, .nils]) = .agg [.int .i64 0, .int .i64 0, .str (bs []), .nils, .nils] :=
  frzT m h b _ _ _ _ _ (fun m => frz_nils m b) (fun m => frz_nils m b)

theorem call46 (call : CallF) (n : Nat) (k i : Int) (nm : ByteArray) (ls : List LL) (ks : List T) (to : List Int) (V : AV) (h : AH) (hV : SV (h.next + 2) to V h)
    (hc : ∀ H, H.get (h.next + 2) = some (.box [.int .i64 0, .int .i64 0]) → h.next + 2 < H.next → SV (h.next + 2) to V H → ∃ v h', call (.fn 92 [] []) [.ptr (h.next + 2) 0 0, enc (.mk k i nm ls ks), V, .int .i64 0] .no H = some (.ret v, .no, h') ∧ G92 to (h.next + 2) 0 0 (.mk k i nm ls ks) 0 H v h') :
    ∃ v h', evFn EI call n 46 [enc (.mk k i nm ls ks), V] .no h = some (.ret v, .no, h') ∧ G46 (renR to (.mk k i nm ls ks)) h v h' := by
  rw [enc_eq] at hc
  rw [enc_eq]
  refine evFn_H cf46 (pureI _) ?_
  have q1 : ¬ (h.next = h.next + 1) := by omega
  have q2 : ¬ (h.next = h.next + 1 + 1) := by omega
  have q3 : ¬ (h.next + 1 = h.next + 1 + 1) := by omega
  unfold b46
  simp only [go_sem, Nat.reduceEqDiff, Nat.reduceAdd, reduceCtorEq, s46_3, s46_2, q1, q2]
  obtain ⟨H, hH⟩ : ∃ H : AH, H = ⟨h.next + 1 + 1 + 1, h.next, ((h.objs.put h.next (.box [.int .i64 k, .int .i64 i, .str nm, .lst (ls.map encL), .lst (ks.map enc)])).put (h.next + 1) (.box [.int .i64 0, .int .i64 0, .str (bs []), .nils, .nils])).put (h.next + 1 + 1) (.box [.int .i64 0, .int .i64 0])⟩ := ⟨_, rfl⟩
  rw [← hH]
  have g1 : H.get (h.next + 1) = some (.box [.int .i64 0, .int .i64 0, .str (bs []), .nils, .nils]) := by subst hH; simp only [go_sem, q3]
  have g2 : H.get (h.next + 2) = some (.box [.int .i64 0, .int .i64 0]) := by subst hH; show Tr.get _ (h.next + 1 + 1) = _; rw [Tr.get_put_same]
  have gn : H.next = h.next + 3 := by subst hH; rfl
  have gl : H.low = h.next := by subst hH; rfl
  have gk : ∀ k, k < h.next → H.get k = h.get k := by
    intro k hk
    subst hH
    rw [get_mk, Tr.get_put_other _ _ (by omega), Tr.get_put_other _ _ (by omega), Tr.get_put_other _ _ (by omega)]; rfl
  clear hH
  obtain ⟨v, h2, ecall, G⟩ := hc H g2 (by omega) (hV.keep (by omega) (fun k _ hk => gk k hk))
  have ecall : call (.fn 92 [] []) [.ptr (h.next + 1 + 1) 0 0, .agg [.int .i64 k, .int .i64 i, .str nm, .lst (ls.map encL), .lst (ks.map enc)], V, .int .i64 0] .no H = some (.ret v, .no, h2) := ecall
  obtain ⟨x1, x2, x3, x4, x5, rfl⟩ := agg5 G.cells G.agg
  have gn2 := G.next
  have k1 : h2.get (h.next + 1) = some (.box [.int .i64 0, .int .i64 0, .str (bs []), .nils, .nils]) := by rw [G.keep _ (by omega) (by omega)]; exact g1
  obtain ⟨e', k2, _, hbad⟩ := G.err
  have k2 : h2.get (h.next + 1 + 1) = some (.box [.int .i64 e', .int .i64 0]) := k2
  have n1 : ¬ (h.next + 1 = h2.next) := by omega
  have n2 : ¬ (h.next + 1 + 1 = h2.next) := by omega
  have n3 : ¬ (h.next + 1 + 1 = h.next + 1) := by omega
  have n4 : ¬ (h2.next = h.next + 1) := by omega
  simp only [go_sem, Nat.reduceEqDiff, Nat.reduceAdd, ecall, s46_1, n2, k2]
  by_cases hb : Bad to (.mk k i nm ls ks) 0
  · obtain ⟨rfl, hlow⟩ := hbad rfl hb
    simp only [go_sem, Nat.reduceEqDiff, Nat.reduceAdd, Nat.reduceLT, Int.reduceEq, n1, n2, n3, k1, k2]
    have hr : renR to (.mk k i nm ls ks) = (T0, 24) := by rw [renR, if_pos hb]
    have lb := G.lowb h.next (by omega) (by omega)
    refine HQ_keep (.inr rfl) ?_ (by simp only [go_sem, Nat.reduceEqDiff, Nat.reduceAdd, r46]; rfl) ?_
    · rw [low_set, low_set, low_new]
      exact le_minN (by omega) (le_minN (by omega) lb)
    · rw [hr]
      refine ⟨?_, rfl, rfl, _, _, _, _, _, ?_, ?_, frz_z⟩
      · simp only [next_set, next_new]; omega
      · rw [one_2, frz_tupS]; simp only [List.map_cons, List.map_nil, frz_int, frz_z]
      · rw [enc_T0]; simp [AV.norm, AV.norms]
  · obtain ⟨z1, z2, z3, z4⟩ := G.ok rfl hb
    have hr : renR to (.mk k i nm ls ks) = (ren to (.mk k i nm ls ks) 0, 0) := by rw [renR, if_neg hb]
    have e0 : e' = 0 := by
      have : h2.get (h.next + 2) = H.get (h.next + 2) := by show h2.objs.get _ = H.objs.get _; rw [z2]
      have k2 : h2.get (h.next + 2) = some (.box [.int .i64 e', .int .i64 0]) := k2
      rw [this, g2] at k2
      injection k2 with k2
      injection k2 with k2
      simp only [List.cons.injEq, AV.int.injEq, and_true, true_and] at k2
      omega
    subst e0
    have z5 : ∀ m h b, frz m h b (.agg [x1, x2, x3, x4, x5]) = .agg [x1, x2, x3, x4, x5] := z4
    simp only [go_sem, Nat.reduceEqDiff, Nat.reduceAdd, s46_0, n1, k1]
    refine HQ_keep (.inr rfl) ?_ (by simp only [go_sem, Nat.reduceEqDiff, Nat.reduceAdd, r46]; rfl) ?_
    · rw [low_set, low_set, low_new]
      exact le_minN (by omega) (le_minN (by omega) (by omega))
    · rw [hr]
      refine ⟨?_, rfl, rfl, x1, x2, x3, x4, x5, ?_, z3, z5⟩
      · simp only [next_set, next_new]; omega
      · rw [one_2, frz_tupS]; simp only [List.map_cons, List.map_nil, frz_int, z5]

end Go.Proofs.YtnacljdablhbgaaGreat

/- UnifyInverts: Invert of the reference (no condition). -/
namespace Go.Proofs.YtnacljdablhbgaaGreat
open Go.AG
attribute [local go_sem] R_draw RD_nil RD_mv RD_pick RD_build RD_litT RD_load RD_store RD_nilChk RD_bin RD_un RD_mkFn RD_slice RD_faddr RD_field RD_iaddr RD_extract RD_len RD_append RD_call RD_new dE_eq dC_still dC_still0 dC_reads dC_reads0 dC_acts dC_acts0 dS_val dV_val dA_val dA_call dK_ret wants_n wants_s births_n births_c birth_new birth_mv birth_pick birth_build birth_lit birth_load birth_store birth_nilChk birth_bin birth_un birth_mkFn birth_slice birth_faddr birth_field birth_iaddr birth_extract birth_builtin birth_call ite_lohi ite_01 ite_02 ite_12 ite_23 ite_13 ite_03 rdsOk_nil rdsOk_cons rdOk_nil rdOk_cons sameVal_val beq_ptr beq_row beq_int beq_enc beq_lstT beq_lstL List.append_eq List.nil_append List.cons_append Bool.true_or Bool.or_true Bool.false_or Bool.or_false Bool.true_and Bool.and_true Bool.false_and Bool.and_false Bool.not_not R_nil R_skip R_seq R_region R_scope R_exit R_ret R_block R_cond sB_true sB_false R_code_exit R_code_ret R_code_panic R_ops_exit R_ops_ret R_ops_panic R_out_normal R_out_ret R_out_panic R_out_same R_out_other R_ops_nil R_op R_opg sG_true sG_false sR_val sR_call sR_pan sC_ret sC_pan LQ_normal LQ_exit LQ_ret LQ_panic op_mv' op_pick' op_new' op_box' op_load' op_store' op_bin' op_un' op_convInt' op_defer' sR_dfr sX_some dfr_fn cells_fn lies_fn cells_map lies_map op_iaddrA' op_lookup' op_mapUp' op_mkMap' putAll_2 op_mkSlice' op_slice' slice_hi tupL_t nthL_eq op_faddr' op_field' op_iaddr' op_strIdx' op_arrIdx' op_extract' op_len' op_append' op_max' op_call' op_mkFn' op_build' parts_nil parts_cons build_0 build_2 op_nilChk' nilChk_ptr op_lit' litParts_1 lit_int lit_agg5 lit_agg2 okV_s okH_s okVH_s ev_t ev_c putD_s putD_n nth_same nth_other startTm_1 startTm_2 startTm_3 startTm_4 startTm_5 startTm_6 startTm_nil evs_nil evs_cons pick_b bin_int bin_str int_add int_sub int_eql int_neq int_lss int_leq int_gtr int_geq str_eql str_neq un_not conv_int len_str len_nils len_lst len_clip len_row want_tt want_ff want_t bindO_some field_agg get_new_s get_new_o get_set_s get_set_o new_mk set_mk get_mk setR_zero setR_cons over_cons over_nil next_mk faddr_ptr faddr_vptr1 load_ptr load_vptrI load_vptrS load_vptrL load_vptrA load_enc load_encL load_encV load_encI loadAt_box grab_1 grab_A box_agg store_ptr storeAt_box cells_agg cells_int cells_bool cells_str cells_lst cells_nils cells_row lies_agg lies_int lies_bool lies_str lies_lst lies_nils lies_row Tr.get_put_same Tr.get_put_other res_nil res_tmp res_cell one_1 one_2 frz_int frz_bool frz_str frz_lst frz_clip frz_nils frz_tupS frz_aggS frz_fn norm_int norm_bool norm_str norm_nils norm_lst norm_clip norm_agg norm_tup norms_nil norms_cons max2 FQ_ret FQ_normal FQ_panic cond_true cond_false decide_true decide_false Bool.not_true Bool.not_false List.getElem?_cons_zero List.getElem?_cons_succ List.length_cons List.length_nil List.length_map List.map_cons List.map_nil List.drop_zero List.take_succ_cons List.take_zero List.drop_succ_cons Nat.zero_add Nat.add_zero Option.some.injEq exists_eq_left' exists_eq_left AOut.ret.injEq AOut.pan.injEq AV.int.injEq AV.bool.injEq ne_eq not_true_eq_false not_false_eq_true true_and and_true Nat.le_refl eq_self

/- what takes a variable's place; -1: nothing -/
def tgt (vars : List Int) (y : Int) : Int := if y ∈ vars then (vars.length : Int) - 1 - idxOf vars y else -1
def okVars (vars : List Int) : Prop := (∀ x ∈ vars, 0 ≤ x) ∧ vars.Nodup

theorem idxOf_range {vars : List Int} {y : Int} (h : y ∈ vars) : 0 ≤ idxOf vars y ∧ idxOf vars y < vars.length := by
  rw [idxOf, if_pos h]
  have : vars.findIdx (fun z => decide (z = y)) < vars.length := List.findIdx_lt_length_of_exists ⟨y, h, by simp⟩
  omega
theorem tgt_range (vars : List Int) (y : Int) : -1 ≤ tgt vars y ∧ tgt vars y < vars.length := by
  unfold tgt
  split
  · rename_i h; have := idxOf_range h; omega
  · omega
theorem tgt_neg {vars : List Int} {y : Int} : tgt vars y < 0 ↔ y ∉ vars := by
  unfold tgt
  split
  · rename_i h; have := idxOf_range h; constructor <;> intro q <;> first | omega | exact absurd h q
  · rename_i h; simp [h]

theorem sg_snoc (to : List Int) (y : Int) : sg (to ++ [-1]) y = sg to y := by
  unfold sg
  simp only [List.getD_eq_getElem?_getD]
  rcases Nat.lt_or_ge y.toNat to.length with h | h
  · rw [List.getElem?_append_left h]
  · rw [List.getElem?_eq_none h]
    rcases Nat.lt_or_ge y.toNat (to.length + 1) with q | q
    · have : y.toNat = to.length := by omega
      rw [this]; simp
    · rw [List.getElem?_eq_none (by simp; omega)]
theorem sg_set {to : List Int} {a : Nat} (ha : a < to.length) (x y : Int) (hy : 0 ≤ y) : sg (to.set a x) y = if y = (a : Int) then x else sg to y := by
  unfold sg
  simp only [List.getD_eq_getElem?_getD, List.getElem?_set]
  by_cases h : y = (a : Int)
  · subst h; simp [ha]
  · rw [if_neg (by omega), if_neg h]

/- the loop over the variables that are given -/
def I10a (vars : List Int) (b : List AV) (j : Nat) (fr : AF) (h : AH) : Prop := ∃ tm m, m + j = vars.length ∧ fr = ⟨tm, ⟨[], .no, none, 10⟩⟩ ∧ h.get 0 = some (.box b) ∧ h.get 1 = some (.box [.int .i64 0, .int .i64 0, .str (bs []), .nils, .nils]) ∧ h.next = 2 ∧
  nth tm 0 = .lst (vars.map encI) ∧ nth tm 3 = .ptr 0 0 0 ∧ nth tm 4 = .ptr 1 0 0 ∧ nth tm 6 = .int .i64 (m : Int) ∧ (∀ x ∈ vars.take m, 0 ≤ x) ∧ (vars.take m).Nodup

structure J10 (vars : List Int) (b : List AV) (fr : AF) (h : AH) (tm : Tm) (L to : List Int) (v : AV) : Prop where
  fr : fr = ⟨tm, ⟨[], .no, none, 10⟩⟩
  b0 : h.get 0 = some (.box b)
  b1 : h.get 1 = some (.box [.int .i64 0, .int .i64 0, .str (bs []), .nils, .nils])
  nx : 2 ≤ h.next
  t0 : nth tm 0 = .lst (vars.map encI)
  t3 : nth tm 3 = .ptr 0 0 0
  t4 : nth tm 4 = .ptr 1 0 0
  t7 : nth tm 7 = .lst (L.map encI)
  t8 : nth tm 8 = v
  own : Own 2 1 false h v (List.map encI to)
  le : ∀ x ∈ to, x ≤ 1000
  all : ∀ y, 0 ≤ y → sg to y = -1 ∨ sg to y = tgt vars y
  len : to.length ≤ 1001

def I10b (vars : List Int) (b : List AV) (L : List Int) (j : Nat) (fr : AF) (h : AH) : Prop := ∃ tm m to v, m + j = L.length ∧ J10 vars b fr h tm L to v ∧ nth tm 9 = .int .i64 (m : Int) ∧ ∀ y ∈ L.take m, sg to y = tgt vars y
def I10c (vars : List Int) (b : List AV) (L : List Int) (p : Nat) (j : Nat) (fr : AF) (h : AH) : Prop := ∃ tm to v, to.length + j = 2000 ∧ J10 vars b fr h tm L to v ∧ nth tm 9 = .int .i64 (p : Int) ∧ ∀ y ∈ L.take p, sg to y = tgt vars y
def I10d (vars : List Int) (b : List AV) (L : List Int) (p : Nat) (z : Int) (j : Nat) (fr : AF) (h : AH) : Prop := ∃ tm m to v, m + j = vars.length ∧ J10 vars b fr h tm L to v ∧ nth tm 9 = .int .i64 (p : Int) ∧ nth tm 10 = .int .i64 (m : Int) ∧ z < to.length ∧ (∀ y ∈ L.take p, sg to y = tgt vars y) ∧ (z ∈ vars.take m → sg to z = tgt vars z)

theorem flat_encI (l : List Int) : flat (l.map encI) = l.map encI := by
  induction l with
  | nil => rfl
  | cons a l ih => rw [List.map_cons, flat_cons, ih]; rfl

theorem idx_take {vars : List Int} {m : Nat} (hnd : vars.Nodup) (hm : m < vars.length) : idxOf vars vars[m] = (m : Int) := by
  refine idx_at hm ?_ rfl
  intro h
  obtain ⟨j, hj, he⟩ := List.mem_take_iff_getElem.1 h
  have := (List.getElem_inj hnd).1 he
  omega

def invR (vars : List Int) (t : T) (r : T × Int) : Prop := (¬ okVars vars ∧ r = (T0, 1)) ∨ (okVars vars ∧ ∃ to : List Int, (∀ y, FV t 0 y → sg to y = tgt vars y) ∧ r = renR to t)

def isT (P : T × Int → Prop) (o : AOut) : Prop := ∃ r : T × Int, o = .ret (.tup [enc r.1, .int .i64 r.2]) ∧ P r

theorem run10 (call : CallF) (n : Nat) (k i : Int) (nm : ByteArray) (ls : List LL) (ks : List T) (vars : List Int) (L : List Int) (hn : 3000 < n) (hvl : vars.length ≤ 20) (hL : L.length ≤ 1000)
    (hLr : ∀ y ∈ L, 0 ≤ y ∧ y < 1000) (hLf : ∀ y, FV (.mk k i nm ls ks) 0 y → y ∈ L)
    (h44 : ∀ (l : List Int) x h, l.length ≤ 20 → call (.fn 44 [] []) [.lst (l.map encI), .int .i64 x] .no h = some (.ret (.bool (decide (x ∈ l))), .no, h))
    (h45 : ∀ h, call (.fn 45 [] []) [.agg [.int .i64 k, .int .i64 i, .str nm, .lst (ls.map encL), .lst (ks.map enc)]] .no h = some (.ret (.lst (List.map encI L)), .no, h))
    (h46 : ∀ (to : List Int) V h, SV (h.next + 2) to V h → (∀ x ∈ to, x ≤ 1000) → ∃ v h', call (.fn 46 [] []) [.agg [.int .i64 k, .int .i64 i, .str nm, .lst (ls.map encL), .lst (ks.map enc)], V] .no h = some (.ret v, .no, h') ∧ G46 (renR to (.mk k i nm ls ks)) h v h') :
    R call n [.code b10] (FX r10 (isT (invR vars (.mk k i nm ls ks)))) .normal ⟨startTm [.lst (vars.map encI), enc (.mk k i nm ls ks)], ⟨[], .no, none, 10⟩⟩ emptyH := by
  rw [enc_eq]
  unfold b10 emptyH
  simp only [go_sem, Nat.reduceAdd, s10_12]
  refine R_loop (I10a vars [.int .i64 k, .int .i64 i, .str nm, .lst (ls.map encL), .lst (ks.map enc)]) vars.length (by omega) ⟨_, 0, Nat.zero_add _, rfl, by simp only [go_sem, reduceCtorEq], by simp only [go_sem], rfl, by simp only [go_sem, reduceCtorEq], by simp only [go_sem, Nat.reduceEqDiff], by simp only [go_sem, Nat.reduceEqDiff], by simp only [go_sem]; rfl, by simp, by simp⟩ ?_
  rintro j fr h ⟨tm, m, hm, rfl, b0, b1, nx, t0, t3, t4, t6, hpos, hnd⟩
  unfold b10_1
  simp only [go_sem, Nat.reduceEqDiff, reduceCtorEq, t0, t6]
  refine sB_dec (fun hlt => ?_) (fun hge => ?_)
  · have hlt : m < vars.length := by omega
    have hget : vars[m]? = some vars[m] := List.getElem?_eq_getElem hlt
    have ha := fun h => iaddr_map encI_cells hget .i64 h
    have hw2 := wrap_succ m (by omega)
    have hsl := fun h => sliceTo_lst encI_cells h vars .i64 m (by omega)
    have hc := fun h => h44 (vars.take m) vars[m] h (by simp; omega)
    have fail : ¬ okVars vars → ∀ tm, nth tm 4 = .ptr 1 0 0 → nth tm 5 = .int .i64 1 → FX r10 (isT (invR vars (.mk k i nm ls ks))) .ret ⟨tm, ⟨[], .no, none, 10⟩⟩ (h.set 1 (.box [.int .i64 0, .int .i64 0, .str (bs []), .nils, .nils])) := by
      intro hno tm q4 q5
      simp only [go_sem, Nat.reduceAdd, FX_ret, r10, q4, q5]
      refine ⟨(T0, 1), ?_, .inl ⟨hno, rfl⟩⟩
      simp [enc_T0]
    cases hneg : decide (vars[m] < 0) with
    | true =>
      simp only [go_sem, Nat.reduceEqDiff, Nat.reduceAdd, reduceCtorEq, s10_0, t0, t6, ha, hneg, t4, b1]
      exact fail (fun ok => by have := ok.1 vars[m] (List.getElem_mem hlt); simp at hneg; omega) _ (by simp only [go_sem, Nat.reduceEqDiff, t4]) (by simp only [go_sem])
    | false =>
      have hneg' : 0 ≤ vars[m] := by simpa using hneg
      simp only [go_sem, Nat.reduceEqDiff, reduceCtorEq, s10_0, t0, t6, ha, hneg, hsl, hc]
      cases hin : decide (vars[m] ∈ vars.take m) with
      | true =>
        simp only [go_sem, Nat.reduceEqDiff, Nat.reduceAdd, t4, b1]
        refine fail (fun ok => ?_) _ (by simp only [go_sem, Nat.reduceEqDiff, t4]) (by simp only [go_sem])
        have hin : vars[m] ∈ vars.take m := by simpa using hin
        obtain ⟨j, hj, he⟩ := List.mem_take_iff_getElem.1 hin
        have := (List.getElem_inj ok.2).1 he
        omega
      | false =>
        have hin : vars[m] ∉ vars.take m := by simpa using hin
        simp only [go_sem, Nat.reduceEqDiff, t6, hw2]
        refine ⟨j - 1, by omega, _, m + 1, by omega, rfl, b0, b1, nx, by simp only [go_sem, reduceCtorEq, *], by simp only [go_sem, Nat.reduceEqDiff, *], by simp only [go_sem, Nat.reduceEqDiff, *], by simp only [go_sem, *], fun x hx => ?_, ?_⟩
        · rcases (take_snoc hlt x).1 hx with q | q
          · exact hpos x q
          · rw [q]; exact hneg'
        · rw [List.take_succ_eq_append_getElem hlt, List.nodup_append]
          refine ⟨hnd, by simp, fun a ha b hb => ?_⟩
          simp only [List.mem_singleton] at hb
          rintro rfl
          exact hin (hb ▸ ha)
  · have : m = vars.length := by omega
    subst this
    rw [List.take_length] at hpos hnd
    have ok : okVars vars := ⟨hpos, hnd⟩
    simp only [go_sem, Nat.reduceEqDiff, Nat.reduceAdd, s10_11, s10_10, s10_9, t3, b0, h45]
    refine R_loop (I10b vars [.int .i64 k, .int .i64 i, .str nm, .lst (ls.map encL), .lst (ks.map enc)] L) L.length (by omega) ⟨_, 0, [], .nils, Nat.zero_add _, ⟨rfl, b0, b1, by omega, by simp only [go_sem, reduceCtorEq, *], by simp only [go_sem, Nat.reduceEqDiff, *], by simp only [go_sem, Nat.reduceEqDiff, *], by simp only [go_sem, Nat.reduceEqDiff, *], by simp only [go_sem, Nat.reduceEqDiff, *], own_nil _ _ _ _, by simp, fun y _ => .inl (by simp [sg]), by simp⟩, by simp only [go_sem]; rfl, by simp⟩ ?_
    clear b0 b1 nx t0 t3 t4 t6 hm hge
    rintro j fr h ⟨tm, p, to, v, hp, J, t9, hdone⟩
    obtain ⟨rfl, b0, b1, nx, t0, t3, t4, t7, t8, ho, hle, hall, hlen⟩ := J
    unfold b10_7
    simp only [go_sem, Nat.reduceEqDiff, t7, t9]
    refine sB_dec (fun hlt => ?_) (fun hge => ?_)
    · have hlt : p < L.length := by omega
      have hget : L[p]? = some L[p] := List.getElem?_eq_getElem hlt
      have ha := fun h => iaddr_map encI_cells hget .i64 h
      have hz := hLr L[p] (List.getElem_mem hlt)
      obtain ⟨z, hzz⟩ : ∃ z, z = L[p] := ⟨_, rfl⟩
      rw [← hzz] at ha hz
      simp only [go_sem, s10_6]
      refine R_loop (I10c vars [.int .i64 k, .int .i64 i, .str nm, .lst (ls.map encL), .lst (ks.map enc)] L p) (2000 - to.length) (by omega) ⟨_, to, v, by omega, ⟨rfl, b0, b1, nx, by simp only [go_sem, reduceCtorEq, *], by simp only [go_sem, Nat.reduceEqDiff, *], by simp only [go_sem, Nat.reduceEqDiff, *], by simp only [go_sem, Nat.reduceEqDiff, *], by simp only [go_sem, Nat.reduceEqDiff, *], ho, hle, hall, hlen⟩, by simp only [go_sem, Nat.reduceEqDiff, *], hdone⟩ ?_
      clear b0 b1 nx t0 t3 t4 t7 t8 t9 ho hle hall hlen hdone
      rintro j2 fr h ⟨tm, to, v, hj2, J, t9, hdone⟩
      obtain ⟨rfl, b0, b1, nx, t0, t3, t4, t7, t8, ho, hle, hall, hlen⟩ := J
      have lenv := own_len ho
      rw [List.length_map] at lenv
      unfold b10_2
      simp only [go_sem, Nat.reduceEqDiff, Int.reduceNeg, t7, t8, t9, ha, lenv]
      cases hc : decide ((to.length : Int) ≤ z) with
      | true =>
        have hc' : (to.length : Int) ≤ z := by simpa using hc
        have hd2 : decide ((to.length : Int) < 100000) = true := by simp; omega
        obtain ⟨v', h', e1, o', q1, q2, q3, q4, _⟩ := own_append (x := .int .i64 (-1)) (z := [.int .i64 0]) (bytes := 8) ho nx rfl rfl rfl rfl (by simp only [List.length_map]; omega) (by decide)
        simp only [go_sem, Nat.reduceEqDiff, Nat.reduceMul, Int.reduceNeg, t8, lenv, hd2, e1]
        refine ⟨j2 - 1, by omega, _, to ++ [-1], v', by simp; omega, ⟨rfl, by rw [q2 0 (by decide)]; exact b0, by rw [q2 1 (by decide)]; exact b1, by omega, by simp only [go_sem, reduceCtorEq, Int.reduceNeg, *], by simp only [go_sem, Nat.reduceEqDiff, Int.reduceNeg, *], by simp only [go_sem, Nat.reduceEqDiff, Int.reduceNeg, *], by simp only [go_sem, Nat.reduceEqDiff, Int.reduceNeg, *], by simp only [go_sem, Int.reduceNeg, *], by simpa [encI] using o', fun x hx => ?_, fun y hy => by rw [sg_snoc]; exact hall y hy, by simp; omega⟩, by simp only [go_sem, Nat.reduceEqDiff, Int.reduceNeg, *], fun y hy => by rw [sg_snoc]; exact hdone y hy⟩
        rcases List.mem_append.1 hx with q | q
        · exact hle x q
        · simp at q; omega
      | false =>
        have hc' : z < (to.length : Int) := by simpa using hc
        simp only [go_sem, Nat.reduceEqDiff, Int.reduceNeg, s10_5]
        refine R_loop (I10d vars [.int .i64 k, .int .i64 i, .str nm, .lst (ls.map encL), .lst (ks.map enc)] L p z) vars.length (by omega) ⟨_, 0, to, v, Nat.zero_add _, ⟨rfl, b0, b1, nx, by simp only [go_sem, reduceCtorEq, *], by simp only [go_sem, Nat.reduceEqDiff, *], by simp only [go_sem, Nat.reduceEqDiff, *], by simp only [go_sem, Nat.reduceEqDiff, *], by simp only [go_sem, Nat.reduceEqDiff, *], ho, hle, hall, hlen⟩, by simp only [go_sem, Nat.reduceEqDiff, *], by simp only [go_sem]; rfl, hc', hdone, by simp⟩ ?_
        clear b0 b1 nx t0 t3 t4 t7 t8 t9 ho hle hall hlen hdone lenv hc hc' hj2
        rintro j3 fr h ⟨tm, q, to, v, hq, J, t9, t10, hzl, hdone, hset⟩
        obtain ⟨rfl, b0, b1, nx, t0, t3, t4, t7, t8, ho, hle, hall, hlen⟩ := J
        have lenv := own_len ho
        rw [List.length_map] at lenv
        unfold b10_4
        simp only [go_sem, Nat.reduceEqDiff, reduceCtorEq, t0, t10]
        refine sB_dec (fun hqt => ?_) (fun hqe => ?_)
        · have hqt : q < vars.length := by omega
          have hgq : vars[q]? = some vars[q] := List.getElem?_eq_getElem hqt
          have haq := fun h => iaddr_map encI_cells hgq .i64 h
          have hw2 := wrap_succ q (by omega)
          have hd2 : decide (z < (to.length : Int)) = true := by simpa using hzl
          cases he : decide (vars[q] = z) with
          | false =>
            have he' : ¬ vars[q] = z := by simpa using he
            simp only [go_sem, Nat.reduceEqDiff, reduceCtorEq, s10_3, t0, t7, t9, t10, ha, haq, he, hw2]
            refine ⟨j3 - 1, by omega, _, q + 1, to, v, by omega, ⟨rfl, b0, b1, nx, by simp only [go_sem, reduceCtorEq, *], by simp only [go_sem, Nat.reduceEqDiff, *], by simp only [go_sem, Nat.reduceEqDiff, *], by simp only [go_sem, Nat.reduceEqDiff, *], by simp only [go_sem, Nat.reduceEqDiff, *], ho, hle, hall, hlen⟩, by simp only [go_sem, Nat.reduceEqDiff, *], by simp only [go_sem, *], hzl, hdone, fun hin => ?_⟩
            rcases (take_snoc hqt z).1 hin with w | w
            · exact hset w
            · exact absurd w.symm he'
          | true =>
            have he' : vars[q] = z := by simpa using he
            obtain ⟨a, hza⟩ : ∃ a : Nat, z = (a : Int) := ⟨z.toNat, by omega⟩
            have hat : a < to.length := by omega
            obtain ⟨pp, h', e1, e2, o', q1, q2⟩ := own_store (x := .int .i64 ((vars.length : Int) - 1 - (q : Int))) ho (by simpa using hat) rfl rfl rfl .i64
            rw [← hza] at e1
            have hw3 : IntKind.wrap .i64 ((vars.length : Int) - 1) = (vars.length : Int) - 1 := wrap_fits _ (by omega) (by omega)
            have hw4 : IntKind.wrap .i64 ((vars.length : Int) - 1 - (q : Int)) = (vars.length : Int) - 1 - (q : Int) := wrap_fits _ (by omega) (by omega)
            simp only [go_sem, Nat.reduceEqDiff, reduceCtorEq, s10_3, t0, t7, t8, t9, t10, ha, haq, he, lenv, hd2, hw3, hw4, e1, e2, hw2]
            have htg : tgt vars z = (vars.length : Int) - 1 - (q : Int) := by
              have hin : z ∈ vars := he' ▸ List.getElem_mem hqt
              rw [tgt, if_pos hin, ← he', idx_take hnd hqt]
            have hsg : ∀ y, 0 ≤ y → sg (to.set a ((vars.length : Int) - 1 - (q : Int))) y = if y = z then tgt vars z else sg to y := by
              intro y hy
              rw [sg_set hat _ _ hy, ← hza, htg]
            refine ⟨j3 - 1, by omega, _, q + 1, to.set a ((vars.length : Int) - 1 - (q : Int)), v, by omega, ⟨rfl, by rw [q2 0 (by decide)]; exact b0, by rw [q2 1 (by decide)]; exact b1, by omega, by simp only [go_sem, reduceCtorEq, *], by simp only [go_sem, Nat.reduceEqDiff, *], by simp only [go_sem, Nat.reduceEqDiff, *], by simp only [go_sem, Nat.reduceEqDiff, *], by simp only [go_sem, Nat.reduceEqDiff, *], by simpa [encI] using o', fun x hx => ?_, fun y hy => ?_, by simpa using hlen⟩, by simp only [go_sem, Nat.reduceEqDiff, *], by simp only [go_sem, *], by simpa using hzl, fun y hy => ?_, fun _ => by rw [hsg z (by omega), if_pos rfl]⟩
            · rcases List.mem_or_eq_of_mem_set hx with w | w
              · exact hle x w
              · omega
            · rw [hsg y hy]
              split
              · rename_i h; rw [h]; exact .inr rfl
              · exact hall y hy
            · have hy0 := (hLr y (List.mem_of_mem_take hy)).1
              rw [hsg y hy0]
              split
              · rename_i h; rw [h]
              · exact hdone y hy
        · have : q = vars.length := by omega
          subst this
          rw [List.take_length] at hset
          have hw2 := wrap_succ p (by omega)
          simp only [go_sem, Nat.reduceEqDiff, t9, hw2]
          refine ⟨j - 1, by omega, _, p + 1, to, v, by omega, ⟨rfl, b0, b1, nx, by simp only [go_sem, reduceCtorEq, *], by simp only [go_sem, Nat.reduceEqDiff, *], by simp only [go_sem, Nat.reduceEqDiff, *], by simp only [go_sem, Nat.reduceEqDiff, *], by simp only [go_sem, Nat.reduceEqDiff, *], ho, hle, hall, hlen⟩, by simp only [go_sem, *], fun y hy => ?_⟩
          rcases (take_snoc hlt y).1 hy with w | w
          · exact hdone y w
          · rw [← hzz] at w
            subst w
            by_cases hin : y ∈ vars
            · exact hset hin
            · have : tgt vars y = -1 := by rw [tgt, if_neg hin]
              rcases hall y hz.1 with w | w
              · rw [w, this]
              · exact w
    · have : p = L.length := by omega
      subst this
      rw [List.take_length] at hdone
      have sv : SV (h.next + 2) to v h := by
        obtain ⟨_, ⟨rfl, ho⟩ | ⟨kk, g, rfl, w1, w2, w3⟩⟩ := ho
        · exact .inl ⟨rfl, by simpa using ho⟩
        · refine .inr ⟨kk, g, by simp, ?_, w2, by omega⟩
          rw [w1, flat_encI]
      obtain ⟨v', h', e1, G⟩ := h46 to v h sv hle
      obtain ⟨x1, x2, x3, x4, x5, rfl, hno, hst⟩ := G.val
      have b1' : h'.get 1 = some (.box [.int .i64 0, .int .i64 0, .str (bs []), .nils, .nils]) := by show h'.objs.get 1 = _; rw [G.objs]; exact b1
      have z5 : ∀ h, frz 3 h 0 (.agg [x1, x2, x3, x4, x5]) = .agg [x1, x2, x3, x4, x5] := fun h => hst 3 h 0
      simp only [go_sem, Nat.reduceEqDiff, Nat.reduceAdd, s10_8, t3, t4, t8, b0, e1, b1', FX_ret]
      refine ⟨[.agg [x1, x2, x3, x4, x5], .int .i64 (renR to (.mk k i nm ls ks)).2], by simp only [go_sem, Nat.reduceEqDiff, Nat.reduceAdd, r10, t4], renR to (.mk k i nm ls ks), ?_, .inr ⟨ok, to, fun y hy => hdone y (hLf y hy), rfl⟩⟩
      rw [one_2, frz_tupS]
      simp only [List.map_cons, List.map_nil, frz_int, z5, norm_tup, norms_cons, norms_nil, norm_int, hno]

end Go.Proofs.YtnacljdablhbgaaGreat
