/- UnifyInverts: Rename of the program (no condition). -/
import Derived.Test.YtnacljdablhbgaaGreatCe
import Derived.Test.YtnacljdablhbgaaGreatAn
namespace Go.Proofs.YtnacljdablhbgaaGreat
open Go.AG
attribute [local go_sem] R_draw RD_nil RD_mv RD_pick RD_build RD_litT RD_load RD_store RD_nilChk RD_bin RD_un RD_mkFn RD_slice RD_faddr RD_field RD_iaddr RD_extract RD_len RD_append RD_call RD_new dE_eq dC_still dC_still0 dC_reads dC_reads0 dC_acts dC_acts0 dS_val dV_val dA_val dA_call dK_ret wants_n wants_s births_n births_c birth_new birth_mv birth_pick birth_build birth_lit birth_load birth_store birth_nilChk birth_bin birth_un birth_mkFn birth_slice birth_faddr birth_field birth_iaddr birth_extract birth_builtin birth_call ite_lohi ite_01 ite_02 ite_12 ite_23 ite_13 ite_03 rdsOk_nil rdsOk_cons rdOk_nil rdOk_cons sameVal_val beq_ptr beq_row beq_int beq_enc beq_lstT beq_lstL List.append_eq List.nil_append List.cons_append Bool.true_or Bool.or_true Bool.false_or Bool.or_false Bool.true_and Bool.and_true Bool.false_and Bool.and_false Bool.not_not R_nil R_skip R_seq R_region R_scope R_exit R_ret R_block R_cond sB_true sB_false R_code_exit R_code_ret R_code_panic R_ops_exit R_ops_ret R_ops_panic R_out_normal R_out_ret R_out_panic R_out_same R_out_other R_ops_nil R_op R_opg sG_true sG_false sR_val sR_call sR_pan sC_ret sC_pan LQ_normal LQ_exit LQ_ret LQ_panic op_mv' op_pick' op_new' op_box' op_load' op_store' op_bin' op_un' op_convInt' op_defer' sR_dfr sX_some dfr_fn cells_fn lies_fn cells_map lies_map op_iaddrA' op_lookup' op_mapUp' op_mkMap' putAll_2 op_mkSlice' op_slice' slice_hi tupL_t nthL_eq op_faddr' op_field' op_iaddr' op_strIdx' op_arrIdx' op_extract' op_len' op_append' op_max' op_call' op_mkFn' op_build' parts_nil parts_cons build_0 build_2 op_nilChk' nilChk_ptr op_lit' litParts_1 lit_int lit_agg5 lit_agg2 okV_s okH_s okVH_s ev_t ev_c putD_s putD_n nth_same nth_other startTm_1 startTm_2 startTm_3 startTm_4 startTm_5 startTm_6 startTm_nil evs_nil evs_cons pick_b bin_int bin_str int_add int_sub int_eql int_neq int_lss int_leq int_gtr int_geq str_eql str_neq un_not conv_int len_str len_nils len_lst len_clip len_row want_tt want_ff want_t bindO_some field_agg get_new_s get_new_o get_set_s get_set_o new_mk set_mk get_mk setR_zero setR_cons over_cons over_nil next_mk faddr_ptr faddr_vptr1 load_ptr load_vptrI load_vptrS load_vptrL load_vptrA load_enc load_encL load_encV load_encI loadAt_box grab_1 grab_A box_agg store_ptr storeAt_box cells_agg cells_int cells_bool cells_str cells_lst cells_nils cells_row lies_agg lies_int lies_bool lies_str lies_lst lies_nils lies_row Tr.get_put_same Tr.get_put_other res_nil res_tmp res_cell one_1 one_2 frz_int frz_bool frz_str frz_lst frz_clip frz_nils frz_tupS frz_aggS frz_fn norm_int norm_bool norm_str norm_nils norm_lst norm_clip norm_agg norm_tup norms_nil norms_cons max2 FQ_ret FQ_normal FQ_panic cond_true cond_false decide_true decide_false Bool.not_true Bool.not_false List.getElem?_cons_zero List.getElem?_cons_succ List.length_cons List.length_nil List.length_map List.map_cons List.map_nil List.drop_zero List.take_succ_cons List.take_zero List.drop_succ_cons Nat.zero_add Nat.add_zero Option.some.injEq exists_eq_left' exists_eq_left AOut.ret.injEq AOut.pan.injEq AV.int.injEq AV.bool.injEq ne_eq not_true_eq_false not_false_eq_true true_and and_true Nat.le_refl eq_self

theorem call83 (call : CallF) (n a b : Nat) (h : AH) : evFn EI call n 83 [.ptr a 0 0, .ptr b 0 0] .ret h = some (.ret (.tup []), .ret, h) := by
  unfold evFn
  rw [cf83, bindO_some]
  have hp : EI.pure 83 = true := pureI 83
  rw [hp]
  show letGo h ⟨h.next, h.next, h.objs⟩ .ret (.tup []) = _
  show cond (Nat.ble h.next h.next) _ _ = _
  rw [ble_t (Nat.le_refl _)]
  cases h; rfl

theorem build_f (h : AH) (f : FuncId) (c : List AV) : evBuild h [.nilf] [(0, 1, .fn f [] c)] = .val (.agg [.fn f [] c]) h := (rfl)

theorem call85 (call : CallF) (n : Nat) (f : AV) (h : AH) (hf : f.isCell = true) : ∃ v h', evFn EI call n 85 [f] .no h = some (.ret v, .no, h') ∧ (v = .agg [.fn 127 [] [.ptr h.next 0 0]] ∧ h'.get h.next = some (.box [f]) ∧ h'.next = h.next + 2 ∧ (∀ k, k < h.next → h'.get k = h.get k) ∧ (∀ b, b ≤ h.next → b ≤ h.low → b ≤ h'.low)) := by
  refine evFn_I cf85 rfl ?_
  have hb := fun h => box_one (h := h) hf
  have n1 : ¬ (h.next = (h.new (.box [f])).next) := by rw [next_new]; omega
  unfold b85
  simp only [go_sem, Nat.reduceEqDiff, hb, s85_0, build_f]
  refine ⟨rfl, rfl, .inr rfl, _, by simp only [go_sem, Nat.reduceEqDiff, r85]; rfl, rfl, ?_, ?_, fun k hk => ?_, fun b hb hl => ?_⟩
  · rw [get_set_o n1, get_new_o n1, get_new_s]
  · simp only [next_set, next_new]
  · rw [get_set_o (by rw [next_new]; omega), get_new_o (by rw [next_new]; omega), get_new_o (by omega)]
  · rw [low_set, low_new, low_new, next_new]; exact le_minN (by omega) hl

theorem call43 (call : CallF) (n : Nat) (k i : Int) (nm : ByteArray) (ls : List LL) (ks : List T) (to : List Int) (V : AV) (h : AH) (hV : SV h.next to V h)
    (c83 : ∀ a b H, call (.fn 83 [] [.ptr a 0 0, .ptr b 0 0]) [] .ret H = some (.ret (.tup []), .ret, H))
    (c85 : ∀ f H, f.isCell = true → ∃ v h', call (.fn 85 [] []) [f] .no H = some (.ret v, .no, h') ∧ (v = .agg [.fn 127 [] [.ptr H.next 0 0]] ∧ h'.get H.next = some (.box [f]) ∧ h'.next = H.next + 2 ∧ (∀ k, k < H.next → h'.get k = H.get k) ∧ (∀ b, b ≤ H.next → b ≤ H.low → b ≤ h'.low)))
    (c90 : ∀ kf kb H, H.get kf = some (.box [.fn 86 [] [.ptr kb 0 0]]) → kf < H.next → H.get kb = some (.box [V]) → kb < H.next → SV H.next to V H →
      ∃ v h', call (.fn 90 [] []) [.agg [.fn 127 [] [.ptr kf 0 0]], .agg [.int .i64 k, .int .i64 i, .str nm, .lst (ls.map encL), .lst (ks.map enc)], .int .i64 0] .no H = some (.ret v, .no, h') ∧ GV (ren to (.mk k i nm ls ks) 0) H v h') :
    ∃ v h', evFn EI call n 43 [enc (.mk k i nm ls ks), V] .no h = some (.ret v, .no, h') ∧ G46 (ren to (.mk k i nm ls ks) 0, 0) h v h' := by
  have hVc : V.isCell = true := by
    rcases hV with ⟨rfl, _⟩ | ⟨k, g, rfl, _⟩ <;> rfl
  have hb := fun h => box_one (h := h) hVc
  refine evFn_D cf43 (pureI _) ?_
  have n1 : ¬ (h.next = h.next + 1) := by omega
  have n2 : ¬ (h.next = h.next + 1 + 1) := by omega
  have n3 : ¬ (h.next = h.next + 1 + 1 + 1) := by omega
  have n4 : ¬ (h.next + 1 = h.next + 1 + 1) := by omega
  have n5 : ¬ (h.next + 1 = h.next + 1 + 1 + 1) := by omega
  have n6 : ¬ (h.next + 1 + 1 = h.next + 1 + 1 + 1) := by omega
  have n7 : ¬ (h.next + 1 + 1 + 1 = h.next + 1 + 1) := by omega
  rw [enc_eq]
  unfold b43
  simp only [go_sem, Nat.reduceEqDiff, Nat.reduceAdd, reduceCtorEq, hb, s43_1]
  obtain ⟨H, hH⟩ : ∃ H : AH, H = ⟨h.next + 1 + 1 + 1 + 1, h.next, (((h.objs.put h.next (.box [.int .i64 k, .int .i64 i, .str nm, .lst (ls.map encL), .lst (ks.map enc)])).put (h.next + 1) (.box [V])).put (h.next + 1 + 1) (.box [.int .i64 0, .int .i64 0, .str (bs []), .nils, .nils])).put (h.next + 1 + 1 + 1) (.box [.int .i64 0])⟩ := ⟨_, rfl⟩
  rw [← hH]
  have g2 : H.get h.next = some (.box [.int .i64 k, .int .i64 i, .str nm, .lst (ls.map encL), .lst (ks.map enc)]) := by subst hH; simp only [go_sem, n1, n2, n3]
  have g3 : H.get (h.next + 1) = some (.box [V]) := by subst hH; simp only [go_sem, n4, n5]
  have g4 : H.get (h.next + 1 + 1) = some (.box [.int .i64 0, .int .i64 0, .str (bs []), .nils, .nils]) := by subst hH; simp only [go_sem, n6]
  have g5 : H.get (h.next + 1 + 1 + 1) = some (.box [.int .i64 0]) := by subst hH; simp only [go_sem]
  have gk : ∀ k, k < h.next → H.get k = h.get k := by
    intro k hk
    subst hH
    rw [get_mk, Tr.get_put_other _ _ (by omega), Tr.get_put_other _ _ (by omega), Tr.get_put_other _ _ (by omega), Tr.get_put_other _ _ (by omega)]; rfl
  have gn : H.next = h.next + 4 := by subst hH; rfl
  have gl : H.low = h.next := by subst hH; rfl
  clear hH
  obtain ⟨v1, h1, e1, rfl, q1, q2, q3, q4⟩ := c85 (.fn 86 [] [.ptr (h.next + 1) 0 0]) H rfl
  have r2 : h1.get h.next = some (.box [.int .i64 k, .int .i64 i, .str nm, .lst (ls.map encL), .lst (ks.map enc)]) := by rw [q3 _ (by omega)]; exact g2
  obtain ⟨v2, h2, e2, G⟩ := c90 H.next (h.next + 1) h1 q1 (by omega) (by rw [q3 _ (by omega)]; exact g3) (by omega) (hV.up (by omega) (by omega) (fun a ha => by rw [q3 a (by omega), gk a ha]))
  obtain ⟨x1, x2, x3, x4, x5, rfl, z1, z2⟩ := G.val
  have s2 : ∀ a, h2.get a = h1.get a := fun a => by show h2.objs.get a = h1.objs.get a; rw [G.objs]
  have gn2 := G.next
  have gl2 := G.low
  have k4 : h2.get (h.next + 1 + 1) = some (.box [.int .i64 0, .int .i64 0, .str (bs []), .nils, .nils]) := by rw [s2, q3 _ (by omega)]; exact g4
  have k5 : h2.get (h.next + 1 + 1 + 1) = some (.box [.int .i64 0]) := by rw [s2, q3 _ (by omega)]; exact g5
  have htb : AV.beq (.agg [.int .i64 k, .int .i64 i, .str nm, .lst (ls.map encL), .lst (ks.map enc)]) (.agg [.int .i64 k, .int .i64 i, .str nm, .lst (ls.map encL), .lst (ks.map enc)]) = true := by rw [← enc_eq]; exact beq_enc _
  have lb := q4 h.next (by omega) (by omega)
  simp only [go_sem, Nat.reduceEqDiff, Nat.reduceAdd, Nat.reduceLT, s43_0, e1, g2, r2, htb, e2, k4, k5, n7]
  refine HD_keep (.inr rfl) ?_ ?_ (by simp only [go_sem, Nat.reduceEqDiff, Nat.reduceAdd, r43, n6]; rfl) ?_
  · show bindO (bindO (call _ [] .ret _) fun q => defOut q.1 q.2.1 .returning q.2.2) _ = _
    rw [c83]; rfl
  · simp only [low_set]
    exact le_minN (by omega) (le_minN (by omega) (by omega))
  · refine ⟨by simp only [next_set]; omega, rfl, rfl, x1, x2, x3, x4, x5, ?_, z1, z2⟩
    rw [one_2, frz_tupS]; simp only [List.map_cons, List.map_nil, frz_int, z2]

end Go.Proofs.YtnacljdablhbgaaGreat

/- UnifyInverts: the free variables, by the program: the rounds (no condition). -/
namespace Go.Proofs.YtnacljdablhbgaaGreat
open Go.AG
attribute [local go_sem] R_draw RD_nil RD_mv RD_pick RD_build RD_litT RD_load RD_store RD_nilChk RD_bin RD_un RD_mkFn RD_slice RD_faddr RD_field RD_iaddr RD_extract RD_len RD_append RD_call RD_new dE_eq dC_still dC_still0 dC_reads dC_reads0 dC_acts dC_acts0 dS_val dV_val dA_val dA_call dK_ret wants_n wants_s births_n births_c birth_new birth_mv birth_pick birth_build birth_lit birth_load birth_store birth_nilChk birth_bin birth_un birth_mkFn birth_slice birth_faddr birth_field birth_iaddr birth_extract birth_builtin birth_call ite_lohi ite_01 ite_02 ite_12 ite_23 ite_13 ite_03 rdsOk_nil rdsOk_cons rdOk_nil rdOk_cons sameVal_val beq_ptr beq_row beq_int beq_enc beq_lstT beq_lstL List.append_eq List.nil_append List.cons_append Bool.true_or Bool.or_true Bool.false_or Bool.or_false Bool.true_and Bool.and_true Bool.false_and Bool.and_false Bool.not_not R_nil R_skip R_seq R_region R_scope R_exit R_ret R_block R_cond sB_true sB_false R_code_exit R_code_ret R_code_panic R_ops_exit R_ops_ret R_ops_panic R_out_normal R_out_ret R_out_panic R_out_same R_out_other R_ops_nil R_op R_opg sG_true sG_false sR_val sR_call sR_pan sC_ret sC_pan LQ_normal LQ_exit LQ_ret LQ_panic op_mv' op_pick' op_new' op_box' op_load' op_store' op_bin' op_un' op_convInt' op_defer' sR_dfr sX_some dfr_fn cells_fn lies_fn cells_map lies_map op_iaddrA' op_lookup' op_mapUp' op_mkMap' putAll_2 op_mkSlice' op_slice' slice_hi tupL_t nthL_eq op_faddr' op_field' op_iaddr' op_strIdx' op_arrIdx' op_extract' op_len' op_append' op_max' op_call' op_mkFn' op_build' parts_nil parts_cons build_0 build_2 op_nilChk' nilChk_ptr op_lit' litParts_1 lit_int lit_agg5 lit_agg2 okV_s okH_s okVH_s ev_t ev_c putD_s putD_n nth_same nth_other startTm_1 startTm_2 startTm_3 startTm_4 startTm_5 startTm_6 startTm_nil evs_nil evs_cons pick_b bin_int bin_str int_add int_sub int_eql int_neq int_lss int_leq int_gtr int_geq str_eql str_neq un_not conv_int len_str len_nils len_lst len_clip len_row want_tt want_ff want_t bindO_some field_agg get_new_s get_new_o get_set_s get_set_o new_mk set_mk get_mk setR_zero setR_cons over_cons over_nil next_mk faddr_ptr faddr_vptr1 load_ptr load_vptrI load_vptrS load_vptrL load_vptrA load_enc load_encL load_encV load_encI loadAt_box grab_1 grab_A box_agg store_ptr storeAt_box cells_agg cells_int cells_bool cells_str cells_lst cells_nils cells_row lies_agg lies_int lies_bool lies_str lies_lst lies_nils lies_row Tr.get_put_same Tr.get_put_other res_nil res_tmp res_cell one_1 one_2 frz_int frz_bool frz_str frz_lst frz_clip frz_nils frz_tupS frz_aggS frz_fn norm_int norm_bool norm_str norm_nils norm_lst norm_clip norm_agg norm_tup norms_nil norms_cons max2 FQ_ret FQ_normal FQ_panic cond_true cond_false decide_true decide_false Bool.not_true Bool.not_false List.getElem?_cons_zero List.getElem?_cons_succ List.length_cons List.length_nil List.length_map List.map_cons List.map_nil List.drop_zero List.take_succ_cons List.take_zero List.drop_succ_cons Nat.zero_add Nat.add_zero Option.some.injEq exists_eq_left' exists_eq_left AOut.ret.injEq AOut.pan.injEq AV.int.injEq AV.bool.injEq ne_eq not_true_eq_false not_false_eq_true true_and and_true Nat.le_refl eq_self

def U65 : List AV := [.bool true, .bool false, .int .i64 (0), .int .i64 (0), .int .i64 (-1), .bool false, .bool false, .int .i64 (0), .int .i64 (0), .int .i64 (-1), .bool false, .bool false, .int .i64 (1), .int .i64 (0), .int .i64 (-1), .bool false, .bool true, .int .i64 (-1), .int .i64 (0), .int .i64 (-1), .bool false, .bool false, .int .i64 (0), .int .i64 (2), .int .i64 (-1), .bool false, .bool false, .int .i64 (0), .int .i64 (2), .int .i64 (1), .bool false, .bool false, .int .i64 (0), .int .i64 (2), .int .i64 (1), .bool false, .bool false, .int .i64 (0), .int .i64 (2), .int .i64 (1), .bool false, .bool false, .int .i64 (0), .int .i64 (3), .int .i64 (-1), .bool false, .bool false, .int .i64 (0), .int .i64 (1), .int .i64 (-1), .bool false, .bool false, .int .i64 (0), .int .i64 (1), .int .i64 (-1), .bool false, .bool false, .int .i64 (0), .int .i64 (3), .int .i64 (2), .bool true, .bool false, .int .i64 (0), .int .i64 (0), .int .i64 (-1)]
def outOnly (r : Option (AOut × RC × AH)) : Option (AOut × RC) := match r with
  | some (o, rc, _) => some (o, rc)
  | none => none
theorem ev123 : outOnly (evFn EI (fun _ _ _ _ => none) 1 123 [] .no emptyH) = some (.ret (.agg U65), .no) := by kernel_rfl

structure FS (tm0 : Tm) (h : AH) (v : AV) (out : List Int) : Prop where
  b1 : h.get 1 = some (.map (out.map fun z => (AV.int .i64 z, AV.bool true)))
  b2 : h.get 2 = some (.box [.map 1])
  b3 : h.get 3 = some (.box [v])
  lp : h.get 6 = some (.loop .ready none tm0 [11, 12] b41_0 b41_2 41)
  b7 : h.get 7 = some (.box [.yld 6])
  b8 : h.get 8 = some (.box U65)
  b9 : h.get 9 = some (.box [.fn 124 [] [.ptr 7 0 0, .ptr 8 0 0, .ptr 9 0 0]])
  nx : 10 ≤ h.next
  own : Own 10 1 false h v (out.map encI)

structure FStep (h : AH) (v : AV) (h' : AH) (v' : AV) : Prop where
  next : h.next ≤ h'.next
  old : ∀ k, k = 0 ∨ k = 4 ∨ k = 5 → h'.get k = h.get k
  keep : ∀ k, 10 ≤ k → k < h.next → (∀ g n, v ≠ .row k g 1 0 n) → h'.get k = h.get k
  key : ∀ k, k < h.next → (∀ g n, v ≠ .row k g 1 0 n) → ∀ g n, v' ≠ .row k g 1 0 n
  low : h'.low ≤ 6

theorem FStep.trans {h h' h'' : AH} {v v' v'' : AV} (a : FStep h v h' v') (b : FStep h' v' h'' v'') : FStep h v h'' v'' :=
  ⟨Nat.le_trans a.next b.next, fun k hk => (b.old k hk).trans (a.old k hk), fun k q1 q2 q3 => (b.keep k q1 (Nat.lt_of_lt_of_le q2 a.next) (a.key k q2 q3)).trans (a.keep k q1 q2 q3), fun k q1 q2 => b.key k (Nat.lt_of_lt_of_le q1 a.next) (a.key k q1 q2), b.low⟩

def yP (tm0 : Tm) (k i d : Int) (h : AH) (v : AV) (out : List Int) (h' : AH) : Prop := ∃ v' out', FS tm0 h' v' out' ∧ FStep h v h' v' ∧ out'.length ≤ out.length + 1 ∧ ∀ y, y ∈ out' ↔ y ∈ out ∨ (k = 0 ∧ d ≤ i ∧ y = i - d)

theorem yld41 (call : CallF) (n : Nat) (tm0 : Tm) (h : AH) (v : AV) (out : List Int) (k i d : Int) (nm : ByteArray) (ls : List LL) (ks : List T) (F : FS tm0 h v out) (t3 : nth tm0 3 = .ptr 2 0 0) (t4 : nth tm0 4 = .ptr 3 0 0) (hol : out.length < 90000)
    (hi : k = 0 → 0 ≤ i ∧ i - d < 1000) (_hd0 : 0 ≤ d) (_hd1 : d ≤ 5000) :
    ∃ h', evYld call n 6 [.int .i64 d, .agg [.int .i64 k, .int .i64 i, .str nm, .lst (ls.map encL), .lst (ks.map enc)]] h = some (.ret (.bool true), .no, h') ∧ yP tm0 k i d h v out h' := by
  obtain ⟨b1, b2, b3, lp, b7, b8, b9, nx, ho⟩ := F
  refine yld_R lp rfl ?_
  unfold b41_0
  simp only [go_sem, Nat.reduceEqDiff, Nat.reduceAdd]
  obtain ⟨h1, hh1⟩ : ∃ h1, h1 = (h.new (.box [.int .i64 0, .int .i64 0, .str (bs []), .nils, .nils])).set h.next (.box [.int .i64 k, .int .i64 i, .str nm, .lst (ls.map encL), .lst (ks.map enc)]) := ⟨_, rfl⟩
  rw [← hh1]
  have k1 : ∀ a, a < h.next → h1.get a = h.get a := fun a q => by rw [hh1, get_set_o (by omega), get_new_o (by omega)]
  have k2 : h1.get h.next = some (.box [.int .i64 k, .int .i64 i, .str nm, .lst (ls.map encL), .lst (ks.map enc)]) := by rw [hh1, get_set_s]
  have n1 : h1.next = h.next + 1 := by rw [hh1, next_set, next_new]
  clear hh1
  have lp1 : h1.get 6 = some (.loop .ready none tm0 [11, 12] b41_0 b41_2 41) := by rw [k1 6 (by omega)]; exact lp
  refine ⟨_, yldBegin_at lp1, ?_⟩
  obtain ⟨h2, hh2⟩ : ∃ h2, h2 = h1.set 6 (.loop .busy none tm0 [11, 12] b41_0 b41_2 41) := ⟨_, rfl⟩
  rw [← hh2]
  have q1 : ∀ a, ¬ a = 6 → a < h.next → h2.get a = h.get a := fun a q1 q2 => by rw [hh2, get_set_o q1, k1 a q2]
  have q2 : h2.get h.next = some (.box [.int .i64 k, .int .i64 i, .str nm, .lst (ls.map encL), .lst (ks.map enc)]) := by rw [hh2, get_set_o (by omega)]; exact k2
  have q3 : h2.get 6 = some (.loop .busy none tm0 [11, 12] b41_0 b41_2 41) := by rw [hh2, get_set_s]
  have q4 : h2.next = h.next + 1 := by rw [hh2, next_set]; exact n1
  clear hh2 k1 k2 n1 lp1
  -- nothing new
  have same : (∀ y, y ∈ out ↔ y ∈ out ∨ (k = 0 ∧ d ≤ i ∧ y = i - d)) → ∃ h4, yldSet h2 6 .ready none = some h4 ∧ yP tm0 k i d h v out h4 := by
    intro hm
    have g : ∀ a, ¬ a = 6 → a < h.next → (h2.set 6 (.loop .ready none tm0 [11, 12] b41_0 b41_2 41)).get a = h.get a := fun a w1 w2 => by rw [get_set_o w1, q1 a w1 w2]
    refine ⟨_, yldSet_at q3, v, out, ⟨by rw [g 1 (by decide) (by omega)]; exact b1, by rw [g 2 (by decide) (by omega)]; exact b2, by rw [g 3 (by decide) (by omega)]; exact b3, get_set_s _ _ _, by rw [g 7 (by decide) (by omega)]; exact b7, by rw [g 8 (by decide) (by omega)]; exact b8, by rw [g 9 (by decide) (by omega)]; exact b9, by rw [next_set]; omega, own_keep ho (by rw [next_set]; omega) (fun a w1 w2 => g a (by omega) w2)⟩,
      ⟨by rw [next_set]; omega, fun a ha => g a (by omega) (by omega), fun a w1 w2 _ => g a (by omega) w2, fun a _ w => w, by rw [low_set]; exact minN_le _ _⟩, by omega, hm⟩
  unfold b41_2
  simp only [go_sem, Nat.reduceEqDiff, q2, s41_1]
  by_cases hk : k = 0
  · have hk' : decide (k = 0) = true := by simpa using hk
    obtain ⟨hi0, hi1⟩ := hi hk
    simp only [go_sem, Nat.reduceEqDiff, hk', q2]
    by_cases hle : d ≤ i
    · have hle' : decide (d ≤ i) = true := by simpa using hle
      have hw1 : IntKind.wrap .i64 (i - d) = i - d := wrap_fits _ (by omega) (by omega)
      have m2 : h2.get 2 = some (.box [.map 1]) := by rw [q1 2 (by decide) (by omega)]; exact b2
      have m1 : h2.get 1 = some (.map (out.map fun z => (AV.int .i64 z, AV.bool true))) := by rw [q1 1 (by decide) (by omega)]; exact b1
      have m3 : h2.get 3 = some (.box [v]) := by rw [q1 3 (by decide) (by omega)]; exact b3
      have lk := lookup_at m1 (i - d)
      simp only [go_sem, Nat.reduceEqDiff, hle', hw1, t3, m2, lk]
      by_cases hin : (i - d) ∈ out
      · have hin' : decide ((i - d) ∈ out) = true := by simpa using hin
        simp only [go_sem, hin']
        exact same (fun y => ⟨.inl, fun h => by rcases h with h | ⟨_, _, rfl⟩ <;> assumption⟩)
      · have hin' : decide ((i - d) ∈ out) = false := by simpa using hin
        have mu := mapUp_at m1 (i - d) hin
        obtain ⟨h3, hh3⟩ : ∃ h3, h3 = h2.set 1 (.map ((out ++ [i - d]).map fun z => (AV.int .i64 z, AV.bool true))) := ⟨_, rfl⟩
        rw [← hh3] at mu
        have w1 : ∀ a, ¬ a = 1 → h3.get a = h2.get a := fun a w => by rw [hh3, get_set_o w]
        have w2 : h3.get 1 = some (.map ((out ++ [i - d]).map fun z => (AV.int .i64 z, AV.bool true))) := by rw [hh3, get_set_s]
        have w3 : h3.next = h.next + 1 := by rw [hh3, next_set]; exact q4
        clear hh3
        have o3 : Own 10 1 false h3 v (out.map encI) := own_keep ho (by omega) (fun a e1 e2 => by rw [w1 a (by omega), q1 a (by omega) e2])
        obtain ⟨v', h4, e4, o4, n4, kk4, _, _, s4, kk, gg, hv4, u1, u2⟩ := own_append (x := .int .i64 (i - d)) (z := [.int .i64 0]) (bytes := 8) o3 (by omega) rfl rfl rfl rfl (by simp only [List.length_map]; omega) (by decide)
        have o4 : Own 10 1 false h4 v' ((out ++ [i - d]).map encI) := by simpa [encI] using o4
        obtain ⟨y1, y2⟩ := own_shape o4
        have x3 : h3.get 3 = some (.box [v]) := by rw [w1 3 (by decide)]; exact m3
        have x4 : h4.get 3 = some (.box [v]) := by rw [kk4 3 (by decide)]; exact x3
        simp only [go_sem, Nat.reduceEqDiff, Nat.reduceMul, hin', t3, t4, m2, mu, x3, e4, x4, y1, y2]
        have r6 : (h4.set 3 (.box [v'])).get 6 = some (.loop .busy none tm0 [11, 12] b41_0 b41_2 41) := by rw [get_set_o (by decide), kk4 6 (by decide), w1 6 (by decide)]; exact q3
        have g : ∀ a, ¬ a = 1 → ¬ a = 3 → ¬ a = 6 → a < h.next → (∀ g n, v ≠ .row a g 1 0 n) → ((h4.set 3 (.box [v'])).set 6 (.loop .ready none tm0 [11, 12] b41_0 b41_2 41)).get a = h.get a := fun a c1 c3 c6 cn cv => by
          rw [get_set_o c6, get_set_o c3, s4 a (by omega) cv, w1 a c1, q1 a c6 cn]
        have gs : ∀ a, a < 10 → ∀ g n, v ≠ .row a g 1 0 n := by
          intro a ha g n e
          obtain ⟨_, ⟨rfl, _⟩ | ⟨k', g', rfl, _, _, w⟩⟩ := ho
          · cases e
          · cases e; omega
        refine ⟨_, yldSet_at r6, v', out ++ [i - d], ⟨?_, by rw [g 2 (by decide) (by decide) (by decide) (by omega) (gs 2 (by decide))]; exact b2, ?_, get_set_s _ _ _, by rw [g 7 (by decide) (by decide) (by decide) (by omega) (gs 7 (by decide))]; exact b7, by rw [g 8 (by decide) (by decide) (by decide) (by omega) (gs 8 (by decide))]; exact b8, by rw [g 9 (by decide) (by decide) (by decide) (by omega) (gs 9 (by decide))]; exact b9, by rw [next_set, next_set]; omega, own_keep o4 (by rw [next_set, next_set]; exact Nat.le_refl _) (fun a c1 c2 => by rw [get_set_o (by omega), get_set_o (by omega)])⟩,
          ⟨by rw [next_set, next_set]; omega, fun a ha => g a (by omega) (by omega) (by omega) (by omega) (gs a (by omega)), fun a c1 c2 c3 => g a (by omega) (by omega) (by omega) c2 c3, fun a c1 c2 g' n' e => ?_, by rw [low_set]; exact minN_le _ _⟩, by simp, fun y => by rw [List.mem_append]; simp [hk, hle]⟩
        · rw [get_set_o (by decide), get_set_o (by decide), kk4 1 (by decide)]; exact w2
        · rw [get_set_o (by decide), get_set_s]
        · rw [hv4] at e
          cases e
          obtain ⟨_, ⟨rfl, _⟩ | ⟨k', g9, rfl, _⟩⟩ := ho
          · have := u1 rfl; omega
          · have := u2 _ _ _ rfl
            exact c2 g9 _ (by rw [this])
    · have hle' : decide (d ≤ i) = false := by simpa using hle
      simp only [go_sem, Nat.reduceEqDiff, hle']
      exact same (fun y => ⟨.inl, fun h => by rcases h with h | ⟨_, h, _⟩ <;> first | assumption | exact absurd h hle⟩)
  · have hk' : decide (k = 0) = false := by simpa using hk
    simp only [go_sem, Nat.reduceEqDiff, hk']
    exact same (fun y => ⟨.inl, fun h => by rcases h with h | ⟨h, _⟩ <;> first | assumption | exact absurd h hk⟩)

end Go.Proofs.YtnacljdablhbgaaGreat
