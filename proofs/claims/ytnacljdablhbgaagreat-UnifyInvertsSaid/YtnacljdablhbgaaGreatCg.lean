/- UnifyInverts: the free variables, by the program: the visit (no condition). -/
import Derived.Test.YtnacljdablhbgaaGreatCf
namespace Go.Proofs.YtnacljdablhbgaaGreat
open Go.AG
attribute [local go_sem] R_draw RD_nil RD_mv RD_pick RD_build RD_litT RD_load RD_store RD_nilChk RD_bin RD_un RD_mkFn RD_slice RD_faddr RD_field RD_iaddr RD_extract RD_len RD_append RD_call RD_new dE_eq dC_still dC_still0 dC_reads dC_reads0 dC_acts dC_acts0 dS_val dV_val dA_val dA_call dK_ret wants_n wants_s births_n births_c birth_new birth_mv birth_pick birth_build birth_lit birth_load birth_store birth_nilChk birth_bin birth_un birth_mkFn birth_slice birth_faddr birth_field birth_iaddr birth_extract birth_builtin birth_call ite_lohi ite_01 ite_02 ite_12 ite_23 ite_13 ite_03 rdsOk_nil rdsOk_cons rdOk_nil rdOk_cons sameVal_val beq_ptr beq_row beq_int beq_enc beq_lstT beq_lstL List.append_eq List.nil_append List.cons_append Bool.true_or Bool.or_true Bool.false_or Bool.or_false Bool.true_and Bool.and_true Bool.false_and Bool.and_false Bool.not_not R_nil R_skip R_seq R_region R_scope R_exit R_ret R_block R_cond sB_true sB_false R_code_exit R_code_ret R_code_panic R_ops_exit R_ops_ret R_ops_panic R_out_normal R_out_ret R_out_panic R_out_same R_out_other R_ops_nil R_op R_opg sG_true sG_false sR_val sR_call sR_pan sC_ret sC_pan LQ_normal LQ_exit LQ_ret LQ_panic op_mv' op_pick' op_new' op_box' op_load' op_store' op_bin' op_un' op_convInt' op_defer' sR_dfr sX_some dfr_fn cells_fn lies_fn cells_map lies_map op_iaddrA' op_lookup' op_mapUp' op_mkMap' putAll_2 op_mkSlice' op_slice' slice_hi tupL_t nthL_eq op_faddr' op_field' op_iaddr' op_strIdx' op_arrIdx' op_extract' op_len' op_append' op_max' op_call' op_mkFn' op_build' parts_nil parts_cons build_0 build_2 op_nilChk' nilChk_ptr op_lit' litParts_1 lit_int lit_agg5 lit_agg2 okV_s okH_s okVH_s ev_t ev_c putD_s putD_n nth_same nth_other startTm_1 startTm_2 startTm_3 startTm_4 startTm_5 startTm_6 startTm_nil evs_nil evs_cons pick_b bin_int bin_str int_add int_sub int_eql int_neq int_lss int_leq int_gtr int_geq str_eql str_neq un_not conv_int len_str len_nils len_lst len_clip len_row want_tt want_ff want_t bindO_some field_agg get_new_s get_new_o get_set_s get_set_o new_mk set_mk get_mk setR_zero setR_cons over_cons over_nil next_mk faddr_ptr faddr_vptr1 load_ptr load_vptrI load_vptrS load_vptrL load_vptrA load_enc load_encL load_encV load_encI loadAt_box grab_1 grab_A box_agg store_ptr storeAt_box cells_agg cells_int cells_bool cells_str cells_lst cells_nils cells_row lies_agg lies_int lies_bool lies_str lies_lst lies_nils lies_row Tr.get_put_same Tr.get_put_other res_nil res_tmp res_cell one_1 one_2 frz_int frz_bool frz_str frz_lst frz_clip frz_nils frz_tupS frz_aggS frz_fn norm_int norm_bool norm_str norm_nils norm_lst norm_clip norm_agg norm_tup norms_nil norms_cons max2 FQ_ret FQ_normal FQ_panic cond_true cond_false decide_true decide_false Bool.not_true Bool.not_false List.getElem?_cons_zero List.getElem?_cons_succ List.length_cons List.length_nil List.length_map List.map_cons List.map_nil List.drop_zero List.take_succ_cons List.take_zero List.drop_succ_cons Nat.zero_add Nat.add_zero Option.some.injEq exists_eq_left' exists_eq_left AOut.ret.injEq AOut.pan.injEq AV.int.injEq AV.bool.injEq ne_eq not_true_eq_false not_false_eq_true true_and and_true Nat.le_refl eq_self

def bl (k : Int) : Int := if k = 5 ∨ k = 6 ∨ k = 7 then 1 else if k = 11 then 2 else -1
theorem U65_at : ∀ m : Nat, m < 13 → U65[m * 5 + 4]? = some (.int .i64 (bl m))
  | 0, _ => rfl | 1, _ => rfl | 2, _ => rfl | 3, _ => rfl | 4, _ => rfl | 5, _ => rfl | 6, _ => rfl | 7, _ => rfl | 8, _ => rfl | 9, _ => rfl | 10, _ => rfl | 11, _ => rfl | 12, _ => rfl
  | m + 13, h => by omega
theorem bl_binders (k : Int) (j : Nat) : binders k j = if (j : Int) = bl k then 1 else 0 := by
  unfold binders bl
  by_cases h1 : k = 5 ∨ k = 6 ∨ k = 7
  · have h2 : ¬ k = 11 := by omega
    simp [h1, h2]
  · by_cases h3 : k = 11
    · simp [h3]
    · simp only [h1, h3, if_false, and_false, or_self]
      rw [if_neg (by omega)]
theorem bl_out (k : Int) (h : ¬ (0 ≤ k ∧ k < 13)) : bl k = -1 := by
  unfold bl
  rw [if_neg (by omega), if_neg (by omega)]

theorem FS.ext {tm0 : Tm} {h h' : AH} {v : AV} {out : List Int} (F : FS tm0 h v out) (hn : h.next ≤ h'.next) (hk : ∀ k, k < h.next → h'.get k = h.get k) : FS tm0 h' v out := by
  have := F.nx
  exact ⟨by rw [hk 1 (by omega)]; exact F.b1, by rw [hk 2 (by omega)]; exact F.b2, by rw [hk 3 (by omega)]; exact F.b3, by rw [hk 6 (by omega)]; exact F.lp, by rw [hk 7 (by omega)]; exact F.b7, by rw [hk 8 (by omega)]; exact F.b8, by rw [hk 9 (by omega)]; exact F.b9, by omega, own_keep F.own hn (fun a _ q => hk a q)⟩

theorem FS.fresh {tm0 : Tm} {h : AH} {v : AV} {out : List Int} (F : FS tm0 h v out) {k : Nat} (hk : h.next ≤ k) : ∀ g n, v ≠ .row k g 1 0 n := by
  intro g n e
  obtain ⟨_, ⟨rfl, _⟩ | ⟨k', g', rfl, _, w, _⟩⟩ := F.own
  · cases e
  · cases e; omega

def vP (tm0 : Tm) (t : T) (d : Int) (h : AH) (v : AV) (out : List Int) (r : AV) (h' : AH) : Prop := r = .bool true ∧ ∃ v' out', FS tm0 h' v' out' ∧ FStep h v h' v' ∧ out'.length ≤ out.length + size t ∧ ∀ y, y ∈ out' ↔ y ∈ out ∨ FV t d y

def I124 (tm0 : Tm) (k i : Int) (_nm : ByteArray) (_ls : List LL) (ks : List T) (d : Int) (h0 : AH) (v0 : AV) (out : List Int) (j : Nat) (fr : AF) (h : AH) : Prop := ∃ tm m v1 out1, m + j = ks.length ∧ fr = ⟨tm, ⟨[], .no, none, 124⟩⟩ ∧
  nth tm 1 = .int .i64 d ∧ nth tm 4 = .ptr 9 0 0 ∧ nth tm 8 = .int .i64 (bl k) ∧ nth tm 31 = .lst (ks.map enc) ∧ nth tm 32 = .int .i64 (ks.length : Int) ∧ nth tm 33 = .int .i64 (m : Int) ∧
  FS tm0 h v1 out1 ∧ FStep h0 v0 h v1 ∧ out1.length ≤ out.length + 1 + sizes (ks.take m) ∧ ∀ y, y ∈ out1 ↔ y ∈ out ∨ (k = 0 ∧ d ≤ i ∧ y = i - d) ∨ ∃ (a : Nat) (t : T), a < m ∧ ks[a]? = some t ∧ FV t (d + binders k a) y

section
variable {cl : Nat → CallF} {N : Nat} {tm0 : Tm}

theorem visit124 (hN : 5000 < N) (t3 : nth tm0 3 = .ptr 2 0 0) (t4 : nth tm0 4 = .ptr 3 0 0)
    (cy : ∀ m a h, cl (m + 1) (.yld 6) a .no h = evYld (cl m) N 6 a h)
    (c124 : ∀ m c a h, cl (m + 1) (.fn 124 [] c) a .no h = evFn EI (cl m) N 124 (a ++ c) .no h) :
    ∀ m t d h v out, size t + 2 ≤ m → WF 1000 t d → 0 ≤ d → d + size t ≤ 5000 → FS tm0 h v out → out.length + size t ≤ 80000 →
      ∃ r h', cl m (.fn 124 [] [.ptr 7 0 0, .ptr 8 0 0, .ptr 9 0 0]) [enc t, .int .i64 d] .no h = some (.ret r, .no, h') ∧ vP tm0 t d h v out r h' := by
  intro m
  induction m with
  | zero => intro t d h v out hm; omega
  | succ m ih =>
    intro t d h v out hm hwf hd0 hd1 F hol
    obtain ⟨k, i, nm, ls, ks⟩ := t
    obtain ⟨hv, hkids⟩ := hwf
    have hsz : size (.mk k i nm ls ks) = 1 + sizes ks := by simp [size]
    rw [hsz] at hm hd1 hol
    have hlen := length_sizes ks
    have fnx := F.nx
    obtain ⟨m, rfl⟩ : ∃ m', m = m' + 1 := ⟨m - 1, by omega⟩
    rw [c124]
    refine evFn_H cf124 (pureI _) ?_
    rw [enc_eq]
    unfold b124
    simp only [go_sem, Nat.reduceAdd, reduceCtorEq]
    obtain ⟨H, hH⟩ : ∃ H : AH, H = ⟨h.next + 1, h.next, h.objs.put h.next (.box [.int .i64 k, .int .i64 i, .str nm, .lst (ls.map encL), .lst (ks.map enc)])⟩ := ⟨_, rfl⟩
    rw [← hH]
    have g5 : H.get h.next = some (.box [.int .i64 k, .int .i64 i, .str nm, .lst (ls.map encL), .lst (ks.map enc)]) := by subst hH; simp only [go_sem]
    have gk : ∀ a, a < h.next → H.get a = h.get a := by
      intro a ha
      subst hH
      rw [get_mk, Tr.get_put_other _ _ (by omega)]; rfl
    have gn : H.next = h.next + 1 := by subst hH; rfl
    clear hH
    have FH : FS tm0 H v out := F.ext (by omega) gk
    have g7 : H.get 7 = some (.box [.yld 6]) := FH.b7
    -- the round
    obtain ⟨h1, e1, v1, out1, F1, S1, l1, m1⟩ := yld41 (cl m) N tm0 H v out k i d nm ls ks FH t3 t4 (by omega) (fun hk => (hv hk).2) hd0 (by omega)
    have e1 : cl (m + 1) (.yld 6) [.int .i64 d, .agg [.int .i64 k, .int .i64 i, .str nm, .lst (ls.map encL), .lst (ks.map enc)]] .no H = some (.ret (.bool true), .no, h1) := by rw [cy]; exact e1
    have k5 : h1.get h.next = some (.box [.int .i64 k, .int .i64 i, .str nm, .lst (ls.map encL), .lst (ks.map enc)]) := by rw [S1.keep h.next fnx (by omega) (F.fresh (Nat.le_refl _))]; exact g5
    have S0 : FStep h v h1 v1 := by
      have := S1.next
      refine ⟨by omega, fun a ha => (S1.old a ha).trans (gk a (by omega)), fun a q1 q2 q3 => (S1.keep a q1 (by omega) q3).trans (gk a q2), fun a q1 q2 => S1.key a (by omega) q2, S1.low⟩
    have k8 := F1.b8
    simp only [go_sem, Nat.reduceEqDiff, Nat.reduceAdd, Int.reduceNeg, s124_10, g7, g5, e1, s124_9, s124_8, k5]
    have rest : ∀ tm, nth tm 1 = .int .i64 d → nth tm 4 = .ptr 9 0 0 → nth tm 5 = .ptr h.next 0 0 → nth tm 8 = .int .i64 (bl k) → R (cl (m + 1)) N [.code s124_7] (HQ h r124 (vP tm0 (.mk k i nm ls ks) d h v out)) .normal ⟨tm, ⟨[], .no, none, 124⟩⟩ h1 := by
      intro tm u1 u4 u5 u8
      unfold s124_7
      simp only [go_sem, u5, k5]
      refine R_loop (I124 tm0 k i nm ls ks d h v out) ks.length (by omega) ⟨_, 0, v1, out1, Nat.zero_add _, rfl, by simp only [go_sem, Nat.reduceEqDiff, *], by simp only [go_sem, Nat.reduceEqDiff, *], by simp only [go_sem, Nat.reduceEqDiff, *], by simp only [go_sem, Nat.reduceEqDiff], by simp only [go_sem, Nat.reduceEqDiff], by simp only [go_sem]; rfl, F1, S0, by simp [sizes]; omega, fun y => by rw [m1]; simp⟩ ?_
      clear u1 u4 u5 u8 tm
      rintro j fr h2 ⟨tm, p, v2, out2, hp, rfl, u1, u4, u8, u31, u32, u33, F2, S2, l2, m2⟩
      have f2nx := F2.nx
      unfold b124_5
      simp only [go_sem, s124_4, u32, u33]
      refine sB_dec (fun hlt => ?_) (fun hge => ?_)
      · have hlt : p < ks.length := by omega
        have hget : ks[p]? = some ks[p] := List.getElem?_eq_getElem hlt
        have ha := fun h => iaddr_map enc_cells hget .i64 h
        have hep := enc_parts ks[p]
        have hb := binders_le k p
        have hbb := bl_binders k p
        have hss := size_mem hget
        have hst := sizes_take ks p _ hget
        have hsl := sizes_take_le ks (p + 1)
        have hw2 := wrap_succ p (by omega)
        obtain ⟨h3, hh3⟩ : ∃ h3, h3 = (h2.new (.box [.int .i64 0, .int .i64 0, .str (bs []), .nils, .nils])).set h2.next (.box [.int .i64 ks[p].kind, .int .i64 ks[p].idx, .str ks[p].name, .lst (ks[p].levels.map encL), .lst (ks[p].kids.map enc)]) := ⟨_, rfl⟩
        have r1 : ∀ a, a < h2.next → h3.get a = h2.get a := fun a q => by rw [hh3, get_set_o (by omega), get_new_o (by omega)]
        have r2 : h3.get h2.next = some (.box [.int .i64 ks[p].kind, .int .i64 ks[p].idx, .str ks[p].name, .lst (ks[p].levels.map encL), .lst (ks[p].kids.map enc)]) := by rw [hh3, get_set_s]
        have r3 : h3.next = h2.next + 1 := by rw [hh3, next_set, next_new]
        have F3 : FS tm0 h3 v2 out2 := F2.ext (by omega) r1
        have r9 : h3.get 9 = some (.box [.fn 124 [] [.ptr 7 0 0, .ptr 8 0 0, .ptr 9 0 0]]) := F3.b9
        obtain ⟨r, h4, e4, rfl, v4, out4, F4, S4, l4, m4⟩ := ih ks[p] (d + binders k p) h3 v2 out2 (by omega) (hkids p _ hget) (by omega) (by omega) F3 (by omega)
        rw [hep] at e4
        have S5 : FStep h v h4 v4 := by
          have S23 : FStep h2 v2 h4 v4 := by
            have := S4.next
            exact ⟨by omega, fun a ha => (S4.old a ha).trans (r1 a (by omega)), fun a q1 q2 q3 => (S4.keep a q1 (by omega) q3).trans (r1 a q2), fun a q1 q2 => S4.key a (by omega) q2, S4.low⟩
          exact S2.trans S23
        have fin : ∀ tm, nth tm 1 = .int .i64 d → nth tm 4 = .ptr 9 0 0 → nth tm 8 = .int .i64 (bl k) → nth tm 31 = .lst (ks.map enc) → nth tm 32 = .int .i64 (ks.length : Int) → nth tm 33 = .int .i64 ((p + 1 : Nat) : Int) → ∃ j', j' < j ∧ I124 tm0 k i nm ls ks d h v out j' ⟨tm, ⟨[], .no, none, 124⟩⟩ h4 := by
          intro tm w1 w4 w8 w31 w32 w33
          refine ⟨j - 1, by omega, tm, p + 1, v4, out4, by omega, rfl, w1, w4, w8, w31, w32, w33, F4, S5, by omega, fun y => ?_⟩
          rw [m4, m2]
          constructor
          · rintro ((h | h | ⟨a, t, h1, h2, h3⟩) | h)
            · exact .inl h
            · exact .inr (.inl h)
            · exact .inr (.inr ⟨a, t, by omega, h2, h3⟩)
            · exact .inr (.inr ⟨p, ks[p], by omega, hget, h⟩)
          · rintro (h | h | ⟨a, t, h1, h2, h3⟩)
            · exact .inl (.inl h)
            · exact .inl (.inr (.inl h))
            · rcases Nat.lt_or_ge a p with q | q
              · exact .inl (.inr (.inr ⟨a, t, q, h2, h3⟩))
              · have : a = p := by omega
                subst this
                rw [hget] at h2; cases h2
                exact .inr h3
        simp only [go_sem, Nat.reduceEqDiff, Nat.reduceAdd, s124_3, u31, u33, ha, hep, s124_2, s124_1, u1, u8]
        rw [← hh3]
        refine sB_dec (fun heq => ?_) (fun hne => ?_)
        · rw [if_pos heq] at hbb
          rw [hbb] at e4
          have hw1 : IntKind.wrap .i64 (d + 1) = d + 1 := wrap_fits _ (by omega) (by omega)
          simp only [go_sem, Nat.reduceEqDiff, Nat.reduceAdd, hw1, s124_0, u4, r9, r2, e4, u33, hw2]
          exact fin _ (by simp only [go_sem, Nat.reduceEqDiff, *]) (by simp only [go_sem, Nat.reduceEqDiff, *]) (by simp only [go_sem, Nat.reduceEqDiff, *]) (by simp only [go_sem, Nat.reduceEqDiff, *]) (by simp only [go_sem, Nat.reduceEqDiff, *]) (by simp only [go_sem, *])
        · rw [if_neg hne] at hbb
          rw [hbb, Int.add_zero] at e4
          simp only [go_sem, Nat.reduceEqDiff, Nat.reduceAdd, s124_0, u4, r9, r2, e4, u33, hw2]
          exact fin _ (by simp only [go_sem, Nat.reduceEqDiff, *]) (by simp only [go_sem, Nat.reduceEqDiff, *]) (by simp only [go_sem, Nat.reduceEqDiff, *]) (by simp only [go_sem, Nat.reduceEqDiff, *]) (by simp only [go_sem, Nat.reduceEqDiff, *]) (by simp only [go_sem, *])
      · have : p = ks.length := by omega
        subst this
        rw [List.take_length] at l2
        simp only [go_sem, s124_6]
        have lo := S2.low
        refine HQ_turn (.inr rfl) (by omega) (by simp only [go_sem, r124]; rfl) ⟨rfl, v2, out2, F2.ext (Nat.le_refl _) (fun _ _ => rfl), ⟨S2.next, S2.old, S2.keep, S2.key, Nat.le_trans (minN_le _ _) lo⟩, by rw [hsz]; omega, fun y => ?_⟩
        rw [m2]
        constructor
        · rintro (h | ⟨h1, h2, rfl⟩ | ⟨a, t, h1, h2, h3⟩)
          · exact .inl h
          · exact .inr (.here h1 h2)
          · exact .inr (.kid h2 h3)
        · rintro (h | h)
          · exact .inl h
          · cases h with
            | here h1 h2 => exact .inr (.inl ⟨h1, h2, rfl⟩)
            | kid h1 h2 => exact .inr (.inr ⟨_, _, (List.getElem?_eq_some_iff.1 h1).1, h1, h2⟩)
    by_cases hr : 0 ≤ k ∧ k < 13
    · obtain ⟨kn, hkn⟩ : ∃ kn : Nat, k = (kn : Int) := ⟨k.toNat, by omega⟩
      have hb1 : decide (0 ≤ k) = true := by simpa using hr.1
      have hb2 : decide (k < 13) = true := by simpa using hr.2
      have hia := fun h => evIA_ptr 8 13 5 kn true .i64 h (by omega)
      rw [← hkn] at hia
      have hU := U65_at kn (by omega)
      rw [← hkn] at hU
      simp only [go_sem, Nat.reduceEqDiff, Int.reduceNeg, hb1, hb2, k5, hia, k8, hU]
      exact rest _ (by simp only [go_sem, Nat.reduceEqDiff, Int.reduceNeg]) (by simp only [go_sem, Nat.reduceEqDiff, Int.reduceNeg]) (by simp only [go_sem, Nat.reduceEqDiff, Int.reduceNeg]) (by simp only [go_sem, Int.reduceNeg])
    · have hbo := bl_out k hr
      cases hb1 : decide (0 ≤ k) with
      | false =>
        simp only [go_sem, Nat.reduceEqDiff, Int.reduceNeg]
        exact rest _ (by simp only [go_sem, Nat.reduceEqDiff, Int.reduceNeg]) (by simp only [go_sem, Nat.reduceEqDiff, Int.reduceNeg]) (by simp only [go_sem, Nat.reduceEqDiff, Int.reduceNeg]) (by simp only [go_sem, Nat.reduceEqDiff, Int.reduceNeg, hbo])
      | true =>
        have hb2 : decide (k < 13) = false := by simp at hb1 ⊢; omega
        simp only [go_sem, Nat.reduceEqDiff, Int.reduceNeg, k5, hb2]
        exact rest _ (by simp only [go_sem, Nat.reduceEqDiff, Int.reduceNeg]) (by simp only [go_sem, Nat.reduceEqDiff, Int.reduceNeg]) (by simp only [go_sem, Nat.reduceEqDiff, Int.reduceNeg]) (by simp only [go_sem, Nat.reduceEqDiff, Int.reduceNeg, hbo])
end
end Go.Proofs.YtnacljdablhbgaaGreat

/- UnifyInverts: the free variables, by the program (no condition). -/
namespace Go.Proofs.YtnacljdablhbgaaGreat
open Go.AG
attribute [local go_sem] R_draw RD_nil RD_mv RD_pick RD_build RD_litT RD_load RD_store RD_nilChk RD_bin RD_un RD_mkFn RD_slice RD_faddr RD_field RD_iaddr RD_extract RD_len RD_append RD_call RD_new dE_eq dC_still dC_still0 dC_reads dC_reads0 dC_acts dC_acts0 dS_val dV_val dA_val dA_call dK_ret wants_n wants_s births_n births_c birth_new birth_mv birth_pick birth_build birth_lit birth_load birth_store birth_nilChk birth_bin birth_un birth_mkFn birth_slice birth_faddr birth_field birth_iaddr birth_extract birth_builtin birth_call ite_lohi ite_01 ite_02 ite_12 ite_23 ite_13 ite_03 rdsOk_nil rdsOk_cons rdOk_nil rdOk_cons sameVal_val beq_ptr beq_row beq_int beq_enc beq_lstT beq_lstL List.append_eq List.nil_append List.cons_append Bool.true_or Bool.or_true Bool.false_or Bool.or_false Bool.true_and Bool.and_true Bool.false_and Bool.and_false Bool.not_not R_nil R_skip R_seq R_region R_scope R_exit R_ret R_block R_cond sB_true sB_false R_code_exit R_code_ret R_code_panic R_ops_exit R_ops_ret R_ops_panic R_out_normal R_out_ret R_out_panic R_out_same R_out_other R_ops_nil R_op R_opg sG_true sG_false sR_val sR_call sR_pan sC_ret sC_pan LQ_normal LQ_exit LQ_ret LQ_panic op_mv' op_pick' op_new' op_box' op_load' op_store' op_bin' op_un' op_convInt' op_defer' sR_dfr sX_some dfr_fn cells_fn lies_fn cells_map lies_map op_iaddrA' op_lookup' op_mapUp' op_mkMap' putAll_2 op_mkSlice' op_slice' slice_hi tupL_t nthL_eq op_faddr' op_field' op_iaddr' op_strIdx' op_arrIdx' op_extract' op_len' op_append' op_max' op_call' op_mkFn' op_build' parts_nil parts_cons build_0 build_2 op_nilChk' nilChk_ptr op_lit' litParts_1 lit_int lit_agg5 lit_agg2 okV_s okH_s okVH_s ev_t ev_c putD_s putD_n nth_same nth_other startTm_1 startTm_2 startTm_3 startTm_4 startTm_5 startTm_6 startTm_nil evs_nil evs_cons pick_b bin_int bin_str int_add int_sub int_eql int_neq int_lss int_leq int_gtr int_geq str_eql str_neq un_not conv_int len_str len_nils len_lst len_clip len_row want_tt want_ff want_t bindO_some field_agg get_new_s get_new_o get_set_s get_set_o new_mk set_mk get_mk setR_zero setR_cons over_cons over_nil next_mk faddr_ptr faddr_vptr1 load_ptr load_vptrI load_vptrS load_vptrL load_vptrA load_enc load_encL load_encV load_encI loadAt_box grab_1 grab_A box_agg store_ptr storeAt_box cells_agg cells_int cells_bool cells_str cells_lst cells_nils cells_row lies_agg lies_int lies_bool lies_str lies_lst lies_nils lies_row Tr.get_put_same Tr.get_put_other res_nil res_tmp res_cell one_1 one_2 frz_int frz_bool frz_str frz_lst frz_clip frz_nils frz_tupS frz_aggS frz_fn norm_int norm_bool norm_str norm_nils norm_lst norm_clip norm_agg norm_tup norms_nil norms_cons max2 FQ_ret FQ_normal FQ_panic cond_true cond_false decide_true decide_false Bool.not_true Bool.not_false List.getElem?_cons_zero List.getElem?_cons_succ List.length_cons List.length_nil List.length_map List.map_cons List.map_nil List.drop_zero List.take_succ_cons List.take_zero List.drop_succ_cons Nat.zero_add Nat.add_zero Option.some.injEq exists_eq_left' exists_eq_left AOut.ret.injEq AOut.pan.injEq AV.int.injEq AV.bool.injEq ne_eq not_true_eq_false not_false_eq_true true_and and_true Nat.le_refl eq_self

/- the end of a function with deferred calls, from the empty memory -/
def FD (call : CallF) (rs : List ARes) (P : AOut → Prop) (e : AEx) (fr : AF) (h1 : AH) : Prop :=
  fr.cx.rc = .no ∧ (e = .normal ∨ e = .ret) ∧ ∃ h2, evDefs fr.cx.dfs call .returning h1 = some (.returning, h2) ∧ ∃ vs, evRes rs fr.tm h2 = some vs ∧ P (.ret (frz 4 h2 0 (one vs)).norm)

theorem evFn_FD {E : Env} {call : CallF} {n : Nat} {f : FuncId} {az : List AV} {P : AOut → Prop} {nt : Nat} {rs : List ARes} {body : ACode} (hcf : E.cf f = some ⟨nt, rs, body⟩) (hp : E.pure f = true)
    (hR : R call n [.code body] (FD call rs P) .normal ⟨startTm az, ⟨[], .no, none, f⟩⟩ emptyH) : ∃ o, P o ∧ ∃ h' o', evFn E call n f az .no emptyH = some (o', .no, h') ∧ o'.norm = o := by
  obtain ⟨e, ⟨tm, ⟨dfs, rc, rnd, fid⟩⟩, h, q, q2, q3, h2, q4, vs, r1, r2⟩ := hR
  replace q2 : rc = .no := q2
  replace q4 : evDefs dfs call .returning h = some (.returning, h2) := q4
  subst q2
  have q' : evCode body call n ⟨startTm az, ⟨[], .no, none, f⟩⟩ (lowered (E.pure f) emptyH) = some (e, ⟨tm, ⟨dfs, .no, rnd, fid⟩⟩, h) := by rw [hp]; exact q
  have key : evFin call (E.pure f) emptyH ⟨nt, rs, body⟩ ⟨tm, ⟨dfs, .no, rnd, fid⟩⟩ .returning h = some (AOut.ret (frz 4 h2 0 (one vs)), RC.no, ⟨h2.next, 0, .lf⟩) := by
    show bindO (evDefs dfs call .returning h) (fun p => finBy p.1 (E.pure f) emptyH ⟨nt, rs, body⟩ ⟨tm, ⟨dfs, .no, rnd, fid⟩⟩ p.2) = _
    rw [q4, bindO_some]
    show bindO (evRes rs tm h2) (fun vs => finRet (E.pure f) emptyH h2 .no vs) = _
    rw [r1, bindO_some, hp]; rfl
  refine ⟨_, r2, ⟨h2.next, 0, .lf⟩, .ret (frz 4 h2 0 (one vs)), ?_, rfl⟩
  unfold evFn
  rw [hcf, bindO_some]
  simp only [q', bindO_some]
  rcases q3 with rfl | rfl
  · exact key
  · exact key

theorem call81 (call : CallF) (n : Nat) (k i : Int) (nm : ByteArray) (ls : List LL) (ks : List T) (h : AH) :
    ∃ v h', evFn EI call n 81 [.agg [.int .i64 k, .int .i64 i, .str nm, .lst (ls.map encL), .lst (ks.map enc)]] .no h = some (.ret v, .no, h') ∧ (v = .fn 122 [] [.ptr h.next 0 0] ∧ h' = h.new (.box [.int .i64 k, .int .i64 i, .str nm, .lst (ls.map encL), .lst (ks.map enc)])) := by
  refine evFn_I cf81 rfl ?_
  unfold b81
  simp only [go_sem, Nat.reduceEqDiff, Nat.reduceAdd, s81_0]
  exact ⟨rfl, rfl, .inr rfl, _, by simp only [go_sem, r81]; rfl, rfl, rfl⟩

theorem U65_len : U65.length = 65 := rfl

/- what the range over the nodes leaves -/
def nP (tm0 : Tm) (t : T) (h : AH) (_r : AV) (h' : AH) : Prop := ∃ v out, FS tm0 h' v out ∧ (∀ k, k = 0 ∨ k = 4 ∨ k = 5 → h'.get k = h.get k) ∧ out.length ≤ size t ∧ ∀ y, y ∈ out ↔ FV t 0 y

theorem call122 (call : CallF) (n : Nat) (tm0 : Tm) (k i : Int) (nm : ByteArray) (ls : List LL) (ks : List T) (h : AH) (hn : h.next = 7) (b1 : h.get 1 = some (.map [])) (b2 : h.get 2 = some (.box [.map 1])) (b3 : h.get 3 = some (.box [.nils])) (b4 : h.get 4 = some (.box [.int .i64 k, .int .i64 i, .str nm, .lst (ls.map encL), .lst (ks.map enc)]))
    (b6 : h.get 6 = some (.loop .ready none tm0 [11, 12] b41_0 b41_2 41))
    (c123 : ∀ h, call (.fn 123 [] []) [] .no h = some (.ret (.agg U65), .no, h))
    (c124 : ∀ h v out, FS tm0 h v out → out.length = 0 → ∃ r h', call (.fn 124 [] [.ptr 7 0 0, .ptr 8 0 0, .ptr 9 0 0]) [.agg [.int .i64 k, .int .i64 i, .str nm, .lst (ls.map encL), .lst (ks.map enc)], .int .i64 0] .no h = some (.ret r, .no, h') ∧ vP tm0 (.mk k i nm ls ks) 0 h v out r h') :
    ∃ v h', evFn EI call n 122 [.yld 6, .ptr 4 0 0] .no h = some (.ret v, .no, h') ∧ nP tm0 (.mk k i nm ls ks) h v h' := by
  refine evFn_H cf122 (pureI _) ?_
  have hby : ∀ h, evBox h 1 (.yld 6) = .val (.ptr h.next 0 0) (h.new (.box [.yld 6])) := fun h => box_one rfl
  have hul : U65.length = 65 := rfl
  have o4 : h.objs.get 4 = some (.box [.int .i64 k, .int .i64 i, .str nm, .lst (ls.map encL), .lst (ks.map enc)]) := b4
  have hs : ∀ (z : List AV), z.length = 65 → over U65 z = U65 := by
    intro z hz
    have := over_app U65 z [] (by rw [hz]; rfl)
    simpa using this
  unfold b122
  have key : ∀ (H : AH) (tm : Tm), FS tm0 H .nils [] → (∀ a, a = 0 ∨ a = 4 ∨ a = 5 → H.get a = h.get a) → sC call n (call (.fn 124 [] [.ptr 7 0 0, .ptr 8 0 0, .ptr 9 0 0]) [.agg [.int .i64 k, .int .i64 i, .str nm, .lst (ls.map encL), .lst (ks.map enc)], .int .i64 0] .no H) (some 9) [] [] (HQ h r122 (nP tm0 (.mk k i nm ls ks) h)) tm ⟨[], .no, none, 122⟩ := by
    intro H tm F hk
    obtain ⟨r, h2, e2, _, v2, out2, F2, S2, l2, m2⟩ := c124 H .nils [] F rfl
    simp only [go_sem, e2]
    have lo := S2.low
    refine HQ_turn (.inl rfl) (by omega) rfl ⟨v2, out2, F2.ext (Nat.le_refl _) (fun _ _ => rfl), fun a ha => (S2.old a ha).trans (hk a ha), by simpa using l2, fun y => by rw [m2]; simp⟩
  have p1 : h.objs.get 1 = some (.map []) := b1
  have p2 : h.objs.get 2 = some (.box [.map 1]) := b2
  have p3 : h.objs.get 3 = some (.box [.nils]) := b3
  have p6 : h.objs.get 6 = some (.loop .ready none tm0 [11, 12] b41_0 b41_2 41) := b6
  simp only [go_sem, Nat.reduceEqDiff, Nat.reduceAdd, reduceCtorEq, hn, hby, s122_2, c123, hul, hs, s122_1, s122_0, o4]
  refine key _ _ ⟨?_, ?_, ?_, ?_, ?_, ?_, ?_, Nat.le_refl _, own_nil _ _ _ _⟩ ?_
  · simp only [go_sem, Nat.reduceEqDiff, p1]
  · simp only [go_sem, Nat.reduceEqDiff, p2]
  · simp only [go_sem, Nat.reduceEqDiff, p3]
  · simp only [go_sem, Nat.reduceEqDiff, p6]
  · simp only [go_sem, Nat.reduceEqDiff]
  · simp only [go_sem, Nat.reduceEqDiff]
  · simp only [go_sem]
  · intro a ha
    have e : ∀ x1 x2 x3 x4 x5, ((((((h.objs.put 7 x1).put 8 x2).put 8 x3).put 9 x4).put 9 x5).get a) = h.objs.get a := by
      intro x1 x2 x3 x4 x5
      rw [Tr.get_put_other _ _ (by omega), Tr.get_put_other _ _ (by omega), Tr.get_put_other _ _ (by omega), Tr.get_put_other _ _ (by omega), Tr.get_put_other _ _ (by omega)]
    exact e _ _ _ _ _

theorem run41 (call : CallF) (n : Nat) (k i : Int) (nm : ByteArray) (ls : List LL) (ks : List T)
    (c81 : ∀ h, ∃ v h', call (.fn 81 [] []) [.agg [.int .i64 k, .int .i64 i, .str nm, .lst (ls.map encL), .lst (ks.map enc)]] .no h = some (.ret v, .no, h') ∧ (v = .fn 122 [] [.ptr h.next 0 0] ∧ h' = h.new (.box [.int .i64 k, .int .i64 i, .str nm, .lst (ls.map encL), .lst (ks.map enc)])))
    (c122 : ∀ tm0 h, nth tm0 3 = .ptr 2 0 0 → nth tm0 4 = .ptr 3 0 0 → h.next = 7 → h.get 1 = some (.map []) → h.get 2 = some (.box [.map 1]) → h.get 3 = some (.box [.nils]) → h.get 4 = some (.box [.int .i64 k, .int .i64 i, .str nm, .lst (ls.map encL), .lst (ks.map enc)]) → h.get 6 = some (.loop .ready none tm0 [11, 12] b41_0 b41_2 41) →
      ∃ v h', call (.fn 122 [] [.ptr 4 0 0]) [.yld 6] .no h = some (.ret v, .no, h') ∧ nP tm0 (.mk k i nm ls ks) h v h')
    (c82 : ∀ h v (out : List Int), Own 10 1 false h v (out.map encI) → out.length ≤ 100000 → ∃ (h' : AH) (out2 : List Int), call (.fn 82 [] []) [v] .no h = some (.ret (.tup []), .no, h') ∧ Own 10 1 false h' v (out2.map encI) ∧ (∀ y, y ∈ out2 ↔ y ∈ out) ∧ out2.length = out.length ∧ ∀ k, k < 10 → h'.get k = h.get k)
    (hsz : size (.mk k i nm ls ks) ≤ 10000) :
    R call n [.code b41] (FD call r41 (isL fun L => (∀ y, y ∈ L ↔ FV (.mk k i nm ls ks) 0 y) ∧ L.length ≤ size (.mk k i nm ls ks))) .normal ⟨startTm [enc (.mk k i nm ls ks)], ⟨[], .no, none, 41⟩⟩ emptyH := by
  rw [enc_eq]
  unfold b41 emptyH
  simp only [go_sem, Nat.reduceEqDiff, Nat.reduceAdd, reduceCtorEq, s41_7, s41_6, s41_5]
  obtain ⟨H, hH⟩ : ∃ H : AH, H = ⟨4, minN 2 0, ((((Tr.lf.put 0 (.box [.int .i64 k, .int .i64 i, .str nm, .lst (ls.map encL), .lst (ks.map enc)])).put 1 (.map [])).put 2 (.box [.nilm])).put 2 (.box [.map 1])).put 3 (.box [.nils])⟩ := ⟨_, rfl⟩
  rw [← hH]
  have g1 : H.get 1 = some (.map []) := by subst hH; simp only [go_sem, Nat.reduceEqDiff]
  have g2 : H.get 2 = some (.box [.map 1]) := by subst hH; simp only [go_sem, Nat.reduceEqDiff]
  have g3 : H.get 3 = some (.box [.nils]) := by subst hH; simp only [go_sem]
  have gn : H.next = 4 := by subst hH; rfl
  clear hH
  obtain ⟨v0, h0, e0, hv0, hh0⟩ := c81 H
  rw [gn] at hv0
  subst hv0
  have q0 : ∀ a, a < 4 → h0.get a = H.get a := fun a ha => by rw [hh0, get_new_o (by omega)]
  have q4 : h0.get 4 = some (.box [.int .i64 k, .int .i64 i, .str nm, .lst (ls.map encL), .lst (ks.map enc)]) := by rw [hh0, ← gn, get_new_s]
  have qn : h0.next = 5 := by rw [hh0, next_new, gn]
  clear hh0
  simp only [go_sem, e0]
  obtain ⟨tm, htm⟩ : ∃ tm : Tm, tm = (((((((Tr.lf.put 0 (AV.agg [.int .i64 k, .int .i64 i, .str nm, .lst (ls.map encL), .lst (ks.map enc)])).put 1 (.ptr 0 0 0)).put 2 .nils).put 8 (.map 1)).put 3 (.ptr 2 0 0)).put 4 (.ptr 3 0 0)).put 9 (.agg [.int .i64 k, .int .i64 i, .str nm, .lst (ls.map encL), .lst (ks.map enc)])).put 10 (.fn 122 [] [.ptr 4 0 0]) := ⟨_, rfl⟩
  rw [← htm]
  have t3 : nth tm 3 = .ptr 2 0 0 := by subst htm; simp only [go_sem, Nat.reduceEqDiff]
  have t4 : nth tm 4 = .ptr 3 0 0 := by subst htm; simp only [go_sem, Nat.reduceEqDiff]
  have t10 : nth tm 10 = .fn 122 [] [.ptr 4 0 0] := by subst htm; simp only [go_sem]
  clear htm
  obtain ⟨h1, hh1⟩ : ∃ h1, h1 = (h0.new (.dfd false)).new (.loop .ready none tm [11, 12] b41_0 b41_2 41) := ⟨_, rfl⟩
  have r0 : ∀ a, a < 5 → h1.get a = h0.get a := fun a ha => by rw [hh1, get_new_o (by rw [next_new]; omega), get_new_o (by omega)]
  have r5 : h1.get 5 = some (.dfd false) := by rw [hh1, get_new_o (by rw [next_new]; omega), ← qn, get_new_s]
  have r6 : h1.get 6 = some (.loop .ready none tm [11, 12] b41_0 b41_2 41) := by
    have e : (h0.new (.dfd false)).next = 6 := by rw [next_new, qn]
    rw [hh1, ← e, get_new_s]
  have rn : h1.next = 7 := by rw [hh1, next_new, next_new, qn]
  obtain ⟨v2, h2, e2, v, out, F, old, lo, mem⟩ := c122 tm h1 t3 t4 rn (by rw [r0 1 (by decide), q0 1 (by decide)]; exact g1) (by rw [r0 2 (by decide), q0 2 (by decide)]; exact g2) (by rw [r0 3 (by decide), q0 3 (by decide)]; exact g3) (by rw [r0 4 (by decide)]; exact q4) r6
  have hev : ev (.t 10) tm = .fn 122 [] [.ptr 4 0 0] := t10
  refine R_range_at 5 6 qn rfl (by rw [hev, ← hh1]; exact e2) F.lp rfl ?_
  obtain ⟨h3, hh3⟩ : ∃ h3, h3 = h2.set 6 (.loop .exhausted none tm [11, 12] b41_0 b41_2 41) := ⟨_, rfl⟩
  rw [← hh3]
  have s3 : h3.get 3 = some (.box [v]) := by rw [hh3, get_set_o (by decide)]; exact F.b3
  have s5 : h3.get 5 = some (.dfd false) := by rw [hh3, get_set_o (by decide), old 5 (by omega)]; exact r5
  have o3 : Own 10 1 false h3 v (out.map encI) := own_keep F.own (by rw [hh3, next_set]; exact Nat.le_refl _) (fun a q _ => by rw [hh3]; exact get_set_o (by omega))
  clear hh3
  obtain ⟨h4, out2, e4, o4, m4, l4, k4⟩ := c82 h3 v out o3 (by omega)
  have s4 : h4.get 3 = some (.box [v]) := by rw [k4 3 (by decide)]; exact s3
  have d4 : h4.get 5 = some (.dfd false) := by rw [k4 5 (by decide)]; exact s5
  simp only [go_sem, Nat.reduceEqDiff, s41_4, t4, s3, e4, s41_3, s4]
  have o5 : Own 10 1 false (h4.set 5 (.dfd true)) v (out2.map encI) := own_keep o4 (by rw [next_set]; exact Nat.le_refl _) (fun a q _ => get_set_o (by omega))
  refine ⟨rfl, .inr rfl, _, defs_mark d4, [v], by simp only [go_sem, r41], ?_⟩
  rw [one_1, own_frz o5 (fun _ => rfl) (fun x hx => by obtain ⟨y, _, rfl⟩ := List.mem_map.1 hx; exact frz_encI _ _ _), encI_norms]
  exact isL_i _ _ ⟨fun y => by rw [m4, mem], by omega⟩

end Go.Proofs.YtnacljdablhbgaaGreat
