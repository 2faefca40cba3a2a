/- UnifyInverts: Invert of the program; both agree (no condition). -/
import Derived.Test.YtnacljdablhbgaaGreatCg
namespace Go.Proofs.YtnacljdablhbgaaGreat
open Go.AG
attribute [local go_sem] R_draw RD_nil RD_mv RD_pick RD_build RD_litT RD_load RD_store RD_nilChk RD_bin RD_un RD_mkFn RD_slice RD_faddr RD_field RD_iaddr RD_extract RD_len RD_append RD_call RD_new dE_eq dC_still dC_still0 dC_reads dC_reads0 dC_acts dC_acts0 dS_val dV_val dA_val dA_call dK_ret wants_n wants_s births_n births_c birth_new birth_mv birth_pick birth_build birth_lit birth_load birth_store birth_nilChk birth_bin birth_un birth_mkFn birth_slice birth_faddr birth_field birth_iaddr birth_extract birth_builtin birth_call ite_lohi ite_01 ite_02 ite_12 ite_23 ite_13 ite_03 rdsOk_nil rdsOk_cons rdOk_nil rdOk_cons sameVal_val beq_ptr beq_row beq_int beq_enc beq_lstT beq_lstL List.append_eq List.nil_append List.cons_append Bool.true_or Bool.or_true Bool.false_or Bool.or_false Bool.true_and Bool.and_true Bool.false_and Bool.and_false Bool.not_not R_nil R_skip R_seq R_region R_scope R_exit R_ret R_block R_cond sB_true sB_false R_code_exit R_code_ret R_code_panic R_ops_exit R_ops_ret R_ops_panic R_out_normal R_out_ret R_out_panic R_out_same R_out_other R_ops_nil R_op R_opg sG_true sG_false sR_val sR_call sR_pan sC_ret sC_pan LQ_normal LQ_exit LQ_ret LQ_panic op_mv' op_pick' op_new' op_box' op_load' op_store' op_bin' op_un' op_convInt' op_defer' sR_dfr sX_some dfr_fn cells_fn lies_fn cells_map lies_map op_iaddrA' op_lookup' op_mapUp' op_mkMap' putAll_2 op_mkSlice' op_slice' slice_hi tupL_t nthL_eq op_faddr' op_field' op_iaddr' op_strIdx' op_arrIdx' op_extract' op_len' op_append' op_max' op_call' op_mkFn' op_build' parts_nil parts_cons build_0 build_2 op_nilChk' nilChk_ptr op_lit' litParts_1 lit_int lit_agg5 lit_agg2 okV_s okH_s okVH_s ev_t ev_c putD_s putD_n nth_same nth_other startTm_1 startTm_2 startTm_3 startTm_4 startTm_5 startTm_6 startTm_nil evs_nil evs_cons pick_b bin_int bin_str int_add int_sub int_eql int_neq int_lss int_leq int_gtr int_geq str_eql str_neq un_not conv_int len_str len_nils len_lst len_clip len_row want_tt want_ff want_t bindO_some field_agg get_new_s get_new_o get_set_s get_set_o new_mk set_mk get_mk setR_zero setR_cons over_cons over_nil next_mk faddr_ptr faddr_vptr1 load_ptr load_vptrI load_vptrS load_vptrL load_vptrA load_enc load_encL load_encV load_encI loadAt_box grab_1 grab_A box_agg store_ptr storeAt_box cells_agg cells_int cells_bool cells_str cells_lst cells_nils cells_row lies_agg lies_int lies_bool lies_str lies_lst lies_nils lies_row Tr.get_put_same Tr.get_put_other res_nil res_tmp res_cell one_1 one_2 frz_int frz_bool frz_str frz_lst frz_clip frz_nils frz_tupS frz_aggS frz_fn norm_int norm_bool norm_str norm_nils norm_lst norm_clip norm_agg norm_tup norms_nil norms_cons max2 FQ_ret FQ_normal FQ_panic cond_true cond_false decide_true decide_false Bool.not_true Bool.not_false List.getElem?_cons_zero List.getElem?_cons_succ List.length_cons List.length_nil List.length_map List.map_cons List.map_nil List.drop_zero List.take_succ_cons List.take_zero List.drop_succ_cons Nat.zero_add Nat.add_zero Option.some.injEq exists_eq_left' exists_eq_left AOut.ret.injEq AOut.pan.injEq AV.int.injEq AV.bool.injEq ne_eq not_true_eq_false not_false_eq_true true_and and_true Nat.le_refl eq_self

theorem exists_to (vars : List Int) : ∃ to : List Int, ∀ y, 0 ≤ y → y < 1000 → sg to y = tgt vars y := by
  refine ⟨(List.range 1000).map fun a : Nat => tgt vars (a : Int), fun y h0 h1 => ?_⟩
  have e : ((List.range 1000).map fun a : Nat => tgt vars (a : Int))[y.toNat]? = some (tgt vars y) := by
    rw [List.getElem?_map, List.getElem?_range (by omega)]
    simp only [Option.map_some]
    congr 2
    omega
  simp [sg, List.getD_eq_getElem?_getD, e]

def I9a (vars : List Int) (b : List AV) (j : Nat) (fr : AF) (h : AH) : Prop := ∃ tm m, m + j = vars.length ∧ fr = ⟨tm, ⟨[], .no, none, 9⟩⟩ ∧ h.get 0 = some (.box b) ∧ h.get 1 = some (.box [.int .i64 0, .int .i64 0, .str (bs []), .nils, .nils]) ∧ h.next = 2 ∧
  nth tm 0 = .lst (vars.map encI) ∧ nth tm 3 = .ptr 0 0 0 ∧ nth tm 4 = .ptr 1 0 0 ∧ nth tm 12 = .lst (vars.map encI) ∧ nth tm 13 = .int .i64 (vars.length : Int) ∧ nth tm 14 = .int .i64 (m : Int) ∧ (∀ x ∈ vars.take m, 0 ≤ x) ∧ (vars.take m).Nodup

structure J9 (vars : List Int) (b : List AV) (fr : AF) (h : AH) (tm : Tm) (L to : List Int) (v : AV) : Prop where
  fr : fr = ⟨tm, ⟨[], .no, none, 9⟩⟩
  b0 : h.get 0 = some (.box b)
  b1 : h.get 1 = some (.box [.int .i64 0, .int .i64 0, .str (bs []), .nils, .nils])
  nx : 2 ≤ h.next
  t0 : nth tm 0 = .lst (vars.map encI)
  t3 : nth tm 3 = .ptr 0 0 0
  t4 : nth tm 4 = .ptr 1 0 0
  t8 : nth tm 8 = v
  t31 : nth tm 31 = .lst (L.map encI)
  t32 : nth tm 32 = .int .i64 (L.length : Int)
  own : Own 2 1 false h v (List.map encI to)
  le : ∀ x ∈ to, x ≤ 1000
  len : to.length ≤ 1001

def I9b (vars : List Int) (b : List AV) (L : List Int) (j : Nat) (fr : AF) (h : AH) : Prop := ∃ tm m to v, m + j = L.length ∧ J9 vars b fr h tm L to v ∧ nth tm 33 = .int .i64 (m : Int) ∧ ∀ y ∈ L.take m, sg to y = tgt vars y ∧ y ∈ vars
def I9c (vars : List Int) (b : List AV) (L : List Int) (p : Nat) (z kx : Int) (j : Nat) (fr : AF) (h : AH) : Prop := ∃ tm to v, to.length + j = 2000 ∧ J9 vars b fr h tm L to v ∧ nth tm 33 = .int .i64 (p : Int) ∧ nth tm 10 = .int .i64 z ∧ nth tm 11 = .int .i64 kx ∧ ∀ y ∈ L.take p, sg to y = tgt vars y ∧ y ∈ vars

theorem run9 (call : CallF) (n : Nat) (k i : Int) (nm : ByteArray) (ls : List LL) (ks : List T) (vars : List Int) (L : List Int) (hn : 3000 < n) (hvl : vars.length ≤ 20) (hL : L.length ≤ 1000)
    (hLr : ∀ y ∈ L, 0 ≤ y ∧ y < 1000) (hLf : ∀ y, y ∈ L ↔ FV (.mk k i nm ls ks) 0 y)
    (h40 : ∀ (l : List Int) x h, l.length ≤ 20 → call (.fn 40 [] []) [.lst (l.map encI), .int .i64 x] .no h = some (.ret (.bool (decide (x ∈ l))), .no, h))
    (h42 : ∀ x h, call (.fn 42 [] []) [.lst (vars.map encI), .int .i64 x] .no h = some (.ret (.int .i64 (idxOf vars x)), .no, h))
    (h41 : ∀ h, call (.fn 41 [] []) [.agg [.int .i64 k, .int .i64 i, .str nm, .lst (ls.map encL), .lst (ks.map enc)]] .no h = some (.ret (.lst (List.map encI L)), .no, h))
    (h43 : ∀ (to : List Int) V h, SV h.next to V h → (∀ x ∈ to, x ≤ 1000) → ¬ Bad to (.mk k i nm ls ks) 0 → ∃ v h', call (.fn 43 [] []) [.agg [.int .i64 k, .int .i64 i, .str nm, .lst (ls.map encL), .lst (ks.map enc)], V] .no h = some (.ret v, .no, h') ∧ G46 (ren to (.mk k i nm ls ks) 0, 0) h v h') :
    R call n [.code b9] (FX r9 (isT (invR vars (.mk k i nm ls ks)))) .normal ⟨startTm [.lst (vars.map encI), enc (.mk k i nm ls ks)], ⟨[], .no, none, 9⟩⟩ emptyH := by
  rw [enc_eq]
  unfold b9 emptyH
  simp only [go_sem, Nat.reduceAdd, reduceCtorEq, s9_14]
  refine R_loop (I9a vars [.int .i64 k, .int .i64 i, .str nm, .lst (ls.map encL), .lst (ks.map enc)]) vars.length (by omega) ⟨_, 0, Nat.zero_add _, rfl, by simp only [go_sem, reduceCtorEq], by simp only [go_sem], rfl, by simp only [go_sem, reduceCtorEq], by simp only [go_sem, Nat.reduceEqDiff], by simp only [go_sem, Nat.reduceEqDiff], by simp only [go_sem, Nat.reduceEqDiff], by simp only [go_sem, Nat.reduceEqDiff], by simp only [go_sem]; rfl, by simp, by simp⟩ ?_
  rintro j fr h ⟨tm, m, hm, rfl, b0, b1, nx, t0, t3, t4, t12, t13, t14, hpos, hnd⟩
  unfold b9_3
  simp only [go_sem, s9_2, t13, t14]
  have fails : ∀ (h : AH) (r : T × Int), r.1 = T0 → invR vars (.mk k i nm ls ks) r → ∀ tm, nth tm 4 = .ptr 1 0 0 → nth tm 5 = .int .i64 r.2 → FX r9 (isT (invR vars (.mk k i nm ls ks))) .ret ⟨tm, ⟨[], .no, none, 9⟩⟩ (h.set 1 (.box [.int .i64 0, .int .i64 0, .str (bs []), .nils, .nils])) := by
    intro h r hr hno tm q4 q5
    simp only [go_sem, Nat.reduceAdd, FX_ret, r9, q4, q5]
    refine ⟨r, ?_, hno⟩
    simp [hr, enc_T0]
  refine sB_dec (fun hlt => ?_) (fun hge => ?_)
  · have hlt : m < vars.length := by omega
    have hget : vars[m]? = some vars[m] := List.getElem?_eq_getElem hlt
    have ha := fun h => iaddr_map encI_cells hget .i64 h
    have hw2 := wrap_succ m (by omega)
    have hsl := fun h => sliceTo_lst encI_cells h vars .i64 m (by omega)
    have hc := fun h => h40 (vars.take m) vars[m] h (by simp; omega)
    cases hneg : decide (vars[m] < 0) with
    | true =>
      simp only [go_sem, Nat.reduceEqDiff, Nat.reduceAdd, s9_1, s9_0, t12, t14, ha, hneg, t4, b1]
      exact fails h (T0, 1) rfl (.inl ⟨fun ok => by have := ok.1 vars[m] (List.getElem_mem hlt); simp at hneg; omega, rfl⟩) _ (by simp only [go_sem, Nat.reduceEqDiff, t4]) (by simp only [go_sem])
    | false =>
      have hneg' : 0 ≤ vars[m] := by simpa using hneg
      simp only [go_sem, Nat.reduceEqDiff, reduceCtorEq, s9_1, s9_0, t0, t12, t14, ha, hneg, hsl, hc]
      cases hin : decide (vars[m] ∈ vars.take m) with
      | true =>
        simp only [go_sem, Nat.reduceEqDiff, Nat.reduceAdd, t4, b1]
        refine fails h (T0, 1) rfl (.inl ⟨fun ok => ?_, rfl⟩) _ (by simp only [go_sem, Nat.reduceEqDiff, t4]) (by simp only [go_sem])
        have hin : vars[m] ∈ vars.take m := by simpa using hin
        obtain ⟨j, hj, he⟩ := List.mem_take_iff_getElem.1 hin
        have := (List.getElem_inj ok.2).1 he
        omega
      | false =>
        have hin : vars[m] ∉ vars.take m := by simpa using hin
        simp only [go_sem, Nat.reduceEqDiff, t14, hw2]
        refine ⟨j - 1, by omega, _, m + 1, by omega, rfl, b0, b1, nx, by simp only [go_sem, reduceCtorEq, *], by simp only [go_sem, Nat.reduceEqDiff, *], by simp only [go_sem, Nat.reduceEqDiff, *], by simp only [go_sem, Nat.reduceEqDiff, *], by simp only [go_sem, Nat.reduceEqDiff, *], by simp only [go_sem, *], fun x hx => ?_, ?_⟩
        · rcases (take_snoc hlt x).1 hx with q | q
          · exact hpos x q
          · rw [q]; exact hneg'
        · rw [List.take_succ_eq_append_getElem hlt, List.nodup_append]
          refine ⟨hnd, by simp, fun a ha b hb => ?_⟩
          simp only [List.mem_singleton] at hb
          rintro rfl
          exact hin (hb ▸ ha)
  · have : m = vars.length := by omega
    subst this
    rw [List.take_length] at hpos hnd
    have ok : okVars vars := ⟨hpos, hnd⟩
    simp only [go_sem, Nat.reduceEqDiff, Nat.reduceAdd, s9_13, s9_12, t3, b0, h41]
    refine R_loop (I9b vars [.int .i64 k, .int .i64 i, .str nm, .lst (ls.map encL), .lst (ks.map enc)] L) L.length (by omega) ⟨_, 0, [], .nils, Nat.zero_add _, ⟨rfl, b0, b1, by omega, by simp only [go_sem, reduceCtorEq, *], by simp only [go_sem, Nat.reduceEqDiff, *], by simp only [go_sem, Nat.reduceEqDiff, *], by simp only [go_sem, Nat.reduceEqDiff, *], by simp only [go_sem, Nat.reduceEqDiff, *], by simp only [go_sem, Nat.reduceEqDiff, *], own_nil _ _ _ _, by simp, by simp⟩, by simp only [go_sem]; rfl, by simp⟩ ?_
    clear b0 b1 nx t0 t3 t4 t12 t13 t14 hm hge
    rintro j fr h ⟨tm, p, to, v, hp, J, t33, hdone⟩
    obtain ⟨rfl, b0, b1, nx, t0, t3, t4, t8, t31, t32, ho, hle, hlen⟩ := J
    unfold b9_10
    simp only [go_sem, s9_9, t32, t33]
    refine sB_dec (fun hlt => ?_) (fun hge => ?_)
    · have hlt : p < L.length := by omega
      have hget : L[p]? = some L[p] := List.getElem?_eq_getElem hlt
      have ha := fun h => iaddr_map encI_cells hget .i64 h
      have hz := hLr L[p] (List.getElem_mem hlt)
      have hzf := (hLf L[p]).1 (List.getElem_mem hlt)
      obtain ⟨z, hzz⟩ : ∃ z, z = L[p] := ⟨_, rfl⟩
      rw [← hzz] at ha hz hzf
      simp only [go_sem, Nat.reduceEqDiff, reduceCtorEq, s9_8, s9_7, s9_6, t31, t33, ha, t0, h42]
      by_cases hin : z ∈ vars
      · have hir := idxOf_range hin
        have hd : decide (idxOf vars z < 0) = false := by simp; omega
        simp only [go_sem, hd, s9_5]
        refine R_loop (I9c vars [.int .i64 k, .int .i64 i, .str nm, .lst (ls.map encL), .lst (ks.map enc)] L p z (idxOf vars z)) (2000 - to.length) (by omega) ⟨_, to, v, by omega, ⟨rfl, b0, b1, nx, by simp only [go_sem, reduceCtorEq, *], by simp only [go_sem, Nat.reduceEqDiff, *], by simp only [go_sem, Nat.reduceEqDiff, *], by simp only [go_sem, Nat.reduceEqDiff, *], by simp only [go_sem, Nat.reduceEqDiff, *], by simp only [go_sem, Nat.reduceEqDiff, *], ho, hle, hlen⟩, by simp only [go_sem, Nat.reduceEqDiff, *], by simp only [go_sem, Nat.reduceEqDiff], by simp only [go_sem, Nat.reduceEqDiff], hdone⟩ ?_
        clear b0 b1 nx t0 t3 t4 t8 t31 t32 t33 ho hle hlen hdone
        rintro j2 fr h ⟨tm, to, v, hj2, J, t33, t10, t11, hdone⟩
        obtain ⟨rfl, b0, b1, nx, t0, t3, t4, t8, t31, t32, ho, hle, hlen⟩ := J
        have lenv := own_len ho
        rw [List.length_map] at lenv
        unfold b9_4
        simp only [go_sem, Nat.reduceEqDiff, Int.reduceNeg, t8, t10, lenv]
        refine sB_dec (fun hc => ?_) (fun hc => ?_)
        · obtain ⟨v', h', e1, o', q1, q2, q3, q4, _⟩ := own_append (x := .int .i64 (-1)) (z := [.int .i64 0]) (bytes := 8) ho nx rfl rfl rfl rfl (by simp only [List.length_map]; omega) (by decide)
          simp only [go_sem, Nat.reduceEqDiff, Nat.reduceMul, Int.reduceNeg, t8, e1]
          refine ⟨j2 - 1, by omega, _, to ++ [-1], v', by simp; omega, ⟨rfl, by rw [q2 0 (by decide)]; exact b0, by rw [q2 1 (by decide)]; exact b1, by omega, by simp only [go_sem, reduceCtorEq, Int.reduceNeg, *], by simp only [go_sem, Nat.reduceEqDiff, Int.reduceNeg, *], by simp only [go_sem, Nat.reduceEqDiff, Int.reduceNeg, *], by simp only [go_sem, Int.reduceNeg, *], by simp only [go_sem, Nat.reduceEqDiff, Int.reduceNeg, *], by simp only [go_sem, Nat.reduceEqDiff, Int.reduceNeg, *], by simpa [encI] using o', fun x hx => ?_, by simp; omega⟩, by simp only [go_sem, Nat.reduceEqDiff, Int.reduceNeg, *], by simp only [go_sem, Nat.reduceEqDiff, Int.reduceNeg, *], by simp only [go_sem, Nat.reduceEqDiff, Int.reduceNeg, *], fun y hy => by rw [sg_snoc]; exact hdone y hy⟩
          rcases List.mem_append.1 hx with q | q
          · exact hle x q
          · simp at q; omega
        · obtain ⟨a, hza⟩ : ∃ a : Nat, z = (a : Int) := ⟨z.toNat, by omega⟩
          have hat : a < to.length := by omega
          obtain ⟨pp, h', e1, e2, o', q1, q2⟩ := own_store (x := .int .i64 ((vars.length : Int) - 1 - idxOf vars z)) ho (by simpa using hat) rfl rfl rfl .i64
          rw [← hza] at e1
          have hw3 : IntKind.wrap .i64 ((vars.length : Int) - 1) = (vars.length : Int) - 1 := wrap_fits _ (by omega) (by omega)
          have hw4 : IntKind.wrap .i64 ((vars.length : Int) - 1 - idxOf vars z) = (vars.length : Int) - 1 - idxOf vars z := wrap_fits _ (by omega) (by omega)
          have hw2 := wrap_succ p (by omega)
          simp only [go_sem, Nat.reduceEqDiff, reduceCtorEq, Int.reduceNeg, t0, t8, t10, t11, hw3, hw4, e1, e2, t33, hw2]
          have htg : tgt vars z = (vars.length : Int) - 1 - idxOf vars z := by rw [tgt, if_pos hin]
          have hsg : ∀ y, 0 ≤ y → sg (to.set a ((vars.length : Int) - 1 - idxOf vars z)) y = if y = z then tgt vars z else sg to y := by
            intro y hy
            rw [sg_set hat _ _ hy, ← hza, htg]
          refine ⟨j - 1, by omega, _, p + 1, to.set a ((vars.length : Int) - 1 - idxOf vars z), v, by omega, ⟨rfl, by rw [q2 0 (by decide)]; exact b0, by rw [q2 1 (by decide)]; exact b1, by omega, by simp only [go_sem, reduceCtorEq, *], by simp only [go_sem, Nat.reduceEqDiff, *], by simp only [go_sem, Nat.reduceEqDiff, *], by simp only [go_sem, Nat.reduceEqDiff, *], by simp only [go_sem, Nat.reduceEqDiff, *], by simp only [go_sem, Nat.reduceEqDiff, *], by simpa [encI] using o', fun x hx => ?_, by simpa using hlen⟩, by simp only [go_sem, *], fun y hy => ?_⟩
          · rcases List.mem_or_eq_of_mem_set hx with w | w
            · exact hle x w
            · omega
          · rcases (take_snoc hlt y).1 hy with w | w
            · have hy0 := (hLr y (List.mem_of_mem_take w)).1
              rw [hsg y hy0]
              split
              · rename_i h; rw [h]; exact ⟨rfl, hin⟩
              · exact hdone y w
            · rw [← hzz] at w
              subst w
              rw [hsg y hz.1, if_pos rfl]
              exact ⟨rfl, hin⟩
      · have hidx : idxOf vars z = -1 := by rw [idxOf, if_neg hin]
        have hd : decide (idxOf vars z < 0) = true := by rw [hidx]; rfl
        obtain ⟨to0, hto0⟩ := exists_to vars
        have hfv : ∀ y, FV (.mk k i nm ls ks) 0 y → sg to0 y = tgt vars y := fun y hy => by
          have := hLr y ((hLf y).2 hy)
          exact hto0 y this.1 this.2
        have hbad : Bad to0 (.mk k i nm ls ks) 0 := ⟨z, hzf, by rw [hfv z hzf]; exact tgt_neg.2 hin⟩
        simp only [go_sem, Nat.reduceEqDiff, Nat.reduceAdd, hd, t4, b1]
        exact fails h (T0, 24) rfl (.inr ⟨ok, to0, hfv, by rw [renR, if_pos hbad]⟩) _ (by simp only [go_sem, Nat.reduceEqDiff, t4]) (by simp only [go_sem])
    · have : p = L.length := by omega
      subst this
      rw [List.take_length] at hdone
      have sv : SV h.next to v h := by
        obtain ⟨_, ⟨rfl, ho⟩ | ⟨kk, g, rfl, w1, w2, w3⟩⟩ := ho
        · exact .inl ⟨rfl, by simpa using ho⟩
        · refine .inr ⟨kk, g, by simp, ?_, w2, by omega⟩
          rw [w1, flat_encI]
      have hfv : ∀ y, FV (.mk k i nm ls ks) 0 y → sg to y = tgt vars y := fun y hy => (hdone y ((hLf y).2 hy)).1
      have hnb : ¬ Bad to (.mk k i nm ls ks) 0 := by
        rintro ⟨y, hy, hs⟩
        have h1 := hdone y ((hLf y).2 hy)
        rw [h1.1] at hs
        exact absurd h1.2 (tgt_neg.1 hs)
      obtain ⟨v', h', e1, G⟩ := h43 to v h sv hle hnb
      obtain ⟨x1, x2, x3, x4, x5, rfl, hno, hst⟩ := G.val
      have b1' : h'.get 1 = some (.box [.int .i64 0, .int .i64 0, .str (bs []), .nils, .nils]) := by show h'.objs.get 1 = _; rw [G.objs]; exact b1
      have z5 : ∀ h, frz 3 h 0 (.agg [x1, x2, x3, x4, x5]) = .agg [x1, x2, x3, x4, x5] := fun h => hst 3 h 0
      simp only [go_sem, Nat.reduceEqDiff, Nat.reduceAdd, s9_11, t3, t4, t8, b0, e1, b1', FX_ret]
      refine ⟨[.agg [x1, x2, x3, x4, x5], .int .i64 0], by simp only [go_sem, Nat.reduceEqDiff, Nat.reduceAdd, r9, t4], (ren to (.mk k i nm ls ks) 0, 0), ?_, .inr ⟨ok, to, hfv, by rw [renR, if_neg hnb]⟩⟩
      rw [one_2, frz_tupS]
      simp only [List.map_cons, List.map_nil, frz_int, z5, norm_tup, norms_cons, norms_nil, norm_int, hno]

/-! both agree -/
mutual
theorem sg_ext {to to' : List Int} : ∀ (t : T) (d : Int), (∀ y, FV t d y → sg to y = sg to' y) → ren to t d = ren to' t d
  | .mk k i nm ls ks, d, h => by
    simp only [ren]
    by_cases hk : k = 0
    · simp only [hk, if_true]
      by_cases hlt : i < d
      · simp [hlt]
      · simp only [hlt, if_false]
        rw [h (i - d) (.here hk (by omega))]
    · simp only [hk, if_false]
      congr 1
      exact sgs_ext k ks 0 d fun a t ha y hy => h y (.kid ha (by simpa using hy))
theorem sgs_ext {to to' : List Int} (k : Int) : ∀ (ks : List T) (j : Nat) (d : Int), (∀ (a : Nat) t, ks[a]? = some t → ∀ y, FV t (d + binders k ((j + a : Nat) : Int)) y → sg to y = sg to' y) → rens to k j ks d = rens to' k j ks d
  | [], j, d, _ => by simp [rens]
  | t :: l, j, d, h => by
    simp only [rens]
    rw [sg_ext t _ (fun y hy => h 0 t rfl y (by simpa using hy)), sgs_ext k l (j + 1) d fun a t ha y hy => h (a + 1) t (by simpa using ha) y (by rw [show j + 1 + a = j + (a + 1) by omega] at hy; exact hy)]
end

theorem invR_one {vars : List Int} {t : T} {r r' : T × Int} (h : invR vars t r) (h' : invR vars t r') : r = r' := by
  rcases h with ⟨h1, rfl⟩ | ⟨h1, to, h2, rfl⟩
  · rcases h' with ⟨_, rfl⟩ | ⟨h3, _⟩
    · rfl
    · exact absurd h3 h1
  · rcases h' with ⟨h3, _⟩ | ⟨_, to', h4, rfl⟩
    · exact absurd h1 h3
    · have he : ∀ y, FV t 0 y → sg to y = sg to' y := fun y hy => (h2 y hy).trans (h4 y hy).symm
      unfold renR
      have hb : Bad to t 0 ↔ Bad to' t 0 := ⟨fun ⟨y, a, b⟩ => ⟨y, a, he y a ▸ b⟩, fun ⟨y, a, b⟩ => ⟨y, a, (he y a).symm ▸ b⟩⟩
      by_cases hbb : Bad to t 0
      · rw [if_pos hbb, if_pos (hb.1 hbb)]
      · rw [if_neg hbb, if_neg (fun h => hbb (hb.2 h)), sg_ext t 0 he]

end Go.Proofs.YtnacljdablhbgaaGreat

/- UnifyInverts: the law (no condition). -/
namespace Go.Proofs.YtnacljdablhbgaaGreat
open Go.AG
attribute [local go_sem] R_draw RD_nil RD_mv RD_pick RD_build RD_litT RD_load RD_store RD_nilChk RD_bin RD_un RD_mkFn RD_slice RD_faddr RD_field RD_iaddr RD_extract RD_len RD_append RD_call RD_new dE_eq dC_still dC_still0 dC_reads dC_reads0 dC_acts dC_acts0 dS_val dV_val dA_val dA_call dK_ret wants_n wants_s births_n births_c birth_new birth_mv birth_pick birth_build birth_lit birth_load birth_store birth_nilChk birth_bin birth_un birth_mkFn birth_slice birth_faddr birth_field birth_iaddr birth_extract birth_builtin birth_call ite_lohi ite_01 ite_02 ite_12 ite_23 ite_13 ite_03 rdsOk_nil rdsOk_cons rdOk_nil rdOk_cons sameVal_val beq_ptr beq_row beq_int beq_enc beq_lstT beq_lstL List.append_eq List.nil_append List.cons_append Bool.true_or Bool.or_true Bool.false_or Bool.or_false Bool.true_and Bool.and_true Bool.false_and Bool.and_false Bool.not_not R_nil R_skip R_seq R_region R_scope R_exit R_ret R_block R_cond sB_true sB_false R_code_exit R_code_ret R_code_panic R_ops_exit R_ops_ret R_ops_panic R_out_normal R_out_ret R_out_panic R_out_same R_out_other R_ops_nil R_op R_opg sG_true sG_false sR_val sR_call sR_pan sC_ret sC_pan LQ_normal LQ_exit LQ_ret LQ_panic op_mv' op_pick' op_new' op_box' op_load' op_store' op_bin' op_un' op_convInt' op_defer' sR_dfr sX_some dfr_fn cells_fn lies_fn cells_map lies_map op_iaddrA' op_lookup' op_mapUp' op_mkMap' putAll_2 op_mkSlice' op_slice' slice_hi tupL_t nthL_eq op_faddr' op_field' op_iaddr' op_strIdx' op_arrIdx' op_extract' op_len' op_append' op_max' op_call' op_mkFn' op_build' parts_nil parts_cons build_0 build_2 op_nilChk' nilChk_ptr op_lit' litParts_1 lit_int lit_agg5 lit_agg2 okV_s okH_s okVH_s ev_t ev_c putD_s putD_n nth_same nth_other startTm_1 startTm_2 startTm_3 startTm_4 startTm_5 startTm_6 startTm_nil evs_nil evs_cons pick_b bin_int bin_str int_add int_sub int_eql int_neq int_lss int_leq int_gtr int_geq str_eql str_neq un_not conv_int len_str len_nils len_lst len_clip len_row want_tt want_ff want_t bindO_some field_agg get_new_s get_new_o get_set_s get_set_o new_mk set_mk get_mk setR_zero setR_cons over_cons over_nil next_mk faddr_ptr faddr_vptr1 load_ptr load_vptrI load_vptrS load_vptrL load_vptrA load_enc load_encL load_encV load_encI loadAt_box grab_1 grab_A box_agg store_ptr storeAt_box cells_agg cells_int cells_bool cells_str cells_lst cells_nils cells_row lies_agg lies_int lies_bool lies_str lies_lst lies_nils lies_row Tr.get_put_same Tr.get_put_other res_nil res_tmp res_cell one_1 one_2 frz_int frz_bool frz_str frz_lst frz_clip frz_nils frz_tupS frz_aggS frz_fn norm_int norm_bool norm_str norm_nils norm_lst norm_clip norm_agg norm_tup norms_nil norms_cons max2 FQ_ret FQ_normal FQ_panic cond_true cond_false decide_true decide_false Bool.not_true Bool.not_false List.getElem?_cons_zero List.getElem?_cons_succ List.length_cons List.length_nil List.length_map List.map_cons List.map_nil List.drop_zero List.take_succ_cons List.take_zero List.drop_succ_cons Nat.zero_add Nat.add_zero Option.some.injEq exists_eq_left' exists_eq_left AOut.ret.injEq AOut.pan.injEq AV.int.injEq AV.bool.injEq ne_eq not_true_eq_false not_false_eq_true true_and and_true Nat.le_refl eq_self

theorem lit_agg5' (h : AH) (a b c d e a' b' c' d' e' : AV) : evLit true true 5 [a', b', c', d', e'] 1 [(0, 5, .agg [a, b, c, d, e])] h = .val (.clip [.agg [a, b, c, d, e]]) h := lit_agg5 h a b c d e a' b' c' d' e'

theorem run3 (call : CallF) (n : Nat) (k i : Int) (nm : ByteArray) (ls : List LL) (ks : List T) (vars : List Int) (bF : Bool) (e7 : Int) (r : T × Int)
    (h8 : ∀ h, call (.fn 8 [] []) [] .no h = some (.ret (.bool true), .no, h))
    (h6 : ∀ h, call (.fn 6 [] []) [.clip [.agg [.int .i64 k, .int .i64 i, .str nm, .lst (ls.map encL), .lst (ks.map enc)]]] .no h = some (.ret (.bool bF), .no, h))
    (h7 : bF = true → ∀ h, call (.fn 7 [] []) [.agg [.int .i64 k, .int .i64 i, .str nm, .lst (ls.map encL), .lst (ks.map enc)], .int .i64 1000, .int .i64 8, .int .i64 65536, .int .i64 65536] .no h = some (.ret (.int .i64 e7), .no, h))
    (h9 : vars.length ≤ 20 → bF = true → e7 = 0 → ∀ h, call (.fn 9 [] []) [.lst (vars.map encI), .agg [.int .i64 k, .int .i64 i, .str nm, .lst (ls.map encL), .lst (ks.map enc)]] .no h = some (.ret (.tup [enc r.1, .int .i64 r.2]), .no, h))
    (h10 : vars.length ≤ 20 → bF = true → e7 = 0 → ∀ h, call (.fn 10 [] []) [.lst (vars.map encI), .agg [.int .i64 k, .int .i64 i, .str nm, .lst (ls.map encL), .lst (ks.map enc)]] .no h = some (.ret (.tup [enc r.1, .int .i64 r.2]), .no, h))
    (h11 : vars.length ≤ 20 → bF = true → e7 = 0 → ∀ h, call (.fn 11 [] []) [enc r.1, enc r.1] .no h = some (.ret (.bool true), .no, h)) :
    R call n [.code b3] (FQ r3 (.ret (.bool true))) .normal ⟨startTm [.lst (vars.map encI), enc (.mk k i nm ls ks)], ⟨[], .no, none, 3⟩⟩ emptyH := by
  rw [enc_eq]
  unfold b3 emptyH
  simp only [go_sem, Nat.reduceAdd, reduceCtorEq, s3_3]
  cases hl : decide ((20 : Int) < (vars.length : Int)) with
  | true => simp only [go_sem, Nat.reduceEqDiff, h8, r3]
  | false =>
    have hl' : vars.length ≤ 20 := by simp at hl; omega
    simp only [go_sem, Nat.reduceEqDiff, Nat.reduceAdd, Nat.reduceMul, h6]
    cases bF with
    | false => simp only [go_sem, Nat.reduceEqDiff, h8, r3]
    | true =>
      have h7 := h7 rfl
      simp only [go_sem, Nat.reduceEqDiff, Nat.reduceAdd, h7]
      by_cases he : e7 = 0
      · have he' : decide (e7 = 0) = true := by simpa using he
        have h9 := h9 hl' rfl he
        have h10 := h10 hl' rfl he
        have h11 := h11 hl' rfl he
        have hep := enc_parts r.1
        rw [hep] at h9 h10 h11
        simp only [go_sem, Nat.reduceEqDiff, Nat.reduceAdd, reduceCtorEq, he', s3_2, h9, s3_1, h10, s3_0, h11, h8, r3]
      · have he' : decide (e7 = 0) = false := by simpa using he
        simp only [go_sem, he', h8, r3]

end Go.Proofs.YtnacljdablhbgaaGreat
