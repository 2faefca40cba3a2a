/- UnifyInverts: small functions of the program (no condition). -/
import Derived.Test.YtnacljdablhbgaaGreatCd
namespace Go.Proofs.YtnacljdablhbgaaGreat
open Go.AG
attribute [local go_sem] R_draw RD_nil RD_mv RD_pick RD_build RD_litT RD_load RD_store RD_nilChk RD_bin RD_un RD_mkFn RD_slice RD_faddr RD_field RD_iaddr RD_extract RD_len RD_append RD_call RD_new dE_eq dC_still dC_still0 dC_reads dC_reads0 dC_acts dC_acts0 dS_val dV_val dA_val dA_call dK_ret wants_n wants_s births_n births_c birth_new birth_mv birth_pick birth_build birth_lit birth_load birth_store birth_nilChk birth_bin birth_un birth_mkFn birth_slice birth_faddr birth_field birth_iaddr birth_extract birth_builtin birth_call ite_lohi ite_01 ite_02 ite_12 ite_23 ite_13 ite_03 rdsOk_nil rdsOk_cons rdOk_nil rdOk_cons sameVal_val beq_ptr beq_row beq_int beq_enc beq_lstT beq_lstL List.append_eq List.nil_append List.cons_append Bool.true_or Bool.or_true Bool.false_or Bool.or_false Bool.true_and Bool.and_true Bool.false_and Bool.and_false Bool.not_not R_nil R_skip R_seq R_region R_scope R_exit R_ret R_block R_cond sB_true sB_false R_code_exit R_code_ret R_code_panic R_ops_exit R_ops_ret R_ops_panic R_out_normal R_out_ret R_out_panic R_out_same R_out_other R_ops_nil R_op R_opg sG_true sG_false sR_val sR_call sR_pan sC_ret sC_pan LQ_normal LQ_exit LQ_ret LQ_panic op_mv' op_pick' op_new' op_box' op_load' op_store' op_bin' op_un' op_convInt' op_defer' sR_dfr sX_some dfr_fn cells_fn lies_fn cells_map lies_map op_iaddrA' op_lookup' op_mapUp' op_mkMap' putAll_2 op_mkSlice' op_slice' slice_hi tupL_t nthL_eq op_faddr' op_field' op_iaddr' op_strIdx' op_arrIdx' op_extract' op_len' op_append' op_max' op_call' op_mkFn' op_build' parts_nil parts_cons build_0 build_2 op_nilChk' nilChk_ptr op_lit' litParts_1 lit_int lit_agg5 lit_agg2 okV_s okH_s okVH_s ev_t ev_c putD_s putD_n nth_same nth_other startTm_1 startTm_2 startTm_3 startTm_4 startTm_5 startTm_6 startTm_nil evs_nil evs_cons pick_b bin_int bin_str int_add int_sub int_eql int_neq int_lss int_leq int_gtr int_geq str_eql str_neq un_not conv_int len_str len_nils len_lst len_clip len_row want_tt want_ff want_t bindO_some field_agg get_new_s get_new_o get_set_s get_set_o new_mk set_mk get_mk setR_zero setR_cons over_cons over_nil next_mk faddr_ptr faddr_vptr1 load_ptr load_vptrI load_vptrS load_vptrL load_vptrA load_enc load_encL load_encV load_encI loadAt_box grab_1 grab_A box_agg store_ptr storeAt_box cells_agg cells_int cells_bool cells_str cells_lst cells_nils cells_row lies_agg lies_int lies_bool lies_str lies_lst lies_nils lies_row Tr.get_put_same Tr.get_put_other res_nil res_tmp res_cell one_1 one_2 frz_int frz_bool frz_str frz_lst frz_clip frz_nils frz_tupS frz_aggS frz_fn norm_int norm_bool norm_str norm_nils norm_lst norm_clip norm_agg norm_tup norms_nil norms_cons max2 FQ_ret FQ_normal FQ_panic cond_true cond_false decide_true decide_false Bool.not_true Bool.not_false List.getElem?_cons_zero List.getElem?_cons_succ List.length_cons List.length_nil List.length_map List.map_cons List.map_nil List.drop_zero List.take_succ_cons List.take_zero List.drop_succ_cons Nat.zero_add Nat.add_zero Option.some.injEq exists_eq_left' exists_eq_left AOut.ret.injEq AOut.pan.injEq AV.int.injEq AV.bool.injEq ne_eq not_true_eq_false not_false_eq_true true_and and_true Nat.le_refl eq_self

theorem run128 (call : CallF) (n : Nat) (kind kid : Int) : R call n [.code b128] (FQ r128 (.ret (.int .i64 (binders kind kid)))) .normal ⟨startTm [.int .i64 kind, .int .i64 kid], ⟨[], .no, none, 128⟩⟩ emptyH := by
  unfold b128 r128 emptyH
  repeat' (first | simp only [go_sem, Nat.reduceEqDiff, reduceCtorEq, *, s128_1, s128_0] | refine sG_nbool (fun _ => ?_) (fun _ => ?_) | refine sG_bool (fun _ => ?_) (fun _ => ?_) | refine sB_nbool (fun _ => ?_) (fun _ => ?_) | refine sB_bool (fun _ => ?_) (fun _ => ?_) | refine dC_nbool (fun _ => ?_) (fun _ => ?_) | refine dC_bool (fun _ => ?_) (fun _ => ?_))
  all_goals (simp_all [binders])

theorem run89 (call : CallF) (n : Nat) (x : Int) (hx : x ≤ 65535) : R call n [.code b89] (FQ r89 (.ret (enc (.mk 0 x (bs []) [] [])))) .normal ⟨startTm [.int .i64 x], ⟨[], .no, none, 89⟩⟩ emptyH := by
  have hd : decide ((65535 : Int) < x) = false := by simp; omega
  rw [enc_eq]
  unfold b89 r89 emptyH
  simp only [go_sem, Nat.reduceEqDiff, Nat.reduceAdd, reduceCtorEq, s89_1, hd, s89_0]

/-! plain: a copy of a node without its kids -/
def Inner (h : AH) (x : AV) (l : LL) : Prop := ∃ y, x = .agg [.int .i64 l.c, y] ∧ Own 3 2 true h y (l.vars.map encV)

theorem frz_encV (m : Nat) (h : AH) (b : Nat) (x : LV) : frz m h b (encV x) = encV x := by
  cases m with
  | zero => rfl
  | succ m => rw [encV, frz_aggS]; simp [frz_int]

structure J87 (k i : Int) (nm : ByteArray) (ls : List LL) (ks : List T) (h : AH) (m : Nat) (v : AV) (out : List AV) : Prop where
  b0 : h.get 0 = some (.box [.int .i64 k, .int .i64 i, .str nm, .lst (ls.map encL), .lst (ks.map enc)])
  b1 : h.get 1 = some (.box [.int .i64 0, .int .i64 0, .str (bs []), .nils, .nils])
  b2 : h.get 2 = some (.box [.int .i64 k, .int .i64 i, .str nm, v, .nils])
  nx : 3 ≤ h.next
  own : Own 3 2 true h v out
  len : out.length = m
  inn : ∀ (a : Nat) x l, out[a]? = some x → ls[a]? = some l → Inner h x l
  ne : ∀ (a : Nat) c kk g n, out[a]? = some (.agg [c, .row kk g 2 0 n]) → kk < h.next ∧ ∀ g' n', v ≠ .row kk g' 2 0 n'

def I87 (k i : Int) (nm : ByteArray) (ls : List LL) (ks : List T) (j : Nat) (fr : AF) (h : AH) : Prop := ∃ tm m v out, m + j = ls.length ∧ fr = ⟨tm, ⟨[], .no, none, 87⟩⟩ ∧
  nth tm 2 = .ptr 1 0 0 ∧ nth tm 3 = .ptr 2 0 0 ∧ nth tm 14 = .lst (ls.map encL) ∧ nth tm 15 = .int .i64 (ls.length : Int) ∧ nth tm 16 = .int .i64 (m : Int) ∧ J87 k i nm ls ks h m v out

theorem append_vars (h : AH) (l : List LV) (hl : l.length ≤ 20) (hb : 3 ≤ h.next) :
    ∃ y h', evAppend h 2 true [.int .i64 0, .int .i64 0] 16 .nils (.lst (l.map encV)) = some (y, h') ∧ Own 3 2 true h' y (l.map encV) ∧ h.next ≤ h'.next ∧ (∀ k, k < h.next → h'.get k = h.get k) ∧ (∀ kk g n, y = .row kk g 2 0 n → h.next ≤ kk ∧ kk < h'.next) := by
  have e0 : evAppend h 2 true [.int .i64 0, .int .i64 0] 16 .nils (.lst (l.map encV)) = List.casesOn (l.map encV) (appNone .nils h) fun y ys => appSome .nils h 2 true 16 (y :: ys) := by
    show bindO (cond (sized 2 (l.map encV)) (some (l.map encV)) none) _ = _
    rw [sized_map encV_cells, cond_true, bindO_some]
    rw [allLie_map (fun _ => rfl)]; rfl
  have hall : ∀ x ∈ l.map encV, x.cells.length = 2 ∧ x.isAgg = true := by
    intro x hx
    obtain ⟨z, _, rfl⟩ := List.mem_map.1 hx
    exact ⟨rfl, rfl⟩
  rw [e0]
  cases l with
  | nil => exact ⟨.nils, h, rfl, ⟨by simp, .inl ⟨rfl, rfl⟩⟩, Nat.le_refl _, fun _ _ => rfl, fun _ _ _ e => by cases e⟩
  | cons a l =>
    obtain ⟨q, hq⟩ : ∃ q, q = len (encV a :: l.map encV) := ⟨_, rfl⟩
    have hq' : q = l.length + 1 := by rw [hq, len_eq, List.length_cons, List.length_map]
    have hn : need 0 q 16 = true := by
      show and (Nat.ble ((2 * (0 + q) + 1000) * 16) 140737488355328) (Nat.ble (0 + q) 9223372036854775807) = true
      simp only [List.length_cons] at hl
      have h1 : (2 * (0 + q) + 1000) * 16 ≤ 140737488355328 := by omega
      have h2 : 0 + q ≤ 9223372036854775807 := by omega
      rw [ble_t h1, ble_t h2]; rfl
    refine ⟨.row h.next 0 2 0 q, h.new (.row 0 2 true (flat (encV a :: l.map encV)) 0), ?_, ⟨hall, .inr ⟨h.next, 0, ?_, ?_, ?_, hb⟩⟩, ?_, fun k hk => ?_, fun kk g n e => ?_⟩
    · show cond (need 0 (len (encV a :: l.map encV)) 16) (some (AV.row h.next 0 2 0 (len (encV a :: l.map encV)), h.new (.row 0 2 true (flat (encV a :: l.map encV)) 0))) none = _
      rw [← hq, hn]; rfl
    · rw [hq']; simp
    · rw [get_new, if_pos rfl]; rfl
    · rw [next_new]; omega
    · rw [next_new]; omega
    · rw [get_new, if_neg (by omega)]
    · cases e; rw [next_new]; omega


theorem frzL (m : Nat) (h : AH) (x : AV) (l : LL) (hi : Inner h x l) : (frz (m + 2) h 0 x).norm = encL l := by
  obtain ⟨y, rfl, ho⟩ := hi
  rw [frz_aggS]
  have hf : (frz (m + 1) h 0 y).norm = .lst (AV.norms (l.vars.map encV)) := own_frz ho (fun h => by cases h) (fun x hx => by obtain ⟨z, _, rfl⟩ := List.mem_map.1 hx; exact frz_encV _ _ _ _)
  simp only [List.map_cons, List.map_nil, frz_int, norm_agg, norms_cons, norms_nil, norm_int, hf, encV_norms]
  rfl

theorem own_frzL {base sz m : Nat} {agg : Bool} {h : AH} {v : AV} {out : List AV} (o : Own base sz agg h v out) (hs : agg = false → sz = 1) : (frz (m + 1) h 0 v).norm = .lst (AV.norms (out.map (frz m h 0))) := by
  obtain ⟨o1, ⟨rfl, rfl⟩ | ⟨k, g, rfl, hk, hlt, hbk⟩⟩ := o
  · show AV.nils.norm = _; simp [AV.norm, AV.norms]
  · have e : frz (m + 1) h 0 (.row k g sz 0 out.length) = .lst (out.map (frz m h 0)) := by
      show frzRow h (.row k g sz 0 out.length) k g sz 0 out.length (frz m h 0) = _
      unfold frzRow
      rw [hk, bindO_some]
      show cond (and (Nat.beq g g) (Nat.beq sz sz)) (@Option.casesOn (List AV) (fun _ => AV) (chunk agg sz out.length (drp (0 * sz) (flat out))) (AV.row k g sz 0 out.length) fun es => AV.lst (mapL (frz m h 0) es)) (AV.row k g sz 0 out.length) = _
      rw [beq_t, beq_t]
      simp only [Nat.zero_mul, drp_eq, List.drop_zero, chunk_flat hs o1, Bool.and_self, cond_true]
      rw [mapL_eq]
    rw [e]; simp [AV.norm]

theorem build_3 (h : AH) (a b c d e : AV) (x y : Int) (s : ByteArray) : evBuild h [a, b, c, d, e] [(0, 1, .int .i64 x), (1, 1, .int .i64 y), (2, 1, .str s)] = .val (.agg [.int .i64 x, .int .i64 y, .str s, d, e]) h := (rfl)
theorem build_L (h : AH) (a b y : AV) (x : Int) (hy : y = .nils ∨ ∃ k g n, y = .row k g 2 0 n) : evBuild h [a, b] [(0, 1, .int .i64 x), (1, 1, y)] = .val (.agg [.int .i64 x, y]) h := by
  rcases hy with rfl | ⟨k, g, n, rfl⟩ <;> rfl

theorem inner_keep {h h' : AH} {x : AV} {l : LL} (hi : Inner h x l) (hn : h.next ≤ h'.next) (hk : ∀ kk g n, x = .agg [.int .i64 l.c, .row kk g 2 0 n] → h'.get kk = h.get kk) : Inner h' x l := by
  obtain ⟨y, rfl, o1, o2⟩ := hi
  refine ⟨y, rfl, o1, ?_⟩
  rcases o2 with ⟨rfl, ho⟩ | ⟨k, g, rfl, q1, q2, q3⟩
  · exact .inl ⟨rfl, ho⟩
  · exact .inr ⟨k, g, rfl, by rw [hk k g _ rfl]; exact q1, by omega, q3⟩

theorem run87 (call : CallF) (n : Nat) (k i : Int) (nm : ByteArray) (ls : List LL) (ks : List T) (hn : ls.length < n) (hl : ls.length ≤ 20) (hv : ∀ x ∈ ls, x.vars.length ≤ 20) :
    R call n [.code b87] (FQ r87 (.ret (enc (.mk k i nm ls [])))) .normal ⟨startTm [enc (.mk k i nm ls ks)], ⟨[], .no, none, 87⟩⟩ emptyH := by
  rw [enc_eq k i nm ls ks]
  unfold b87 emptyH
  simp only [go_sem, Nat.reduceEqDiff, Nat.reduceAdd, reduceCtorEq, s87_5, build_3, s87_4]
  refine R_loop (I87 k i nm ls ks) ls.length hn ⟨_, 0, .nils, [], Nat.zero_add _, rfl, by simp only [go_sem, Nat.reduceEqDiff], by simp only [go_sem, Nat.reduceEqDiff], by simp only [go_sem, Nat.reduceEqDiff], by simp only [go_sem, Nat.reduceEqDiff], by simp only [go_sem]; rfl, ⟨by simp only [go_sem, reduceCtorEq], by simp only [go_sem, Nat.reduceEqDiff], by simp only [go_sem], Nat.le_refl _, own_nil _ _ _ _, rfl, by simp, by simp⟩⟩ ?_
  rintro j fr h ⟨tm, m, v, out, hm, rfl, t2, t3, t14, t15, t16, J⟩
  obtain ⟨b0, b1, b2, nx, ho, hlen, hinn, hne⟩ := J
  unfold b87_2
  simp only [go_sem, s87_1, t15, t16]
  refine sB_dec (fun hlt => ?_) (fun hge => ?_)
  · have hlt : m < ls.length := by omega
    have hget : ls[m]? = some ls[m] := List.getElem?_eq_getElem hlt
    have ha := fun h => iaddr_map encL_cells hget .i64 h
    have hel : encL ls[m] = .agg [.int .i64 ls[m].c, .lst (ls[m].vars.map encV)] := rfl
    have hw2 := wrap_succ m (by omega)
    simp only [go_sem, Nat.reduceEqDiff, Nat.reduceAdd, s87_0, t14, t16, ha, hel]
    obtain ⟨h1, hh1⟩ : ∃ h1, h1 = (h.new (.box [.int .i64 0, .nils])).set h.next (.box [.int .i64 ls[m].c, .lst (ls[m].vars.map encV)]) := ⟨_, rfl⟩
    rw [← hh1]
    have k1 : ∀ a, a < h.next → h1.get a = h.get a := fun a q => by rw [hh1, get_set_o (by omega), get_new_o (by omega)]
    have k2 : h1.get h.next = some (.box [.int .i64 ls[m].c, .lst (ls[m].vars.map encV)]) := by rw [hh1, get_set_s]
    have n1 : h1.next = h.next + 1 := by rw [hh1, next_set, next_new]
    clear hh1
    obtain ⟨y, h2, e2, o2, n2, q2, r2⟩ := append_vars h1 ls[m].vars (hv _ (List.getElem_mem hlt)) (by omega)
    obtain ⟨y1, y2⟩ := own_shape o2
    have ho2 : Own 3 2 true h2 v out := own_keep ho (by omega) (fun a q1 q2' => by rw [q2 a (by omega), k1 a q2'])
    obtain ⟨v3, h3, e3, o3, n3, k3, _, _, s3, kk, gg, hv3, u1, u2⟩ := own_append (x := .agg [.int .i64 ls[m].c, y]) (z := [.int .i64 0, .nils]) (bytes := 32) ho2 (by omega) rfl rfl rfl rfl (by omega) (by decide)
    obtain ⟨v1, v2⟩ := own_shape o3
    have c2 : h1.get 2 = some (.box [.int .i64 k, .int .i64 i, .str nm, v, .nils]) := by rw [k1 2 (by omega)]; exact b2
    have d2 : h2.get 2 = some (.box [.int .i64 k, .int .i64 i, .str nm, v, .nils]) := by rw [q2 2 (by omega)]; exact c2
    have d3 : h2.get h.next = some (.box [.int .i64 ls[m].c, .lst (ls[m].vars.map encV)]) := by rw [q2 _ (by omega)]; exact k2
    have f2 : h3.get 2 = some (.box [.int .i64 k, .int .i64 i, .str nm, v, .nils]) := by rw [k3 2 (by decide)]; exact d2
    have hys : y = .nils ∨ ∃ k g n, y = .row k g 2 0 n := by
      obtain ⟨_, ⟨rfl, _⟩ | ⟨k, g, rfl, _⟩⟩ := o2
      · exact .inl rfl
      · exact .inr ⟨_, _, _, rfl⟩
    have hb := build_L h2 (.int .i64 0) .nils y ls[m].c hys
    have hvb : AV.beq v v = true := by
      obtain ⟨_, ⟨rfl, _⟩ | ⟨k, g, rfl, _⟩⟩ := ho
      · rfl
      · exact beq_row _ _ _ _ _
    simp only [go_sem, Nat.reduceEqDiff, Nat.reduceAdd, Nat.reduceMul, Nat.reduceLeDiff, Nat.reduceLT, t3, c2, k2, e2, hb, e3, f2, v1, v2, d2, d3, hvb, hw2, t16]
    have vlt : ∀ kk' g n', v = .row kk' g 2 0 n' → kk' < h.next := by
      intro kk' g n' e
      obtain ⟨_, ⟨rfl, _⟩ | ⟨k, g, rfl, _, q, _⟩⟩ := ho
      · cases e
      · cases e; exact q
    have g4 : ∀ a, 3 ≤ a → a < h2.next → (∀ g n', v ≠ .row a g 2 0 n') → (h3.set 2 (.box [.int .i64 k, .int .i64 i, .str nm, v3, .nils])).get a = h2.get a := fun a q1 q3 q4 => by rw [get_set_o (by omega), s3 a q3 q4]
    have v3ne : ∀ a, a < h2.next → (∀ g n', v ≠ .row a g 2 0 n') → ∀ g' n', v3 ≠ .row a g' 2 0 n' := by
      intro a q1 q3 g' n' e
      rw [hv3] at e
      cases e
      obtain ⟨_, ⟨rfl, _⟩ | ⟨k', g, rfl, _⟩⟩ := ho
      · have := u1 rfl; omega
      · have := u2 _ _ _ rfl
        exact q3 g _ (by rw [this])
    refine ⟨j - 1, by omega, _, m + 1, v3, out ++ [.agg [.int .i64 ls[m].c, y]], by omega, rfl, by simp only [go_sem, Nat.reduceEqDiff, *], by simp only [go_sem, Nat.reduceEqDiff, *], by simp only [go_sem, Nat.reduceEqDiff, *], by simp only [go_sem, Nat.reduceEqDiff, *], by simp only [go_sem, *], ⟨?_, ?_, get_set_s _ _ _, by rw [next_set]; omega, own_keep o3 (by rw [next_set]; exact Nat.le_refl _) (fun a q1 _ => get_set_o (by omega)), by simp [hlen], fun a x l hx hl' => ?_, fun a c kk' g n' hx => ?_⟩⟩
    · rw [get_set_o (by decide), k3 0 (by decide), q2 0 (by omega), k1 0 (by omega)]; exact b0
    · rw [get_set_o (by decide), k3 1 (by decide), q2 1 (by omega), k1 1 (by omega)]; exact b1
    · rcases Nat.lt_or_ge a out.length with q | q
      · rw [List.getElem?_append_left q] at hx
        refine inner_keep (hinn a x l hx hl') (by rw [next_set]; omega) (fun kk' g n' e => ?_)
        subst e
        obtain ⟨p1, p2⟩ := hne a _ kk' g n' hx
        obtain ⟨y', ey, _, ⟨rfl, _⟩ | ⟨k'', g'', rfl, _, _, p3⟩⟩ := hinn a _ l hx hl'
        · cases ey
        · cases ey
          rw [g4 kk' p3 (by omega) p2, q2 _ (by omega), k1 _ p1]
      · rw [List.getElem?_append_right q] at hx
        have h0 : a - out.length = 0 := by
          rcases Nat.eq_zero_or_pos (a - out.length) with h | h
          · exact h
          · rw [List.getElem?_eq_none (by simp; omega)] at hx; cases hx
        rw [h0] at hx
        simp at hx
        subst hx
        have : a = m := by omega
        subst this
        rw [hget] at hl'; cases hl'
        refine ⟨y, rfl, o2.1, ?_⟩
        rcases o2.2 with ⟨rfl, ho⟩ | ⟨k'', g'', rfl, w1, w2, w3⟩
        · exact .inl ⟨rfl, ho⟩
        · have w4 := r2 _ _ _ rfl
          refine .inr ⟨k'', g'', rfl, ?_, by rw [next_set]; omega, w3⟩
          rw [g4 k'' w3 w2 (fun g n' e => by have := vlt _ _ _ e; omega)]; exact w1
    · rcases Nat.lt_or_ge a out.length with q | q
      · rw [List.getElem?_append_left q] at hx
        obtain ⟨p1, p2⟩ := hne a c kk' g n' hx
        exact ⟨by rw [next_set]; omega, v3ne kk' (by omega) p2⟩
      · rw [List.getElem?_append_right q] at hx
        have h0 : a - out.length = 0 := by
          rcases Nat.eq_zero_or_pos (a - out.length) with h | h
          · exact h
          · rw [List.getElem?_eq_none (by simp; omega)] at hx; cases hx
        rw [h0] at hx
        simp at hx
        have w4 := r2 kk' g n' hx.2
        exact ⟨by rw [next_set]; omega, v3ne kk' (by omega) (fun g n' e => by have := vlt _ _ _ e; omega)⟩
  · have : m = ls.length := by omega
    subst this
    obtain ⟨v1, v2⟩ := own_shape ho
    simp only [go_sem, Nat.reduceEqDiff, Nat.reduceAdd, s87_3, t2, t3, b1, b2, r87]
    have hf := own_frzL (m := 2) ho (fun h => by cases h)
    obtain ⟨h4, hh4⟩ : ∃ h4, h4 = h.set 1 (.box [.int .i64 k, .int .i64 i, .str nm, v, .nils]) := ⟨_, rfl⟩
    have o4 : Own 3 2 true h4 v out := own_keep ho (by rw [hh4, next_set]; exact Nat.le_refl _) (fun a q1 _ => by rw [hh4]; exact get_set_o (by omega))
    have i4 : ∀ (a : Nat) x l, out[a]? = some x → ls[a]? = some l → Inner h4 x l := fun a x l hx hl' => inner_keep (hinn a x l hx hl') (by rw [hh4, next_set]; exact Nat.le_refl _) (fun kk' g n' e => by
      subst e
      obtain ⟨y', ey, _, ⟨rfl, _⟩ | ⟨k'', g'', rfl, _, _, p3⟩⟩ := hinn a _ l hx hl'
      · cases ey
      · cases ey; rw [hh4]; exact get_set_o (by omega))
    have hf := own_frzL (m := 2) o4 (fun h => by cases h)
    have hout : AV.norms (out.map (frz 2 h4 0)) = ls.map encL := by
      apply List.ext_getElem?
      intro a
      rw [norms_map, List.getElem?_map, List.getElem?_map, List.getElem?_map]
      rcases Nat.lt_or_ge a ls.length with q | q
      · have e1 : out[a]? = some (out[a]'(by omega)) := List.getElem?_eq_getElem (by omega)
        have e2 : ls[a]? = some ls[a] := List.getElem?_eq_getElem q
        have := frzL 0 h4 _ _ (i4 a _ _ e1 e2)
        rw [e1, e2]
        simp only [Option.map_some, this]
      · rw [List.getElem?_eq_none (by omega), List.getElem?_eq_none (by omega)]; rfl
    rw [hout] at hf
    rw [← hh4, enc_eq, hf]; simp

end Go.Proofs.YtnacljdablhbgaaGreat

/- UnifyInverts: the closures of the program's renaming (no condition). -/
namespace Go.Proofs.YtnacljdablhbgaaGreat
open Go.AG
attribute [local go_sem] R_draw RD_nil RD_mv RD_pick RD_build RD_litT RD_load RD_store RD_nilChk RD_bin RD_un RD_mkFn RD_slice RD_faddr RD_field RD_iaddr RD_extract RD_len RD_append RD_call RD_new dE_eq dC_still dC_still0 dC_reads dC_reads0 dC_acts dC_acts0 dS_val dV_val dA_val dA_call dK_ret wants_n wants_s births_n births_c birth_new birth_mv birth_pick birth_build birth_lit birth_load birth_store birth_nilChk birth_bin birth_un birth_mkFn birth_slice birth_faddr birth_field birth_iaddr birth_extract birth_builtin birth_call ite_lohi ite_01 ite_02 ite_12 ite_23 ite_13 ite_03 rdsOk_nil rdsOk_cons rdOk_nil rdOk_cons sameVal_val beq_ptr beq_row beq_int beq_enc beq_lstT beq_lstL List.append_eq List.nil_append List.cons_append Bool.true_or Bool.or_true Bool.false_or Bool.or_false Bool.true_and Bool.and_true Bool.false_and Bool.and_false Bool.not_not R_nil R_skip R_seq R_region R_scope R_exit R_ret R_block R_cond sB_true sB_false R_code_exit R_code_ret R_code_panic R_ops_exit R_ops_ret R_ops_panic R_out_normal R_out_ret R_out_panic R_out_same R_out_other R_ops_nil R_op R_opg sG_true sG_false sR_val sR_call sR_pan sC_ret sC_pan LQ_normal LQ_exit LQ_ret LQ_panic op_mv' op_pick' op_new' op_box' op_load' op_store' op_bin' op_un' op_convInt' op_defer' sR_dfr sX_some dfr_fn cells_fn lies_fn cells_map lies_map op_iaddrA' op_lookup' op_mapUp' op_mkMap' putAll_2 op_mkSlice' op_slice' slice_hi tupL_t nthL_eq op_faddr' op_field' op_iaddr' op_strIdx' op_arrIdx' op_extract' op_len' op_append' op_max' op_call' op_mkFn' op_build' parts_nil parts_cons build_0 build_2 op_nilChk' nilChk_ptr op_lit' litParts_1 lit_int lit_agg5 lit_agg2 okV_s okH_s okVH_s ev_t ev_c putD_s putD_n nth_same nth_other startTm_1 startTm_2 startTm_3 startTm_4 startTm_5 startTm_6 startTm_nil evs_nil evs_cons pick_b bin_int bin_str int_add int_sub int_eql int_neq int_lss int_leq int_gtr int_geq str_eql str_neq un_not conv_int len_str len_nils len_lst len_clip len_row want_tt want_ff want_t bindO_some field_agg get_new_s get_new_o get_set_s get_set_o new_mk set_mk get_mk setR_zero setR_cons over_cons over_nil next_mk faddr_ptr faddr_vptr1 load_ptr load_vptrI load_vptrS load_vptrL load_vptrA load_enc load_encL load_encV load_encI loadAt_box grab_1 grab_A box_agg store_ptr storeAt_box cells_agg cells_int cells_bool cells_str cells_lst cells_nils cells_row lies_agg lies_int lies_bool lies_str lies_lst lies_nils lies_row Tr.get_put_same Tr.get_put_other res_nil res_tmp res_cell one_1 one_2 frz_int frz_bool frz_str frz_lst frz_clip frz_nils frz_tupS frz_aggS frz_fn norm_int norm_bool norm_str norm_nils norm_lst norm_clip norm_agg norm_tup norms_nil norms_cons max2 FQ_ret FQ_normal FQ_panic cond_true cond_false decide_true decide_false Bool.not_true Bool.not_false List.getElem?_cons_zero List.getElem?_cons_succ List.length_cons List.length_nil List.length_map List.map_cons List.map_nil List.drop_zero List.take_succ_cons List.take_zero List.drop_succ_cons Nat.zero_add Nat.add_zero Option.some.injEq exists_eq_left' exists_eq_left AOut.ret.injEq AOut.pan.injEq AV.int.injEq AV.bool.injEq ne_eq not_true_eq_false not_false_eq_true true_and and_true Nat.le_refl eq_self

theorem SV.up {w w' : Nat} {to : List Int} {V : AV} {h h' : AH} (s : SV w to V h) (hw : h.next ≤ w') (hn : h.next ≤ h'.next) (hk : ∀ k, k < h.next → h'.get k = h.get k) : SV w' to V h' := by
  rcases s with ⟨rfl, rfl⟩ | ⟨k, g, rfl, q1, q2, q3⟩
  · exact .inl ⟨rfl, rfl⟩
  · exact .inr ⟨k, g, rfl, by rw [hk k q2]; exact q1, by omega, by omega⟩

/- a term, made anew; the memory is as it was -/
structure GV (r : T) (h : AH) (v : AV) (h' : AH) : Prop where
  next : h.next ≤ h'.next
  low : h'.low = h.low
  objs : h'.objs = h.objs
  val : ∃ x1 x2 x3 x4 x5, v = .agg [x1, x2, x3, x4, x5] ∧ (AV.agg [x1, x2, x3, x4, x5]).norm = enc r ∧ ∀ m h b, frz m h b (.agg [x1, x2, x3, x4, x5]) = .agg [x1, x2, x3, x4, x5]

theorem frz_encT (m : Nat) (h : AH) (b : Nat) (k i : Int) (nm : ByteArray) (ls : List LL) (ks : List T) : frz m h b (.agg [.int .i64 k, .int .i64 i, .str nm, .lst (ls.map encL), .lst (ks.map enc)]) = .agg [.int .i64 k, .int .i64 i, .str nm, .lst (ls.map encL), .lst (ks.map enc)] :=
  frzT m h b _ _ _ _ _ (fun m => frz_lst m b _) (fun m => frz_lst m b _)
theorem norm_encT (k i : Int) (nm : ByteArray) (ls : List LL) (ks : List T) : (AV.agg [.int .i64 k, .int .i64 i, .str nm, .lst (ls.map encL), .lst (ks.map enc)]).norm = enc (.mk k i nm ls ks) := by rw [← enc_eq, enc_norm]

theorem call86 (call : CallF) (n : Nat) (i d : Int) (nm : ByteArray) (ls : List LL) (to : List Int) (V : AV) (kb : Nat) (h : AH) (hkb : h.get kb = some (.box [V])) (hkl : kb < h.next) (hV : SV h.next to V h)
    (hi0 : 0 ≤ i) (hi1 : i - d < 1000) (hd0 : 0 ≤ d) (hd1 : d ≤ 5000) (hto : ∀ x ∈ to, x ≤ 1000) (hok : d ≤ i → 0 ≤ sg to (i - d))
    (h87 : ∀ h, call (.fn 87 [] []) [.agg [.int .i64 0, .int .i64 i, .str nm, .lst (ls.map encL), .lst (([] : List T).map enc)]] .no h = some (.ret (enc (.mk 0 i nm ls [])), .no, h))
    (h89 : ∀ x, x ≤ 65535 → ∀ h, call (.fn 89 [] []) [.int .i64 x] .no h = some (.ret (enc (.mk 0 x (bs []) [] [])), .no, h)) :
    ∃ v h', evFn EI call n 86 [enc (.mk 0 i nm ls []), .int .i64 d, .ptr kb 0 0] .no h = some (.ret v, .no, h') ∧ GV (ren to (.mk 0 i nm ls []) d) h v h' := by
  refine evFn_H cf86 (pureI _) ?_
  rw [enc_eq] at h87
  have n1 : ¬ (h.next = h.next + 1) := by omega
  rw [enc_eq]
  unfold b86
  simp only [go_sem, Nat.reduceAdd, reduceCtorEq]
  obtain ⟨H, hH⟩ : ∃ H : AH, H = ⟨h.next + 1 + 1, h.next, (h.objs.put h.next (.box [.int .i64 0, .int .i64 i, .str nm, .lst (ls.map encL), .lst []])).put (h.next + 1) (.box [.int .i64 0, .int .i64 0, .str (bs []), .nils, .nils])⟩ := ⟨_, rfl⟩
  rw [← hH]
  have g3 : H.get h.next = some (.box [.int .i64 0, .int .i64 i, .str nm, .lst (ls.map encL), .lst []]) := by subst hH; simp only [go_sem, n1]
  have g5 : H.get (h.next + 1) = some (.box [.int .i64 0, .int .i64 0, .str (bs []), .nils, .nils]) := by subst hH; simp only [go_sem]
  have gk : ∀ k, k < h.next → H.get k = h.get k := by
    intro k hk
    subst hH
    rw [get_mk, Tr.get_put_other _ _ (by omega), Tr.get_put_other _ _ (by omega)]; rfl
  have gn : H.next = h.next + 2 := by subst hH; rfl
  have gl : H.low = h.next := by subst hH; rfl
  clear hH
  have gb : H.get kb = some (.box [V]) := by rw [gk kb hkl]; exact hkb
  have svH : SV h.next to V H := hV.keep (by omega) (fun k _ hk => gk k hk)
  have lenV := svH.len
  have hw1 : IntKind.wrap .i64 (i - d) = i - d := wrap_fits _ (by omega) (by omega)
  have h87 : ∀ h, call (.fn 87 [] []) [.agg [.int .i64 0, .int .i64 i, .str nm, .lst (ls.map encL), .lst []]] .no h = some (.ret (.agg [.int .i64 0, .int .i64 i, .str nm, .lst (ls.map encL), .lst (([] : List T).map enc)]), .no, h) := h87
  simp only [go_sem, Nat.reduceEqDiff, s86_3, g3, hw1, s86_2]
  refine sB_dec (fun hlt => ?_) (fun hge => ?_)
  · simp only [go_sem, Nat.reduceEqDiff, Nat.reduceAdd, g3, g5, h87]
    refine HQ_keep (.inr rfl) (by rw [low_set]; exact le_minN (by omega) (by omega)) (by simp only [go_sem, Nat.reduceEqDiff, Nat.reduceAdd, r86]; rfl) ?_
    rw [one_1]
    have hr : ren to (.mk 0 i nm ls []) d = .mk 0 i nm ls [] := by simp [ren, show i < d by omega]
    rw [hr]
    exact ⟨by simp only [next_set]; omega, rfl, rfl, _, _, _, _, _, frz_encT 4 _ _ 0 i nm ls [], norm_encT 0 i nm ls [], fun m h b => frz_encT m h b 0 i nm ls []⟩
  · obtain ⟨a, ha⟩ : ∃ a : Nat, i - d = (a : Int) := ⟨(i - d).toNat, by omega⟩
    have hsg := hok (by omega)
    rw [ha] at hsg
    have hal : a < to.length := by
      rcases Nat.lt_or_ge a to.length with q | q
      · exact q
      · rw [sg_out rfl q] at hsg; omega
    have hta := sg_in (to := to) (y := (a : Int)) rfl hal
    rw [hta] at hsg
    obtain ⟨pp, hia, hld⟩ := svH.read hal
    have hle := hto to[a] (List.getElem_mem hal)
    have hb1 : decide ((to.length : Int) ≤ (a : Int)) = false := by simp; omega
    have hb2 : decide (to[a] < 0) = false := by simp; omega
    have hw2 : IntKind.wrap .i64 (65535 - d) = 65535 - d := wrap_fits _ (by omega) (by omega)
    have hb3 : decide (65535 - d < to[a]) = false := by simp; omega
    have hw3 : IntKind.wrap .i64 (to[a] + d) = to[a] + d := wrap_fits _ (by omega) (by omega)
    have h89 := h89 (to[a] + d) (by omega)
    rw [enc_eq] at h89
    simp only [go_sem, Nat.reduceEqDiff, Nat.reduceAdd, s86_1, ha, gb, lenV, hb1, hia, hld, hb2, hw2, hb3, s86_0, hw3, h89, g5]
    refine HQ_keep (.inr rfl) (by rw [low_set]; exact le_minN (by omega) (by omega)) (by simp only [go_sem, Nat.reduceEqDiff, Nat.reduceAdd, r86]; rfl) ?_
    rw [one_1]
    have hr : ren to (.mk 0 i nm ls []) d = .mk 0 (to[a] + d) (bs []) [] [] := by simp [ren, show ¬ i < d by omega, ha, hta]
    rw [hr]
    exact ⟨by simp only [next_set]; omega, rfl, rfl, _, _, _, _, _, frz_encT 4 _ _ 0 _ _ [] [], norm_encT 0 _ _ [] [], fun m h b => frz_encT m h b 0 _ _ [] []⟩


/- a node, and whether it is done -/
structure G127 (to : List Int) (k i : Int) (nm : ByteArray) (ls : List LL) (ks : List T) (d : Int) (h : AH) (v : AV) (h' : AH) : Prop where
  next : h.next ≤ h'.next
  low : h'.low = h.low
  objs : h'.objs = h.objs
  var : k = 0 → ∃ x1 x2 x3 x4 x5, v = .tup [.agg [x1, x2, x3, x4, x5], .bool true] ∧ (AV.agg [x1, x2, x3, x4, x5]).norm = enc (ren to (.mk k i nm ls ks) d) ∧ ∀ m h b, frz m h b (.agg [x1, x2, x3, x4, x5]) = .agg [x1, x2, x3, x4, x5]
  node : ¬ k = 0 → v = .tup [.agg [.int .i64 k, .int .i64 i, .str nm, .lst (ls.map encL), .lst []], .bool false]

theorem call127 (call : CallF) (n : Nat) (k i d : Int) (nm : ByteArray) (ls : List LL) (ks : List T) (to : List Int) (kf kb : Nat) (h : AH) (hkf : h.get kf = some (.box [.fn 86 [] [.ptr kb 0 0]])) (hkl : kf < h.next)
    (c86 : k = 0 → ∀ H : AH, h.next ≤ H.next → (∀ a, a < h.next → H.get a = h.get a) → ∃ v h', call (.fn 86 [] [.ptr kb 0 0]) [.agg [.int .i64 k, .int .i64 i, .str nm, .lst (ls.map encL), .lst (ks.map enc)], .int .i64 d] .no H = some (.ret v, .no, h') ∧ GV (ren to (.mk k i nm ls ks) d) H v h')
    (h87 : ∀ h, call (.fn 87 [] []) [.agg [.int .i64 k, .int .i64 i, .str nm, .lst (ls.map encL), .lst (ks.map enc)]] .no h = some (.ret (enc (.mk k i nm ls [])), .no, h)) :
    ∃ v h', evFn EI call n 127 [enc (.mk k i nm ls ks), .int .i64 d, .ptr kf 0 0] .no h = some (.ret v, .no, h') ∧ G127 to k i nm ls ks d h v h' := by
  refine evFn_H cf127 (pureI _) ?_
  rw [enc_eq] at h87
  have h87 : ∀ h, call (.fn 87 [] []) [.agg [.int .i64 k, .int .i64 i, .str nm, .lst (ls.map encL), .lst (ks.map enc)]] .no h = some (.ret (.agg [.int .i64 k, .int .i64 i, .str nm, .lst (ls.map encL), .lst []]), .no, h) := h87
  have n1 : ¬ (h.next = h.next + 1) := by omega
  rw [enc_eq]
  unfold b127
  simp only [go_sem, Nat.reduceAdd, reduceCtorEq]
  obtain ⟨H, hH⟩ : ∃ H : AH, H = ⟨h.next + 1 + 1, h.next, (h.objs.put h.next (.box [.int .i64 k, .int .i64 i, .str nm, .lst (ls.map encL), .lst (ks.map enc)])).put (h.next + 1) (.box [.int .i64 0, .int .i64 0, .str (bs []), .nils, .nils])⟩ := ⟨_, rfl⟩
  rw [← hH]
  have g3 : H.get h.next = some (.box [.int .i64 k, .int .i64 i, .str nm, .lst (ls.map encL), .lst (ks.map enc)]) := by subst hH; simp only [go_sem, n1]
  have g5 : H.get (h.next + 1) = some (.box [.int .i64 0, .int .i64 0, .str (bs []), .nils, .nils]) := by subst hH; simp only [go_sem]
  have gk : ∀ k, k < h.next → H.get k = h.get k := by
    intro k hk
    subst hH
    rw [get_mk, Tr.get_put_other _ _ (by omega), Tr.get_put_other _ _ (by omega)]; rfl
  have gn : H.next = h.next + 2 := by subst hH; rfl
  have gl : H.low = h.next := by subst hH; rfl
  clear hH
  have gf : H.get kf = some (.box [.fn 86 [] [.ptr kb 0 0]]) := by rw [gk kf hkl]; exact hkf
  simp only [go_sem, Nat.reduceEqDiff, s127_1, g3]
  refine sB_dec (fun hk => ?_) (fun hk => ?_)
  · obtain ⟨v, h2, e1, G⟩ := c86 hk H (by omega) gk
    obtain ⟨x1, x2, x3, x4, x5, rfl, z1, z2⟩ := G.val
    have gn2 := G.next
    have gl2 := G.low
    have k5 : h2.get (h.next + 1) = some (.box [.int .i64 0, .int .i64 0, .str (bs []), .nils, .nils]) := by show h2.objs.get _ = _; rw [G.objs]; exact g5
    simp only [go_sem, Nat.reduceEqDiff, Nat.reduceAdd, gf, g3, e1, k5]
    refine HQ_keep (.inr rfl) (by rw [low_set]; exact le_minN (by omega) (by omega)) (by simp only [go_sem, Nat.reduceEqDiff, Nat.reduceAdd, r127]; rfl) ?_
    rw [one_2]
    refine ⟨by simp only [next_set]; omega, rfl, rfl, fun _ => ⟨x1, x2, x3, x4, x5, ?_, z1, z2⟩, fun h0 => absurd hk h0⟩
    rw [frz_tupS]; simp only [List.map_cons, List.map_nil, frz_bool, z2]
  · simp only [go_sem, Nat.reduceEqDiff, Nat.reduceAdd, s127_0, g3, g5, h87]
    refine HQ_keep (.inr rfl) (by rw [low_set]; exact le_minN (by omega) (by omega)) (by simp only [go_sem, Nat.reduceEqDiff, Nat.reduceAdd, r127]; rfl) ?_
    rw [one_2]
    refine ⟨by simp only [next_set]; omega, rfl, rfl, fun h0 => absurd h0 hk, fun _ => ?_⟩
    rw [frz_tupS]; simp only [List.map_cons, List.map_nil, frz_bool]
    have := frz_encT 3 (H.set (h.next + 1) (.box [.int .i64 k, .int .i64 i, .str nm, .lst (ls.map encL), .lst []])) h.next k i nm ls []
    simp only [List.map_nil] at this
    rw [this]

/-! build -/
structure J90 (to : List Int) (bv : List AV) (k i : Int) (nm : ByteArray) (ls : List LL) (ks : List T) (d : Int) (h0 h : AH) (kO : Nat) (m : Nat) (v : AV) (out : List AV) : Prop where
  b3 : h.get h0.next = some (.box bv)
  b4 : h.get (h0.next + 1) = some (.box [.int .i64 k, .int .i64 i, .str nm, .lst (ls.map encL), .lst (ks.map enc)])
  b6 : h.get (h0.next + 2) = some (.box [.int .i64 0, .int .i64 0, .str (bs []), .nils, .nils])
  b7 : h.get kO = some (.box [.int .i64 k, .int .i64 i, .str nm, .lst (ls.map encL), v])
  kl : h0.next + 3 ≤ kO
  nx : kO < h.next
  keep : ∀ k, k < h0.next → h.get k = h0.get k
  own : Own (kO + 1) 5 true h v out
  len : out.length = ks.length
  low : h0.next ≤ h.low
  vals : ∀ (a : Nat) x t, a < m → out[a]? = some x → ks[a]? = some t → x.norm = enc (ren to t (d + binders k a)) ∧ ∀ m h b, frz m h b x = x

def I90 (to : List Int) (bv : List AV) (k i : Int) (nm : ByteArray) (ls : List LL) (ks : List T) (d : Int) (h0 : AH) (kO : Nat) (v : AV) (j : Nat) (fr : AF) (h : AH) : Prop := ∃ tm m out, m + j = ks.length ∧ fr = ⟨tm, ⟨[], .no, none, 90⟩⟩ ∧
  nth tm 2 = .int .i64 d ∧ nth tm 3 = .ptr h0.next 0 0 ∧ nth tm 4 = .ptr (h0.next + 1) 0 0 ∧ nth tm 6 = .ptr (h0.next + 2) 0 0 ∧ nth tm 7 = .ptr kO 0 0 ∧ nth tm 32 = .lst (ks.map enc) ∧ nth tm 33 = .int .i64 (ks.length : Int) ∧ nth tm 34 = .int .i64 (m : Int) ∧ J90 to bv k i nm ls ks d h0 h kO m v out

end Go.Proofs.YtnacljdablhbgaaGreat

/- UnifyInverts: the building of a renamed term (no condition). -/
namespace Go.Proofs.YtnacljdablhbgaaGreat
open Go.AG
attribute [local go_sem] R_draw RD_nil RD_mv RD_pick RD_build RD_litT RD_load RD_store RD_nilChk RD_bin RD_un RD_mkFn RD_slice RD_faddr RD_field RD_iaddr RD_extract RD_len RD_append RD_call RD_new dE_eq dC_still dC_still0 dC_reads dC_reads0 dC_acts dC_acts0 dS_val dV_val dA_val dA_call dK_ret wants_n wants_s births_n births_c birth_new birth_mv birth_pick birth_build birth_lit birth_load birth_store birth_nilChk birth_bin birth_un birth_mkFn birth_slice birth_faddr birth_field birth_iaddr birth_extract birth_builtin birth_call ite_lohi ite_01 ite_02 ite_12 ite_23 ite_13 ite_03 rdsOk_nil rdsOk_cons rdOk_nil rdOk_cons sameVal_val beq_ptr beq_row beq_int beq_enc beq_lstT beq_lstL List.append_eq List.nil_append List.cons_append Bool.true_or Bool.or_true Bool.false_or Bool.or_false Bool.true_and Bool.and_true Bool.false_and Bool.and_false Bool.not_not R_nil R_skip R_seq R_region R_scope R_exit R_ret R_block R_cond sB_true sB_false R_code_exit R_code_ret R_code_panic R_ops_exit R_ops_ret R_ops_panic R_out_normal R_out_ret R_out_panic R_out_same R_out_other R_ops_nil R_op R_opg sG_true sG_false sR_val sR_call sR_pan sC_ret sC_pan LQ_normal LQ_exit LQ_ret LQ_panic op_mv' op_pick' op_new' op_box' op_load' op_store' op_bin' op_un' op_convInt' op_defer' sR_dfr sX_some dfr_fn cells_fn lies_fn cells_map lies_map op_iaddrA' op_lookup' op_mapUp' op_mkMap' putAll_2 op_mkSlice' op_slice' slice_hi tupL_t nthL_eq op_faddr' op_field' op_iaddr' op_strIdx' op_arrIdx' op_extract' op_len' op_append' op_max' op_call' op_mkFn' op_build' parts_nil parts_cons build_0 build_2 op_nilChk' nilChk_ptr op_lit' litParts_1 lit_int lit_agg5 lit_agg2 okV_s okH_s okVH_s ev_t ev_c putD_s putD_n nth_same nth_other startTm_1 startTm_2 startTm_3 startTm_4 startTm_5 startTm_6 startTm_nil evs_nil evs_cons pick_b bin_int bin_str int_add int_sub int_eql int_neq int_lss int_leq int_gtr int_geq str_eql str_neq un_not conv_int len_str len_nils len_lst len_clip len_row want_tt want_ff want_t bindO_some field_agg get_new_s get_new_o get_set_s get_set_o new_mk set_mk get_mk setR_zero setR_cons over_cons over_nil next_mk faddr_ptr faddr_vptr1 load_ptr load_vptrI load_vptrS load_vptrL load_vptrA load_enc load_encL load_encV load_encI loadAt_box grab_1 grab_A box_agg store_ptr storeAt_box cells_agg cells_int cells_bool cells_str cells_lst cells_nils cells_row lies_agg lies_int lies_bool lies_str lies_lst lies_nils lies_row Tr.get_put_same Tr.get_put_other res_nil res_tmp res_cell one_1 one_2 frz_int frz_bool frz_str frz_lst frz_clip frz_nils frz_tupS frz_aggS frz_fn norm_int norm_bool norm_str norm_nils norm_lst norm_clip norm_agg norm_tup norms_nil norms_cons max2 FQ_ret FQ_normal FQ_panic cond_true cond_false decide_true decide_false Bool.not_true Bool.not_false List.getElem?_cons_zero List.getElem?_cons_succ List.length_cons List.length_nil List.length_map List.map_cons List.map_nil List.drop_zero List.take_succ_cons List.take_zero List.drop_succ_cons Nat.zero_add Nat.add_zero Option.some.injEq exists_eq_left' exists_eq_left AOut.ret.injEq AOut.pan.injEq AV.int.injEq AV.bool.injEq ne_eq not_true_eq_false not_false_eq_true true_and and_true Nat.le_refl eq_self

theorem bad_kid {to : List Int} {k i : Int} {nm : ByteArray} {ls : List LL} {ks : List T} {d : Int} {a : Nat} {t : T} (hnb : ¬ Bad to (.mk k i nm ls ks) d) (ha : ks[a]? = some t) : ¬ Bad to t (d + binders k a) := by
  rintro ⟨y, hf, hs⟩
  exact hnb ⟨y, .kid ha hf, hs⟩

section
variable {cl : Nat → CallF} {N : Nat} {to : List Int} {V : AV} {kf kb : Nat}

theorem build90 (hto : ∀ x ∈ to, x ≤ 1000) (hN : 5000 < N)
    (c128 : ∀ m (k j : Int) h, cl m (.fn 128 [] []) [.int .i64 k, .int .i64 j] .no h = some (.ret (.int .i64 (binders k j)), .no, h))
    (c87 : ∀ m (k i : Int) (nm : ByteArray) (ls : List LL) (ks : List T) h, ls.length ≤ 20 → (∀ x ∈ ls, x.vars.length ≤ 20) → cl m (.fn 87 [] []) [.agg [.int .i64 k, .int .i64 i, .str nm, .lst (ls.map encL), .lst (ks.map enc)]] .no h = some (.ret (enc (.mk k i nm ls [])), .no, h))
    (c89 : ∀ m x, x ≤ 65535 → ∀ h, cl m (.fn 89 [] []) [.int .i64 x] .no h = some (.ret (enc (.mk 0 x (bs []) [] [])), .no, h))
    (c90 : ∀ m a h, cl (m + 1) (.fn 90 [] []) a .no h = evFn EI (cl m) N 90 a .no h)
    (c127 : ∀ m c a h, cl (m + 1) (.fn 127 [] c) a .no h = evFn EI (cl m) N 127 (a ++ c) .no h)
    (c86 : ∀ m c a h, cl (m + 1) (.fn 86 [] c) a .no h = evFn EI (cl m) N 86 (a ++ c) .no h) :
    ∀ m t d h, size t + 3 ≤ m → WF 1000 t d → Short t → ¬ Bad to t d → 0 ≤ d → d + size t ≤ 5000 → h.get kf = some (.box [.fn 86 [] [.ptr kb 0 0]]) → kf < h.next → h.get kb = some (.box [V]) → kb < h.next → SV h.next to V h →
      ∃ v h', cl m (.fn 90 [] []) [.agg [.fn 127 [] [.ptr kf 0 0]], enc t, .int .i64 d] .no h = some (.ret v, .no, h') ∧ GV (ren to t d) h v h' := by
  intro m
  induction m with
  | zero => intro t d h hm; omega
  | succ m ih =>
    intro t d h hm hwf hsh hnb hd0 hd1 hkf hkfl hkb hkbl hV
    obtain ⟨k, i, nm, ls, ks⟩ := t
    obtain ⟨hv, hkids⟩ := hwf
    obtain ⟨hs1, hs2, hs3⟩ := hsh
    have hsz : size (.mk k i nm ls ks) = 1 + sizes ks := by simp [size]
    rw [hsz] at hm hd1
    have hlen := length_sizes ks
    obtain ⟨m, rfl⟩ : ∃ m', m = m' + 1 := ⟨m - 1, by omega⟩
    rw [c90]
    refine evFn_H cf90 (pureI _) ?_
    have n1 : ¬ (h.next = h.next + 1) := by omega
    have n2 : ¬ (h.next = h.next + 1 + 1) := by omega
    have n3 : ¬ (h.next + 1 = h.next + 1 + 1) := by omega
    rw [enc_eq]
    unfold b90
    simp only [go_sem, Nat.reduceEqDiff, Nat.reduceAdd, reduceCtorEq]
    obtain ⟨H, hH⟩ : ∃ H : AH, H = ⟨h.next + 1 + 1 + 1, h.next, ((h.objs.put h.next (.box [.fn 127 [] [.ptr kf 0 0]])).put (h.next + 1) (.box [.int .i64 k, .int .i64 i, .str nm, .lst (ls.map encL), .lst (ks.map enc)])).put (h.next + 1 + 1) (.box [.int .i64 0, .int .i64 0, .str (bs []), .nils, .nils])⟩ := ⟨_, rfl⟩
    rw [← hH]
    have g3 : H.get h.next = some (.box [.fn 127 [] [.ptr kf 0 0]]) := by subst hH; simp only [go_sem, n1, n2]
    have g4 : H.get (h.next + 1) = some (.box [.int .i64 k, .int .i64 i, .str nm, .lst (ls.map encL), .lst (ks.map enc)]) := by subst hH; simp only [go_sem, n3]
    have g6 : H.get (h.next + 1 + 1) = some (.box [.int .i64 0, .int .i64 0, .str (bs []), .nils, .nils]) := by subst hH; simp only [go_sem]
    have gk : ∀ k, k < h.next → H.get k = h.get k := by
      intro k hk
      subst hH
      rw [get_mk, Tr.get_put_other _ _ (by omega), Tr.get_put_other _ _ (by omega), Tr.get_put_other _ _ (by omega)]; rfl
    have gn : H.next = h.next + 3 := by subst hH; rfl
    have gl : H.low = h.next := by subst hH; rfl
    clear hH
    -- the node
    have node : ∃ v h', cl (m + 1) (.fn 127 [] [.ptr kf 0 0]) [.agg [.int .i64 k, .int .i64 i, .str nm, .lst (ls.map encL), .lst (ks.map enc)], .int .i64 d] .no H = some (.ret v, .no, h') ∧ G127 to k i nm ls ks d H v h' := by
      rw [c127, ← enc_eq]
      refine call127 (cl m) N k i d nm ls ks to kf kb H (by rw [gk kf hkfl]; exact hkf) (by omega) (fun hk H2 hn2 hk2 => ?_) (fun h => c87 m k i nm ls ks h hs1 hs2)
      obtain ⟨hks, hi0, hi1⟩ := hv hk
      subst hk hks
      obtain ⟨m, rfl⟩ : ∃ m', m = m' + 1 := ⟨m - 1, by omega⟩
      rw [c86, ← enc_eq]
      refine call86 (cl m) N i d nm ls to V kb H2 (by rw [hk2 kb (by omega), gk kb hkbl]; exact hkb) (by omega) (hV.up (by omega) (by omega) (fun a ha => by rw [hk2 a (by omega), gk a ha])) hi0 hi1 hd0 (by omega) hto (fun hle => ?_) (fun h => c87 m 0 i nm ls [] h hs1 hs2) (c89 m)
      rcases Int.lt_or_le (sg to (i - d)) 0 with q | q
      · exact absurd ⟨i - d, .here rfl hle, q⟩ hnb
      · exact q
    obtain ⟨v, h2, e1, G⟩ := node
    have gn2 := G.next
    have gl2 := G.low
    have o2 : ∀ a, h2.get a = H.get a := fun a => by show h2.objs.get a = H.objs.get a; rw [G.objs]
    have k3 : h2.get h.next = some (.box [.fn 127 [] [.ptr kf 0 0]]) := by rw [o2]; exact g3
    have k4 : h2.get (h.next + 1) = some (.box [.int .i64 k, .int .i64 i, .str nm, .lst (ls.map encL), .lst (ks.map enc)]) := by rw [o2]; exact g4
    have k6 : h2.get (h.next + 1 + 1) = some (.box [.int .i64 0, .int .i64 0, .str (bs []), .nils, .nils]) := by rw [o2]; exact g6
    have p1 : ¬ (h.next = h2.next) := by omega
    have p2 : ¬ (h.next + 1 = h2.next) := by omega
    have p3 : ¬ (h.next + 1 + 1 = h2.next) := by omega
    have p4 : ¬ (h2.next = h.next + 1 + 1) := by omega
    simp only [go_sem, Nat.reduceEqDiff, Nat.reduceAdd, s90_7, g3, g4]
    by_cases hk : k = 0
    · obtain ⟨x1, x2, x3, x4, x5, rfl, z1, z2⟩ := G.var hk
      simp only [go_sem, Nat.reduceEqDiff, Nat.reduceAdd, e1, s90_6, p3, k6]
      refine HQ_keep (.inr rfl) (by rw [low_set, low_set, low_new]; exact le_minN (by omega) (le_minN (by omega) (by omega))) (by simp only [go_sem, Nat.reduceEqDiff, Nat.reduceAdd, r90]; rfl) ?_
      rw [one_1, z2]
      exact ⟨by simp only [next_set, next_new]; omega, rfl, rfl, x1, x2, x3, x4, x5, rfl, z1, z2⟩
    · have := G.node hk
      subst this
      simp only [go_sem, Nat.reduceEqDiff, Nat.reduceAdd, e1, s90_6, s90_5, s90_4, p2, k4]
      have hren : ren to (.mk k i nm ls ks) d = .mk k i nm ls (rens to k 0 ks d) := by simp [ren, hk]
      refine sB_dec (fun hpos => ?_) (fun hz => ?_)
      · obtain ⟨h3, hh3⟩ : ∃ h3, h3 = ((h2.new (.box [.int .i64 0, .int .i64 0, .str (bs []), .nils, .nils])).set h2.next (.box [.int .i64 k, .int .i64 i, .str nm, .lst (ls.map encL), .lst []])).set h2.next (.box [.int .i64 k, .int .i64 i, .str nm, .lst (ls.map encL), .nils]) := ⟨_, rfl⟩
        rw [← hh3]
        have q3 : ∀ a, ¬ a = h2.next → h3.get a = h2.get a := fun a q => by rw [hh3, get_set_o q, get_set_o q, get_new_o q]
        have q7 : h3.get h2.next = some (.box [.int .i64 k, .int .i64 i, .str nm, .lst (ls.map encL), .nils]) := by rw [hh3, get_set_s]
        have qn : h3.next = h2.next + 1 := by rw [hh3, next_set, next_set, next_new]
        have ql : h.next ≤ h3.low := by rw [hh3, low_set, low_set, low_new]; exact le_minN (by omega) (le_minN (by omega) (by omega))
        have l4 : h3.get (h.next + 1) = some (.box [.int .i64 k, .int .i64 i, .str nm, .lst (ls.map encL), .lst (ks.map enc)]) := by rw [q3 _ p2]; exact k4
        clear hh3
        obtain ⟨v5, h5, e5, o5, n5, k5, lo5, v51, v52⟩ := own_make (base := h2.next + 1) (h := h3) (z := .agg [.int .i64 0, .int .i64 0, .str (bs []), .nils, .nils]) (sz := 5) (bytes := 80) ks.length .i64 (by omega) rfl rfl (by omega) (by decide)
        have e5 : evMkSlice h3 true 5 80 [.int .i64 0, .int .i64 0, .str (bs []), .nils, .nils] (.int .i64 (ks.length : Int)) (.int .i64 (ks.length : Int)) = some (v5, h5) := e5
        have m7 : h5.get h2.next = some (.box [.int .i64 k, .int .i64 i, .str nm, .lst (ls.map encL), .nils]) := by rw [k5 _ (by omega)]; exact q7
        have m4 : h5.get (h.next + 1) = some (.box [.int .i64 k, .int .i64 i, .str nm, .lst (ls.map encL), .lst (ks.map enc)]) := by rw [k5 _ (by omega)]; exact l4
        simp only [go_sem, Nat.reduceEqDiff, Nat.reduceAdd, l4, e5, m7, v51, v52, p2, m4]
        refine R_loop (I90 to [.fn 127 [] [.ptr kf 0 0]] k i nm ls ks d h h2.next v5) ks.length (by omega) ⟨_, 0, List.replicate ks.length (.agg [.int .i64 0, .int .i64 0, .str (bs []), .nils, .nils]), Nat.zero_add _, rfl, by simp only [go_sem, Nat.reduceEqDiff], by simp only [go_sem, Nat.reduceEqDiff], by simp only [go_sem, Nat.reduceEqDiff], by simp only [go_sem, Nat.reduceEqDiff], by simp only [go_sem, Nat.reduceEqDiff], by simp only [go_sem, Nat.reduceEqDiff], by simp only [go_sem, Nat.reduceEqDiff], by simp only [go_sem]; rfl,
          ⟨?_, ?_, ?_, get_set_s _ _ _, by omega, by rw [next_set]; omega, fun a ha => ?_, own_keep o5 (by rw [next_set]; exact Nat.le_refl _) (fun a q _ => get_set_o (by omega)), by simp, by rw [low_set]; exact le_minN (by omega) (by omega), fun a x t ha => absurd ha (Nat.not_lt_zero _)⟩⟩ ?_
        · rw [get_set_o p1, k5 _ (by omega), q3 _ p1]; exact k3
        · rw [get_set_o p2, k5 _ (by omega), q3 _ p2]; exact k4
        · rw [get_set_o p3, k5 _ (by omega), q3 _ p3]; exact k6
        · rw [get_set_o (by omega), k5 _ (by omega), q3 _ (by omega), o2, gk a ha]
        clear o5 k5 lo5 m7 m4 l4 ql qn q7 q3 e5 n5 e1 k3 k4 k6
        rintro j fr h' ⟨tm, p, out, hp, rfl, t2, t3, t4, t6, t7, t32, t33, t34, J⟩
        obtain ⟨b3, b4, b6, b7, bkl, bnx, bk, bo, bl, blow, bv⟩ := J
        unfold b90_2
        simp only [go_sem, s90_1, t33, t34]
        refine sB_dec (fun hlt => ?_) (fun hge => ?_)
        · have hlt : p < ks.length := by omega
          have hget : ks[p]? = some ks[p] := List.getElem?_eq_getElem hlt
          have ha := fun h => iaddr_map enc_cells hget .i64 h
          have hep := enc_parts ks[p]
          have hb := binders_le k p
          have hss := size_mem hget
          have hw1 : IntKind.wrap .i64 (d + binders k p) = d + binders k p := wrap_fits _ (by omega) (by omega)
          have hw2 := wrap_succ p (by omega)
          have c128' := c128 (m + 1) k p
          obtain ⟨h6, hh6⟩ : ∃ h6, h6 = (h'.new (.box [.int .i64 0, .int .i64 0, .str (bs []), .nils, .nils])).set h'.next (.box [.int .i64 ks[p].kind, .int .i64 ks[p].idx, .str ks[p].name, .lst (ks[p].levels.map encL), .lst (ks[p].kids.map enc)]) := ⟨_, rfl⟩
          have r1 : ∀ a, a < h'.next → h6.get a = h'.get a := fun a q => by rw [hh6, get_set_o (by omega), get_new_o (by omega)]
          have r2 : h6.get h'.next = some (.box [.int .i64 ks[p].kind, .int .i64 ks[p].idx, .str ks[p].name, .lst (ks[p].levels.map encL), .lst (ks[p].kids.map enc)]) := by rw [hh6, get_set_s]
          have r3 : h6.next = h'.next + 1 := by rw [hh6, next_set, next_new]
          have r4 : h.next ≤ h6.low := by rw [hh6, low_set, low_new]; exact le_minN (by omega) blow
          have r7 : h6.get h2.next = some (.box [.int .i64 k, .int .i64 i, .str nm, .lst (ls.map encL), v5]) := by rw [r1 _ bnx]; exact b7
          have r33 : h6.get h.next = some (.box [.fn 127 [] [.ptr kf 0 0]]) := by rw [r1 _ (by omega)]; exact b3
          have r44 : h6.get (h.next + 1) = some (.box [.int .i64 k, .int .i64 i, .str nm, .lst (ls.map encL), .lst (ks.map enc)]) := by rw [r1 _ (by omega)]; exact b4
          obtain ⟨v2, h7, e7, G7⟩ := ih ks[p] (d + binders k p) h6 (by omega) (hkids p _ hget) (hs3 _ (List.getElem_mem hlt)) (bad_kid hnb hget) (by omega) (by omega) (by rw [r1 kf (by omega), bk kf hkfl]; exact hkf) (by omega) (by rw [r1 kb (by omega), bk kb hkbl]; exact hkb) (by omega) (hV.up (by omega) (by omega) (fun a q => by rw [r1 a (by omega), bk a q]))
          rw [hep] at e7
          obtain ⟨x1, x2, x3, x4, x5, rfl, z1, z2⟩ := G7.val
          have gn7 := G7.next
          have gl7 := G7.low
          have s7 : ∀ a, h7.get a = h6.get a := fun a => by show h7.objs.get a = h6.objs.get a; rw [G7.objs]
          have s77 : h7.get h2.next = some (.box [.int .i64 k, .int .i64 i, .str nm, .lst (ls.map encL), v5]) := by rw [s7]; exact r7
          have o7 : Own (h2.next + 1) 5 true h7 v5 out := own_keep bo (by omega) (fun a q1 q2 => by rw [s7, r1 a q2])
          obtain ⟨pp, h8, i8, st8, o8, n8, k8, l8, l8'⟩ := own_storeA (x := .agg [x1, x2, x3, x4, x5]) (a := p) o7 (by omega) rfl rfl rfl .i64
          have hvb : AV.beq v5 v5 = true := by
            obtain ⟨_, ⟨rfl, _⟩ | ⟨k, g, rfl, _⟩⟩ := bo
            · rfl
            · exact beq_row _ _ _ _ _
          have hfb : AV.beq (.agg [.fn 127 [] [.ptr kf 0 0]]) (.agg [.fn 127 [] [.ptr kf 0 0]]) = true := by simp [AV.beq, AV.beqs]
          have htb : AV.beq (.agg [.int .i64 ks[p].kind, .int .i64 ks[p].idx, .str ks[p].name, .lst (ks[p].levels.map encL), .lst (ks[p].kids.map enc)]) (.agg [.int .i64 ks[p].kind, .int .i64 ks[p].idx, .str ks[p].name, .lst (ks[p].levels.map encL), .lst (ks[p].kids.map enc)]) = true := by rw [← hep]; exact beq_enc _
          simp only [go_sem, Nat.reduceEqDiff, Nat.reduceAdd, s90_0, t32, t34, ha, hep]
          rw [← hh6]
          simp only [go_sem, Nat.reduceEqDiff, Nat.reduceAdd, Nat.reduceLT, t2, t3, t4, t7, r7, r33, r2, r44, c128', hw1, e7, i8, st8, hvb, hfb, htb, s77, t34, hw2]
          have g8 : ∀ a, a < h2.next + 1 → h8.get a = h'.get a := fun a q => by rw [k8 a q, s7, r1 a (by omega)]
          refine ⟨j - 1, by omega, _, p + 1, out.set p (.agg [x1, x2, x3, x4, x5]), by omega, rfl, by simp only [go_sem, Nat.reduceEqDiff, *], by simp only [go_sem, Nat.reduceEqDiff, *], by simp only [go_sem, Nat.reduceEqDiff, *], by simp only [go_sem, Nat.reduceEqDiff, *], by simp only [go_sem, Nat.reduceEqDiff, *], by simp only [go_sem, Nat.reduceEqDiff, *], by simp only [go_sem, Nat.reduceEqDiff, *], by simp only [go_sem, *],
            ⟨by rw [g8 _ (by omega)]; exact b3, by rw [g8 _ (by omega)]; exact b4, by rw [g8 _ (by omega)]; exact b6, by rw [g8 _ (by omega)]; exact b7, bkl, by omega, fun a q => by rw [g8 _ (by omega)]; exact bk a q, o8, by simpa using bl, l8 _ (by omega) (by omega), fun a x t q1 q2 q3 => ?_⟩⟩
          rw [List.getElem?_set] at q2
          by_cases hap : p = a
          · subst hap
            rw [if_pos rfl, if_pos (by omega)] at q2
            cases q2
            rw [hget] at q3; cases q3
            exact ⟨z1, z2⟩
          · rw [if_neg hap] at q2
            exact bv a x t (by omega) q2 q3
        · have : p = ks.length := by omega
          subst this
          have b6' : h'.get (h.next + 1 + 1) = some (.box [.int .i64 0, .int .i64 0, .str (bs []), .nils, .nils]) := b6
          have t6' : nth tm 6 = .ptr (h.next + 1 + 1) 0 0 := t6
          simp only [go_sem, Nat.reduceEqDiff, Nat.reduceAdd, s90_3, t6', t7, b7, b6']
          have hst : ∀ x ∈ out, ∀ m h b, frz m h b x = x := by
            intro x hx
            obtain ⟨a, hla, rfl⟩ := List.mem_iff_getElem.1 hx
            exact (bv a _ ks[a] (by omega) (List.getElem?_eq_getElem hla) (List.getElem?_eq_getElem (by omega))).2
          have hno : AV.norms out = (rens to k 0 ks d).map enc := by
            apply List.ext_getElem?
            intro a
            rw [norms_map, List.getElem?_map, List.getElem?_map, rens_get, Nat.zero_add]
            rcases Nat.lt_or_ge a ks.length with q | q
            · have e1 : out[a]? = some (out[a]'(by omega)) := List.getElem?_eq_getElem (by omega)
              have e2 : ks[a]? = some ks[a] := List.getElem?_eq_getElem q
              have := (bv a _ _ q e1 e2).1
              rw [e1, e2]
              simp only [Option.map_some, this]
            · rw [List.getElem?_eq_none (by omega), List.getElem?_eq_none (by omega)]; rfl
          obtain ⟨h9, hh9⟩ : ∃ h9, h9 = h'.set (h.next + 1 + 1) (.box [.int .i64 k, .int .i64 i, .str nm, .lst (ls.map encL), v5]) := ⟨_, rfl⟩
          have hres : ∀ tm, nth tm 6 = .ptr (h.next + 1 + 1) 0 0 → evRes r90 tm h9 = some [.agg [.int .i64 k, .int .i64 i, .str nm, .lst (ls.map encL), v5]] := by
            intro tm t6
            subst hh9
            simp only [go_sem, Nat.reduceAdd, r90, t6]
          have o9 : Own (h2.next + 1) 5 true h9 v5 out := own_keep bo (by rw [hh9, next_set]; exact Nat.le_refl _) (fun a q _ => by rw [hh9]; exact get_set_o (by omega))
          have n9 : h9.next = h'.next := by rw [hh9, next_set]
          have l9 : h.next ≤ h9.low := by rw [hh9, low_set]; exact le_minN (by omega) blow
          rw [← hh9]
          clear hh9
          refine HQ_keep (.inr rfl) l9 (hres _ (by simp only [go_sem, Nat.reduceEqDiff, t6'])) ?_
          have hfz : frz 4 h9 h.next (one [.agg [.int .i64 k, .int .i64 i, .str nm, .lst (ls.map encL), v5]]) = .agg [.int .i64 k, .int .i64 i, .str nm, .lst (ls.map encL), frz 3 h9 h.next v5] := by
            rw [one_1, frz_aggS]; simp [frz_int, frz_str, frz_lst]
          rw [hfz, hren]
          rcases own_frzB (fb := h.next) (m := 2) o9 (by omega) (fun h => by cases h) (fun x hx => hst x hx 2 h9 h.next) with ⟨_, ho, ef⟩ | ef
          · rw [ef]
            refine ⟨by show h.next ≤ h9.next; omega, rfl, rfl, _, _, _, _, _, rfl, ?_, fun m h b => frzT m h b _ _ _ _ _ (fun m => frz_lst m b _) (fun m => frz_nils m b)⟩
            rw [enc_eq, ← hno, ho]
            simp [AV.norm, AV.norms, encL_norms]
          · rw [ef]
            refine ⟨by show h.next ≤ h9.next; omega, rfl, rfl, _, _, _, _, _, rfl, ?_, fun m h b => frzT m h b _ _ _ _ _ (fun m => frz_lst m b _) (fun m => frz_lst m b _)⟩
            rw [enc_eq, ← hno]
            simp [AV.norm, AV.norms, encL_norms]
      · have hks : ks = [] := List.length_eq_zero_iff.1 (by omega)
        subst hks
        simp only [go_sem, Nat.reduceEqDiff, Nat.reduceAdd, s90_3, p3, k6]
        refine HQ_keep (.inr rfl) ?_ (by simp only [go_sem, Nat.reduceEqDiff, Nat.reduceAdd, r90]; rfl) ?_
        · simp only [low_set, low_new]
          exact le_minN (by omega) (le_minN (by omega) (le_minN (by omega) (by omega)))
        · rw [one_1, hren]
          have hst : ∀ m h b, frz m h b (.agg [.int .i64 k, .int .i64 i, .str nm, .lst (ls.map encL), .nils]) = .agg [.int .i64 k, .int .i64 i, .str nm, .lst (ls.map encL), .nils] := fun m h b => frzT m h b _ _ _ _ _ (fun m => frz_lst m b _) (fun m => frz_nils m b)
          rw [hst]
          refine ⟨by simp only [next_set, next_new]; omega, rfl, rfl, _, _, _, _, _, rfl, ?_, hst⟩
          simp [enc_eq, rens, AV.norm, AV.norms, encL_norms]
end
end Go.Proofs.YtnacljdablhbgaaGreat
