/- UnifyInverts: the free variables, by the reference (no condition). -/
import Derived.Test.YtnacljdablhbgaaGreatCb
namespace Go.Proofs.YtnacljdablhbgaaGreat
open Go.AG
attribute [local go_sem] R_draw RD_nil RD_mv RD_pick RD_build RD_litT RD_load RD_store RD_nilChk RD_bin RD_un RD_mkFn RD_slice RD_faddr RD_field RD_iaddr RD_extract RD_len RD_append RD_call RD_new dE_eq dC_still dC_still0 dC_reads dC_reads0 dC_acts dC_acts0 dS_val dV_val dA_val dA_call dK_ret wants_n wants_s births_n births_c birth_new birth_mv birth_pick birth_build birth_lit birth_load birth_store birth_nilChk birth_bin birth_un birth_mkFn birth_slice birth_faddr birth_field birth_iaddr birth_extract birth_builtin birth_call ite_lohi ite_01 ite_02 ite_12 ite_23 ite_13 ite_03 rdsOk_nil rdsOk_cons rdOk_nil rdOk_cons sameVal_val beq_ptr beq_row beq_int beq_enc beq_lstT beq_lstL List.append_eq List.nil_append List.cons_append Bool.true_or Bool.or_true Bool.false_or Bool.or_false Bool.true_and Bool.and_true Bool.false_and Bool.and_false Bool.not_not R_nil R_skip R_seq R_region R_scope R_exit R_ret R_block R_cond sB_true sB_false R_code_exit R_code_ret R_code_panic R_ops_exit R_ops_ret R_ops_panic R_out_normal R_out_ret R_out_panic R_out_same R_out_other R_ops_nil R_op R_opg sG_true sG_false sR_val sR_call sR_pan sC_ret sC_pan LQ_normal LQ_exit LQ_ret LQ_panic op_mv' op_pick' op_new' op_box' op_load' op_store' op_bin' op_un' op_convInt' op_defer' sR_dfr sX_some dfr_fn cells_fn lies_fn cells_map lies_map op_iaddrA' op_lookup' op_mapUp' op_mkMap' putAll_2 op_mkSlice' op_slice' slice_hi tupL_t nthL_eq op_faddr' op_field' op_iaddr' op_strIdx' op_arrIdx' op_extract' op_len' op_append' op_max' op_call' op_mkFn' op_build' parts_nil parts_cons build_0 build_2 op_nilChk' nilChk_ptr op_lit' litParts_1 lit_int lit_agg5 lit_agg2 okV_s okH_s okVH_s ev_t ev_c putD_s putD_n nth_same nth_other startTm_1 startTm_2 startTm_3 startTm_4 startTm_5 startTm_6 startTm_nil evs_nil evs_cons pick_b bin_int bin_str int_add int_sub int_eql int_neq int_lss int_leq int_gtr int_geq str_eql str_neq un_not conv_int len_str len_nils len_lst len_clip len_row want_tt want_ff want_t bindO_some field_agg get_new_s get_new_o get_set_s get_set_o new_mk set_mk get_mk setR_zero setR_cons over_cons over_nil next_mk faddr_ptr faddr_vptr1 load_ptr load_vptrI load_vptrS load_vptrL load_vptrA load_enc load_encL load_encV load_encI loadAt_box grab_1 grab_A box_agg store_ptr storeAt_box cells_agg cells_int cells_bool cells_str cells_lst cells_nils cells_row lies_agg lies_int lies_bool lies_str lies_lst lies_nils lies_row Tr.get_put_same Tr.get_put_other res_nil res_tmp res_cell one_1 one_2 frz_int frz_bool frz_str frz_lst frz_clip frz_nils frz_tupS frz_aggS frz_fn norm_int norm_bool norm_str norm_nils norm_lst norm_clip norm_agg norm_tup norms_nil norms_cons max2 FQ_ret FQ_normal FQ_panic cond_true cond_false decide_true decide_false Bool.not_true Bool.not_false List.getElem?_cons_zero List.getElem?_cons_succ List.length_cons List.length_nil List.length_map List.map_cons List.map_nil List.drop_zero List.take_succ_cons List.take_zero List.drop_succ_cons Nat.zero_add Nat.add_zero Option.some.injEq exists_eq_left' exists_eq_left AOut.ret.injEq AOut.pan.injEq AV.int.injEq AV.bool.injEq ne_eq not_true_eq_false not_false_eq_true true_and and_true Nat.le_refl eq_self

def isL (P : List Int → Prop) (o : AOut) : Prop := ∃ L : List Int, o = .ret (.lst (L.map encI)) ∧ P L
theorem isL_i (P : List Int → Prop) (L : List Int) : P L → isL P (.ret (.lst (L.map encI))) := fun h => ⟨L, rfl, h⟩

theorem frz_encI (m : Nat) (h : AH) (x : Int) : frz m h 0 (encI x) = encI x := frz_int m 0 .i64 x

def addP (l : List Int) (x : Int) (L : List Int) : Prop := (∀ y, y ∈ L ↔ y ∈ l ∨ y = x) ∧ L.length ≤ l.length + 1

def I129 (l : List Int) (x : Int) (j : Nat) (fr : AF) (h : AH) : Prop := ∃ tm m out v done, m + j = l.length ∧ fr = ⟨tm, ⟨[], .no, none, 129⟩⟩ ∧ nth tm 0 = .lst (l.map encI) ∧ nth tm 1 = .int .i64 x ∧ nth tm 5 = v ∧ nth tm 6 = .bool done ∧ nth tm 7 = .int .i64 (m : Int) ∧
  Own 0 1 false h v (List.map encI out) ∧ (∀ y, y ∈ out ↔ y ∈ l.take m ∨ (done = true ∧ y = x)) ∧ out.length = m + cond done 1 0

theorem take_snoc {l : List Int} {m : Nat} (hlt : m < l.length) (y : Int) : y ∈ l.take (m + 1) ↔ y ∈ l.take m ∨ y = l[m] := by
  rw [List.take_succ_eq_append_getElem hlt]; simp only [List.mem_append, List.mem_singleton]

theorem run129 (call : CallF) (n : Nat) (l : List Int) (x : Int) (hn : l.length < n) (hl : l.length < 90000) :
    R call n [.code b129] (FX r129 (isL (addP l x))) .normal ⟨startTm [.lst (l.map encI), .int .i64 x], ⟨[], .no, none, 129⟩⟩ emptyH := by
  unfold b129
  simp only [go_sem, s129_7, s129_6, s129_5]
  refine R_loop (I129 l x) l.length hn ⟨_, 0, [], .nils, false, Nat.zero_add _, rfl, by simp only [go_sem, reduceCtorEq], by simp only [go_sem, Nat.reduceEqDiff], by simp only [go_sem, Nat.reduceEqDiff], by simp only [go_sem, Nat.reduceEqDiff], by simp only [go_sem]; rfl, own_nil _ _ _ _, by simp, by simp⟩ ?_
  rintro j fr h ⟨tm, m, out, v, done, hm, rfl, g0, g1, g5, g6, g7, ho, hmem, hlen⟩
  unfold b129_2
  simp only [go_sem, Nat.reduceEqDiff, reduceCtorEq, g0, g7]
  have hdl : out.length ≤ m + 1 := by cases done <;> simp at hlen <;> omega
  refine sB_dec (fun hlt => ?_) (fun hge => ?_)
  · have hlt : m < l.length := by omega
    have hget : l[m]? = some l[m] := List.getElem?_eq_getElem hlt
    have ha := fun h => iaddr_map encI_cells hget .i64 h
    have hw2 := wrap_succ m (by omega)
    simp only [go_sem, Nat.reduceEqDiff, reduceCtorEq, s129_1, g0, g1, g7, ha]
    refine sB_dec (fun he => ?_) (fun he => ?_)
    · simp only [go_sem, reduceCtorEq, g0, FX_ret, r129, encI_norms]
      refine isL_i _ _ ⟨fun y => ⟨.inl, ?_⟩, by omega⟩
      rintro (h | rfl)
      · exact h
      · exact he ▸ List.getElem_mem hlt
    · have fin : ∀ (tm : Tm) (h : AH) (out : List Int) (v : AV) (done : Bool), nth tm 0 = .lst (l.map encI) → nth tm 1 = .int .i64 x → nth tm 5 = v → nth tm 6 = .bool done → nth tm 7 = .int .i64 ((m + 1 : Nat) : Int) → Own 0 1 false h v (List.map encI (out ++ [l[m]])) → (∀ y, y ∈ out ↔ y ∈ l.take m ∨ (done = true ∧ y = x)) → out.length = m + cond done 1 0 →
          ∃ j', j' < j ∧ I129 l x j' ⟨tm, ⟨[], .no, none, 129⟩⟩ h := by
        intro tm h out v done g0 g1 g5 g6 g7 ho hmem hlen
        refine ⟨j - 1, by omega, tm, m + 1, out ++ [l[m]], v, done, by omega, rfl, g0, g1, g5, g6, g7, ho, fun y => ?_, by simp [hlen]; omega⟩
        rw [take_snoc hlt, List.mem_append, hmem]
        simp only [List.mem_singleton]
        constructor <;> intro h <;> rcases h with (h | h) | h <;> simp [h]
      simp only [go_sem, Nat.reduceEqDiff, reduceCtorEq, s129_0, g0, g1, g7, ha]
      refine sG_bool (fun hgt => ?_) (fun hgt => ?_)
      · simp only [go_sem, Nat.reduceEqDiff, g6, hgt]
        cases done with
        | true =>
          obtain ⟨v', h', e1, o', _, _, _, _, _⟩ := own_append (x := .int .i64 l[m]) (z := [.int .i64 0]) (bytes := 8) ho (Nat.zero_le _) rfl rfl rfl rfl (by simp only [List.length_map]; omega) (by decide)
          simp only [go_sem, Nat.reduceEqDiff, Nat.reduceMul, reduceCtorEq, g0, g5, g7, ha, e1, hw2]
          exact fin _ _ out v' true (by simp only [go_sem, reduceCtorEq, *]) (by simp only [go_sem, Nat.reduceEqDiff, *]) (by simp only [go_sem, Nat.reduceEqDiff, *]) (by simp only [go_sem, Nat.reduceEqDiff, *]) (by simp only [go_sem, *]) (by simpa [encI] using o') hmem hlen
        | false =>
          obtain ⟨v', h', e1, o', _, _, _, _, _⟩ := own_append (x := .int .i64 x) (z := [.int .i64 0]) (bytes := 8) ho (Nat.zero_le _) rfl rfl rfl rfl (by simp only [List.length_map]; omega) (by decide)
          obtain ⟨v2, h2, e2, o2, _, _, _, _, _⟩ := own_append (x := .int .i64 l[m]) (z := [.int .i64 0]) (bytes := 8) o' (Nat.zero_le _) rfl rfl rfl rfl (by simp only [List.length_append, List.length_map, List.length_cons, List.length_nil]; omega) (by decide)
          simp only [go_sem, Nat.reduceEqDiff, Nat.reduceMul, reduceCtorEq, g0, g1, g5, g7, ha, e1, e2, hw2]
          refine fin _ _ (out ++ [x]) v2 true (by simp only [go_sem, reduceCtorEq, *]) (by simp only [go_sem, Nat.reduceEqDiff, *]) (by simp only [go_sem, Nat.reduceEqDiff, *]) (by simp only [go_sem, Nat.reduceEqDiff, *]) (by simp only [go_sem, *]) (by simpa [encI] using o2) (fun y => ?_) (by simp at hlen; simp [hlen])
          rw [List.mem_append, hmem]; simp
      · obtain ⟨v', h', e1, o', _, _, _, _, _⟩ := own_append (x := .int .i64 l[m]) (z := [.int .i64 0]) (bytes := 8) ho (Nat.zero_le _) rfl rfl rfl rfl (by simp only [List.length_map]; omega) (by decide)
        simp only [go_sem, Nat.reduceEqDiff, Nat.reduceMul, reduceCtorEq, g0, g5, g7, ha, e1, hw2, hgt]
        exact fin _ _ out v' done (by simp only [go_sem, reduceCtorEq, *]) (by simp only [go_sem, Nat.reduceEqDiff, *]) (by simp only [go_sem, Nat.reduceEqDiff, *]) (by simp only [go_sem, Nat.reduceEqDiff, *]) (by simp only [go_sem, *]) (by simpa [encI] using o') hmem hlen
  · have : m = l.length := by omega
    subst this
    rw [List.take_length] at hmem
    simp only [go_sem, Nat.reduceEqDiff, s129_4, g6]
    cases done with
    | true =>
      simp only [go_sem, Nat.reduceEqDiff, s129_3, g5, FX_ret, r129]
      rw [own_frz ho (fun _ => rfl) (fun x hx => by obtain ⟨y, _, rfl⟩ := List.mem_map.1 hx; exact frz_encI _ _ _), encI_norms]
      exact isL_i _ _ ⟨fun y => by rw [hmem]; simp, by simp at hlen; omega⟩
    | false =>
      obtain ⟨v', h', e1, o', _, _, _, _, _⟩ := own_append (x := .int .i64 x) (z := [.int .i64 0]) (bytes := 8) ho (Nat.zero_le _) rfl rfl rfl rfl (by simp only [List.length_map]; omega) (by decide)
      have o' : Own 0 1 false h' v' (List.map encI (out ++ [x])) := by simpa [encI] using o'
      simp only [go_sem, Nat.reduceEqDiff, Nat.reduceMul, s129_3, g1, g5, e1, FX_ret, r129]
      rw [own_frz o' (fun _ => rfl) (fun x hx => by obtain ⟨y, _, rfl⟩ := List.mem_map.1 hx; exact frz_encI _ _ _), encI_norms]
      exact isL_i _ _ ⟨fun y => by rw [List.mem_append, hmem]; simp, by simp at hlen; simp; omega⟩

/-! the free variables -/
inductive FV : T → Int → Int → Prop
  | here {k i : Int} {nm : ByteArray} {ls : List LL} {ks : List T} {d : Int} (hk : k = 0) (hd : d ≤ i) : FV (.mk k i nm ls ks) d (i - d)
  | kid {k i : Int} {nm : ByteArray} {ls : List LL} {ks : List T} {d y : Int} {j : Nat} {t : T} (hj : ks[j]? = some t) (h : FV t (d + binders k j) y) : FV (.mk k i nm ls ks) d y

def freeP (l : List Int) (t : T) (d : Int) (L : List Int) : Prop := (∀ y, y ∈ L ↔ y ∈ l ∨ FV t d y) ∧ L.length ≤ l.length + size t

def I91 (k i : Int) (nm : ByteArray) (ls : List LL) (ks : List T) (d : Int) (l : List Int) (j : Nat) (fr : AF) (h : AH) : Prop := ∃ (tm : Tm) (m : Nat) (L : List Int), m + j = ks.length ∧ fr = ⟨tm, ⟨[], .no, none, 91⟩⟩ ∧ h.get 0 = some (.box [.int .i64 k, .int .i64 i, .str nm, .lst (ls.map encL), .lst (ks.map enc)]) ∧
  nth tm 0 = .lst (L.map encI) ∧ nth tm 2 = .int .i64 d ∧ nth tm 4 = .ptr 0 0 0 ∧ nth tm 7 = .int .i64 (m : Int) ∧
  (∀ y, y ∈ L ↔ y ∈ l ∨ (k = 0 ∧ d ≤ i ∧ y = i - d) ∨ ∃ (a : Nat) (t : T), a < m ∧ ks[a]? = some t ∧ FV t (d + binders k a) y) ∧ L.length ≤ l.length + 1 + sizes (ks.take m)

theorem run91 (call : CallF) (n : Nat) (k i : Int) (nm : ByteArray) (ls : List LL) (ks : List T) (d : Int) (l : List Int) (hi : k = 0 → 0 ≤ i) (hi1 : i < 9223372036854775808) (hn : ks.length < n) (hl : ks.length < 9223372036854775807) (hd0 : 0 ≤ d) (hd1 : d < 4611686018427387904)
    (h72 : ∀ (j : Int) h, call (.fn 72 [] []) [.int .i64 k, .int .i64 j] .no h = some (.ret (.int .i64 (binders k j)), .no, h))
    (h129 : k = 0 → ∃ L, (∀ h, call (.fn 129 [] []) [.lst (l.map encI), .int .i64 (i - d)] .no h = some (.ret (.lst (List.map encI L)), .no, h)) ∧ addP l (i - d) L)
    (h91 : ∀ (a : Nat) (t : T) (l' : List Int), ks[a]? = some t → l'.length ≤ l.length + 1 + sizes (ks.take a) → ∃ L, (∀ h, call (.fn 91 [] []) [.lst (l'.map encI), enc t, .int .i64 (d + binders k a)] .no h = some (.ret (.lst (List.map encI L)), .no, h)) ∧ freeP l' t (d + binders k a) L) :
    R call n [.code b91] (FX r91 (isL (freeP l (.mk k i nm ls ks) d))) .normal ⟨startTm [.lst (l.map encI), enc (.mk k i nm ls ks), .int .i64 d], ⟨[], .no, none, 91⟩⟩ emptyH := by
  rw [enc_eq]
  have loop : ∀ (tm : Tm) (h : AH) (L : List Int), h.get 0 = some (.box [.int .i64 k, .int .i64 i, .str nm, .lst (ls.map encL), .lst (ks.map enc)]) → nth tm 0 = .lst (L.map encI) → nth tm 2 = .int .i64 d → nth tm 4 = .ptr 0 0 0 →
      (∀ y, y ∈ L ↔ y ∈ l ∨ (k = 0 ∧ d ≤ i ∧ y = i - d)) → L.length ≤ l.length + 1 → R call n [.code s91_3] (FX r91 (isL (freeP l (.mk k i nm ls ks) d))) .normal ⟨tm, ⟨[], .no, none, 91⟩⟩ h := by
    intro tm h L hg g0 g2 g4 hm hln
    unfold s91_3
    simp only [go_sem]
    refine R_loop (I91 k i nm ls ks d l) ks.length hn ⟨_, 0, L, Nat.zero_add _, rfl, hg, by simp only [go_sem, reduceCtorEq, *], by simp only [go_sem, Nat.reduceEqDiff, *], by simp only [go_sem, Nat.reduceEqDiff, *], by simp only [go_sem]; rfl, by simpa using hm, by simpa [sizes] using hln⟩ ?_
    clear hm hln g0 g2 g4 hg
    rintro j fr h ⟨tm, m, L, hm, rfl, hg, g0, g2, g4, g7, hmem, hln⟩
    unfold b91_1
    simp only [go_sem, Nat.reduceEqDiff, hg, g4, g7]
    refine sB_dec (fun hlt => ?_) (fun hge => ?_)
    · have hlt : m < ks.length := by omega
      have hget : ks[m]? = some ks[m] := List.getElem?_eq_getElem hlt
      have ha := fun h => iaddr_map enc_cells hget .i64 h
      have hb := binders_le k m
      have hw1 : IntKind.wrap .i64 (d + binders k m) = d + binders k m := wrap_fits _ (by omega) (by omega)
      have hw2 := wrap_succ m (by omega)
      have h72' := h72 (m : Int)
      obtain ⟨L', hcall, hp1, hp2⟩ := h91 m ks[m] L hget hln
      have hst := sizes_take ks m _ hget
      simp only [go_sem, Nat.reduceEqDiff, Nat.reduceAdd, Nat.reduceLT, reduceCtorEq, s91_0, hg, g0, g2, g4, g7, ha, h72', hw1, hcall, hw2]
      refine ⟨j - 1, by omega, _, m + 1, L', by omega, rfl, hg, by simp only [go_sem, reduceCtorEq, *], by simp only [go_sem, Nat.reduceEqDiff, reduceCtorEq, *], by simp only [go_sem, Nat.reduceEqDiff, reduceCtorEq, *], by simp only [go_sem, *], fun y => ?_, by omega⟩
      rw [hp1, hmem]
      constructor
      · rintro ((h | h | ⟨a, t, h1, h2, h3⟩) | h)
        · exact .inl h
        · exact .inr (.inl h)
        · exact .inr (.inr ⟨a, t, by omega, h2, h3⟩)
        · exact .inr (.inr ⟨m, ks[m], by omega, hget, h⟩)
      · rintro (h | h | ⟨a, t, h1, h2, h3⟩)
        · exact .inl (.inl h)
        · exact .inl (.inr (.inl h))
        · rcases Nat.lt_or_ge a m with q | q
          · exact .inl (.inr (.inr ⟨a, t, q, h2, h3⟩))
          · have : a = m := by omega
            subst this
            rw [hget] at h2; cases h2
            exact .inr h3
    · have : m = ks.length := by omega
      subst this
      rw [List.take_length] at hln
      simp only [go_sem, reduceCtorEq, s91_2, g0, FX_ret, r91, encI_norms]
      refine isL_i _ _ ⟨fun y => ?_, by simp only [size]; omega⟩
      rw [hmem]
      constructor
      · rintro (h | ⟨h1, h2, rfl⟩ | ⟨a, t, h1, h2, h3⟩)
        · exact .inl h
        · exact .inr (.here h1 h2)
        · exact .inr (.kid h2 h3)
      · rintro (h | h)
        · exact .inl h
        · cases h with
          | here h1 h2 => exact .inr (.inl ⟨h1, h2, rfl⟩)
          | kid h1 h2 => exact .inr (.inr ⟨_, _, (List.getElem?_eq_some_iff.1 h1).1, h1, h2⟩)
  clear h91 h72
  unfold b91 emptyH
  simp only [go_sem, Nat.reduceEqDiff, Nat.reduceAdd, s91_4]
  cases hk : decide (k = 0) with
  | false =>
    have hk' : ¬ k = 0 := by simpa using hk
    simp only [go_sem, Nat.reduceEqDiff]
    exact loop _ _ l (by simp only [go_sem]) (by simp only [go_sem, reduceCtorEq]) (by simp only [go_sem, Nat.reduceEqDiff]) (by simp only [go_sem, Nat.reduceEqDiff]) (fun y => by simp [hk']) (by omega)
  | true =>
    have hk' : k = 0 := by simpa using hk
    simp only [go_sem, Nat.reduceEqDiff]
    refine sB_dec (fun hle => ?_) (fun hle => ?_)
    · obtain ⟨L, hcall, hp1, hp2⟩ := h129 hk'
      have := hi hk'
      have hw1 : IntKind.wrap .i64 (i - d) = i - d := wrap_fits _ (by omega) (by omega)
      simp only [go_sem, Nat.reduceEqDiff, reduceCtorEq, hw1, hcall]
      exact loop _ _ L (by simp only [go_sem]) (by simp only [go_sem]) (by simp only [go_sem, Nat.reduceEqDiff, reduceCtorEq]) (by simp only [go_sem, Nat.reduceEqDiff, reduceCtorEq]) (fun y => by rw [hp1]; simp [hk', hle]) hp2
    · simp only [go_sem]
      exact loop _ _ l (by simp only [go_sem]) (by simp only [go_sem, reduceCtorEq]) (by simp only [go_sem, Nat.reduceEqDiff]) (by simp only [go_sem, Nat.reduceEqDiff]) (fun y => by simp [hle]) (by omega)

theorem run45 (call : CallF) (n : Nat) (k i : Int) (nm : ByteArray) (ls : List LL) (ks : List T) (L : List Int) (P : List Int → Prop)
    (hc : ∀ h, call (.fn 91 [] []) [.nils, .agg [.int .i64 k, .int .i64 i, .str nm, .lst (ls.map encL), .lst (ks.map enc)], .int .i64 0] .no h = some (.ret (.lst (List.map encI L)), .no, h)) (hp : P L) :
    R call n [.code b45] (FX r45 (isL P)) .normal ⟨startTm [enc (.mk k i nm ls ks)], ⟨[], .no, none, 45⟩⟩ emptyH := by
  rw [enc_eq]
  unfold b45 emptyH
  simp only [go_sem, Nat.reduceEqDiff, Nat.reduceAdd, s45_0, hc, FX_ret, r45, encI_norms]
  exact isL_i _ _ hp

end Go.Proofs.YtnacljdablhbgaaGreat

/- UnifyInverts: the renaming of the reference (no condition). -/
namespace Go.Proofs.YtnacljdablhbgaaGreat
open Go.AG
attribute [local go_sem] R_draw RD_nil RD_mv RD_pick RD_build RD_litT RD_load RD_store RD_nilChk RD_bin RD_un RD_mkFn RD_slice RD_faddr RD_field RD_iaddr RD_extract RD_len RD_append RD_call RD_new dE_eq dC_still dC_still0 dC_reads dC_reads0 dC_acts dC_acts0 dS_val dV_val dA_val dA_call dK_ret wants_n wants_s births_n births_c birth_new birth_mv birth_pick birth_build birth_lit birth_load birth_store birth_nilChk birth_bin birth_un birth_mkFn birth_slice birth_faddr birth_field birth_iaddr birth_extract birth_builtin birth_call ite_lohi ite_01 ite_02 ite_12 ite_23 ite_13 ite_03 rdsOk_nil rdsOk_cons rdOk_nil rdOk_cons sameVal_val beq_ptr beq_row beq_int beq_enc beq_lstT beq_lstL List.append_eq List.nil_append List.cons_append Bool.true_or Bool.or_true Bool.false_or Bool.or_false Bool.true_and Bool.and_true Bool.false_and Bool.and_false Bool.not_not R_nil R_skip R_seq R_region R_scope R_exit R_ret R_block R_cond sB_true sB_false R_code_exit R_code_ret R_code_panic R_ops_exit R_ops_ret R_ops_panic R_out_normal R_out_ret R_out_panic R_out_same R_out_other R_ops_nil R_op R_opg sG_true sG_false sR_val sR_call sR_pan sC_ret sC_pan LQ_normal LQ_exit LQ_ret LQ_panic op_mv' op_pick' op_new' op_box' op_load' op_store' op_bin' op_un' op_convInt' op_defer' sR_dfr sX_some dfr_fn cells_fn lies_fn cells_map lies_map op_iaddrA' op_lookup' op_mapUp' op_mkMap' putAll_2 op_mkSlice' op_slice' slice_hi tupL_t nthL_eq op_faddr' op_field' op_iaddr' op_strIdx' op_arrIdx' op_extract' op_len' op_append' op_max' op_call' op_mkFn' op_build' parts_nil parts_cons build_0 build_2 op_nilChk' nilChk_ptr op_lit' litParts_1 lit_int lit_agg5 lit_agg2 okV_s okH_s okVH_s ev_t ev_c putD_s putD_n nth_same nth_other startTm_1 startTm_2 startTm_3 startTm_4 startTm_5 startTm_6 startTm_nil evs_nil evs_cons pick_b bin_int bin_str int_add int_sub int_eql int_neq int_lss int_leq int_gtr int_geq str_eql str_neq un_not conv_int len_str len_nils len_lst len_clip len_row want_tt want_ff want_t bindO_some field_agg get_new_s get_new_o get_set_s get_set_o new_mk set_mk get_mk setR_zero setR_cons over_cons over_nil next_mk faddr_ptr faddr_vptr1 load_ptr load_vptrI load_vptrS load_vptrL load_vptrA load_enc load_encL load_encV load_encI loadAt_box grab_1 grab_A box_agg store_ptr storeAt_box cells_agg cells_int cells_bool cells_str cells_lst cells_nils cells_row lies_agg lies_int lies_bool lies_str lies_lst lies_nils lies_row Tr.get_put_same Tr.get_put_other res_nil res_tmp res_cell one_1 one_2 frz_int frz_bool frz_str frz_lst frz_clip frz_nils frz_tupS frz_aggS frz_fn norm_int norm_bool norm_str norm_nils norm_lst norm_clip norm_agg norm_tup norms_nil norms_cons max2 FQ_ret FQ_normal FQ_panic cond_true cond_false decide_true decide_false Bool.not_true Bool.not_false List.getElem?_cons_zero List.getElem?_cons_succ List.length_cons List.length_nil List.length_map List.map_cons List.map_nil List.drop_zero List.take_succ_cons List.take_zero List.drop_succ_cons Nat.zero_add Nat.add_zero Option.some.injEq exists_eq_left' exists_eq_left AOut.ret.injEq AOut.pan.injEq AV.int.injEq AV.bool.injEq ne_eq not_true_eq_false not_false_eq_true true_and and_true Nat.le_refl eq_self

theorem pureI (f : FuncId) (h : impI f = false := by rfl) : EI.pure f = true := by show (!(impI f)) = true; rw [h]; rfl
section
variable {call : CallF} {n : Nat} {h : AH} {w : Nat} {e nd : Int}

theorem call130 (hg : h.get w = some (.box [.int .i64 e, .int .i64 nd])) (hw : w < h.next) :
    ∃ v h', evFn EI call n 130 [.ptr w 0 0, .int .i64 24] .no h = some (.ret v, .no, h') ∧ (h'.next = h.next ∧ (∀ k, k ≠ w → h'.get k = h.get k) ∧ (e = 0 → h'.get w = some (.box [.int .i64 24, .int .i64 nd]) ∧ h'.low ≤ w ∧ ∀ b, b ≤ w → b ≤ h.low → b ≤ h'.low) ∧ (¬ e = 0 → h' = h)) := by
  have hg' : h.objs.get w = some (.box [.int .i64 e, .int .i64 nd]) := hg
  refine evFn_H cf130 (pureI _) ?_
  unfold b130
  simp only [go_sem, reduceCtorEq, hg']
  refine sB_dec (fun he => ?_) (fun he => ?_)
  · simp only [go_sem, Nat.reduceEqDiff, Nat.reduceAdd, Nat.reduceLeDiff, reduceCtorEq, hg']
    have hm : minN w h.next = w := by unfold minN; rw [ble_t (by omega)]; rfl
    refine HQ_turn (.inl rfl) (by show ¬ h.next ≤ minN w h.next; rw [hm]; omega) rfl ⟨rfl, fun k hk => ?_, fun _ => ⟨?_, ?_, fun b h1 h2 => le_minN (by show b ≤ minN w h.next; rw [hm]; exact h1) h2⟩, fun h0 => absurd he h0⟩
    · show (h.objs.put w _).get k = _
      rw [Tr.get_put_other _ _ hk]; rfl
    · show (h.objs.put w _).get w = _
      rw [Tr.get_put_same]
    · have := minN_le (minN w h.next) h.low
      show minN (minN w h.next) h.low ≤ w
      rw [hm] at this ⊢
      exact this
  · simp only [go_sem]
    exact HQ_keep (.inl rfl) (Nat.le_refl _) rfl ⟨rfl, fun _ _ => rfl, fun h0 => absurd h0 he, fun _ => by cases h; rfl⟩

theorem call131 (x : Int) (hx : x ≤ 65535) : ∃ v h', evFn EI call n 131 [.ptr w 0 0, .int .i64 x] .no h = some (.ret v, .no, h') ∧ (v = .agg [.int .i64 0, .int .i64 x, .str (bs []), .nils, .nils] ∧ h' = ⟨h.next + 1, h.low, h.objs⟩) := by
  refine evFn_H cf131 (pureI _) ?_
  have hd : decide ((65535 : Int) < x) = false := by simp; omega
  unfold b131
  simp only [go_sem, Nat.reduceEqDiff, Nat.reduceAdd, s131_1, hd, s131_0]
  exact HQ_keep (.inr rfl) (by rw [minN_self]; exact Nat.le_refl _) (by simp only [go_sem, Nat.reduceEqDiff, Nat.reduceAdd, r131]; rfl) ⟨rfl, rfl⟩
end

/-! the renaming -/
def sg (to : List Int) (y : Int) : Int := to.getD y.toNat (-1)
def Bad (to : List Int) (t : T) (d : Int) : Prop := ∃ y, FV t d y ∧ sg to y < 0

mutual
def ren (to : List Int) : T → Int → T
  | .mk k i nm ls ks, d => if k = 0 then (if i < d then .mk k i nm ls ks else .mk 0 (sg to (i - d) + d) (bs []) [] []) else .mk k i nm ls (rens to k 0 ks d)
def rens (to : List Int) (k : Int) : Nat → List T → Int → List T
  | _, [], _ => []
  | j, t :: l, d => ren to t (d + binders k j) :: rens to k (j + 1) l d
end

theorem rens_length (to : List Int) (k : Int) (d : Int) : ∀ (ks : List T) (j : Nat), (rens to k j ks d).length = ks.length
  | [], j => by simp [rens]
  | t :: l, j => by simp [rens, rens_length to k d l (j + 1)]
theorem rens_get (to : List Int) (k : Int) (d : Int) : ∀ (ks : List T) (j a : Nat), (rens to k j ks d)[a]? = (ks[a]?).map fun t => ren to t (d + binders k ((j + a : Nat) : Int))
  | [], j, a => by simp [rens]
  | t :: l, j, 0 => by simp [rens]
  | t :: l, j, a + 1 => by
    simp only [rens, List.getElem?_cons_succ]
    rw [rens_get to k d l (j + 1) a, show j + 1 + a = j + (a + 1) by omega]

structure G92 (to : List Int) (w : Nat) (e nd : Int) (t : T) (d : Int) (h : AH) (v : AV) (h' : AH) : Prop where
  next : h.next ≤ h'.next
  cells : v.cells.length = 5
  agg : v.isAgg = true
  keep : ∀ k, k ≠ w → k < h.next → h'.get k = h.get k
  low : h'.low ≤ h.low
  lowb : ∀ b, b ≤ w → b ≤ h.low → b ≤ h'.low
  ok : e = 0 → ¬ Bad to t d → h'.low = h.low ∧ h'.objs = h.objs ∧ v.norm = enc (ren to t d) ∧ ∀ m h b, frz m h b v = v
  err : ∃ e', h'.get w = some (.box [.int .i64 e', .int .i64 nd]) ∧ (¬ e = 0 → e' = e) ∧ (e = 0 → Bad to t d → e' = 24 ∧ h'.low ≤ w)

def BadUp (to : List Int) (k : Int) (ks : List T) (d : Int) (m : Nat) : Prop := ∃ (a : Nat) (t : T), a < m ∧ ks[a]? = some t ∧ Bad to t (d + binders k a)

theorem bad_kids {to : List Int} {k i : Int} {nm : ByteArray} {ls : List LL} {ks : List T} {d : Int} (hk : ¬ k = 0) : Bad to (.mk k i nm ls ks) d ↔ BadUp to k ks d ks.length := by
  constructor
  · rintro ⟨y, hf, hs⟩
    cases hf with
    | here h _ => exact absurd h hk
    | kid hj h => exact ⟨_, _, (List.getElem?_eq_some_iff.1 hj).1, hj, y, h, hs⟩
  · rintro ⟨a, t, _, hj, y, h, hs⟩
    exact ⟨y, .kid hj h, hs⟩

theorem badUp_succ {to : List Int} {k : Int} {ks : List T} {d : Int} {m : Nat} {t : T} (hm : ks[m]? = some t) : BadUp to k ks d (m + 1) ↔ BadUp to k ks d m ∨ Bad to t (d + binders k m) := by
  constructor
  · rintro ⟨a, t', h1, h2, h3⟩
    rcases Nat.lt_or_ge a m with q | q
    · exact .inl ⟨a, t', q, h2, h3⟩
    · have : a = m := by omega
      subst this
      rw [hm] at h2; cases h2
      exact .inr h3
  · rintro (⟨a, t', h1, h2, h3⟩ | h)
    · exact ⟨a, t', by omega, h2, h3⟩
    · exact ⟨m, t, by omega, hm, h⟩

structure J92 (to : List Int) (w : Nat) (e nd : Int) (k i : Int) (nm : ByteArray) (ls : List LL) (ks : List T) (d : Int) (h0 h : AH) (m : Nat) (v : AV) (out : List AV) : Prop where
  b5 : h.get h0.next = some (.box [.int .i64 k, .int .i64 i, .str nm, .lst (ls.map encL), .lst (ks.map enc)])
  b8 : h.get (h0.next + 1) = some (.box [.int .i64 0, .int .i64 0, .str (bs []), .nils, .nils])
  next : h0.next + 2 ≤ h.next
  keep : ∀ k, k ≠ w → k < h0.next → h.get k = h0.get k
  own : Own (h0.next + 2) 5 true h v out
  len : out.length = m
  low : h.low ≤ h0.next
  lowb : w ≤ h.low
  err : ∃ e', h.get w = some (.box [.int .i64 e', .int .i64 nd]) ∧ (¬ e = 0 → e' = e) ∧ (e = 0 → BadUp to k ks d m → e' = 24 ∧ h.low ≤ w) ∧
    (e = 0 → ¬ BadUp to k ks d m → e' = 0 ∧ h0.next ≤ h.low ∧ ∀ (a : Nat) x t, out[a]? = some x → ks[a]? = some t → x.norm = enc (ren to t (d + binders k a)) ∧ ∀ m h b, frz m h b x = x)

def I92 (V : AV) (to : List Int) (w : Nat) (e nd : Int) (k i : Int) (nm : ByteArray) (ls : List LL) (ks : List T) (d : Int) (h0 : AH) (j : Nat) (fr : AF) (h : AH) : Prop := ∃ tm m v out, m + j = ks.length ∧ fr = ⟨tm, ⟨[], .no, none, 92⟩⟩ ∧
  nth tm 0 = .ptr w 0 0 ∧ nth tm 2 = V ∧ nth tm 3 = .int .i64 d ∧ nth tm 5 = .ptr h0.next 0 0 ∧ nth tm 8 = .ptr (h0.next + 1) 0 0 ∧ nth tm 10 = v ∧ nth tm 11 = .int .i64 (m : Int) ∧ J92 to w e nd k i nm ls ks d h0 h m v out

end Go.Proofs.YtnacljdablhbgaaGreat

/- UnifyInverts: the renaming of the reference, its run (no condition). -/
namespace Go.Proofs.YtnacljdablhbgaaGreat
open Go.AG
attribute [local go_sem] R_draw RD_nil RD_mv RD_pick RD_build RD_litT RD_load RD_store RD_nilChk RD_bin RD_un RD_mkFn RD_slice RD_faddr RD_field RD_iaddr RD_extract RD_len RD_append RD_call RD_new dE_eq dC_still dC_still0 dC_reads dC_reads0 dC_acts dC_acts0 dS_val dV_val dA_val dA_call dK_ret wants_n wants_s births_n births_c birth_new birth_mv birth_pick birth_build birth_lit birth_load birth_store birth_nilChk birth_bin birth_un birth_mkFn birth_slice birth_faddr birth_field birth_iaddr birth_extract birth_builtin birth_call ite_lohi ite_01 ite_02 ite_12 ite_23 ite_13 ite_03 rdsOk_nil rdsOk_cons rdOk_nil rdOk_cons sameVal_val beq_ptr beq_row beq_int beq_enc beq_lstT beq_lstL List.append_eq List.nil_append List.cons_append Bool.true_or Bool.or_true Bool.false_or Bool.or_false Bool.true_and Bool.and_true Bool.false_and Bool.and_false Bool.not_not R_nil R_skip R_seq R_region R_scope R_exit R_ret R_block R_cond sB_true sB_false R_code_exit R_code_ret R_code_panic R_ops_exit R_ops_ret R_ops_panic R_out_normal R_out_ret R_out_panic R_out_same R_out_other R_ops_nil R_op R_opg sG_true sG_false sR_val sR_call sR_pan sC_ret sC_pan LQ_normal LQ_exit LQ_ret LQ_panic op_mv' op_pick' op_new' op_box' op_load' op_store' op_bin' op_un' op_convInt' op_defer' sR_dfr sX_some dfr_fn cells_fn lies_fn cells_map lies_map op_iaddrA' op_lookup' op_mapUp' op_mkMap' putAll_2 op_mkSlice' op_slice' slice_hi tupL_t nthL_eq op_faddr' op_field' op_iaddr' op_strIdx' op_arrIdx' op_extract' op_len' op_append' op_max' op_call' op_mkFn' op_build' parts_nil parts_cons build_0 build_2 op_nilChk' nilChk_ptr op_lit' litParts_1 lit_int lit_agg5 lit_agg2 okV_s okH_s okVH_s ev_t ev_c putD_s putD_n nth_same nth_other startTm_1 startTm_2 startTm_3 startTm_4 startTm_5 startTm_6 startTm_nil evs_nil evs_cons pick_b bin_int bin_str int_add int_sub int_eql int_neq int_lss int_leq int_gtr int_geq str_eql str_neq un_not conv_int len_str len_nils len_lst len_clip len_row want_tt want_ff want_t bindO_some field_agg get_new_s get_new_o get_set_s get_set_o new_mk set_mk get_mk setR_zero setR_cons over_cons over_nil next_mk faddr_ptr faddr_vptr1 load_ptr load_vptrI load_vptrS load_vptrL load_vptrA load_enc load_encL load_encV load_encI loadAt_box grab_1 grab_A box_agg store_ptr storeAt_box cells_agg cells_int cells_bool cells_str cells_lst cells_nils cells_row lies_agg lies_int lies_bool lies_str lies_lst lies_nils lies_row Tr.get_put_same Tr.get_put_other res_nil res_tmp res_cell one_1 one_2 frz_int frz_bool frz_str frz_lst frz_clip frz_nils frz_tupS frz_aggS frz_fn norm_int norm_bool norm_str norm_nils norm_lst norm_clip norm_agg norm_tup norms_nil norms_cons max2 FQ_ret FQ_normal FQ_panic cond_true cond_false decide_true decide_false Bool.not_true Bool.not_false List.getElem?_cons_zero List.getElem?_cons_succ List.length_cons List.length_nil List.length_map List.map_cons List.map_nil List.drop_zero List.take_succ_cons List.take_zero List.drop_succ_cons Nat.zero_add Nat.add_zero Option.some.injEq exists_eq_left' exists_eq_left AOut.ret.injEq AOut.pan.injEq AV.int.injEq AV.bool.injEq ne_eq not_true_eq_false not_false_eq_true true_and and_true Nat.le_refl eq_self

theorem size_pos (t : T) : 1 ≤ size t := by cases t; simp only [size]; omega
theorem length_sizes (ks : List T) : ks.length ≤ sizes ks := by
  induction ks with
  | nil => simp
  | cons t l ih => have := size_pos t; simp only [List.length_cons, sizes]; omega
theorem size_mem {ks : List T} {a : Nat} {t : T} (h : ks[a]? = some t) : size t ≤ sizes ks := by
  have h1 := sizes_take ks a t h
  have h2 := sizes_take_le ks (a + 1)
  omega

theorem frzT (m : Nat) (h : AH) (b : Nat) (k i : Int) (nm : ByteArray) (L K : AV) (hL : ∀ m, frz m h b L = L) (hK : ∀ m, frz m h b K = K) : frz m h b (.agg [.int .i64 k, .int .i64 i, .str nm, L, K]) = .agg [.int .i64 k, .int .i64 i, .str nm, L, K] := by
  cases m with
  | zero => rfl
  | succ m => rw [frz_aggS]; simp [frz_int, frz_str, hL, hK]

theorem sg_out {to : List Int} {y : Int} {a : Nat} (hy : y = (a : Int)) (ha : to.length ≤ a) : sg to y = -1 := by
  subst hy; simp [sg, List.getD_eq_getElem?_getD, List.getElem?_eq_none ha]
theorem sg_in {to : List Int} {y : Int} {a : Nat} (hy : y = (a : Int)) (ha : a < to.length) : sg to y = to[a] := by
  subst hy; simp [sg, List.getD_eq_getElem?_getD, List.getElem?_eq_getElem ha]

theorem agg5 {v : AV} (h1 : v.cells.length = 5) (h2 : v.isAgg = true) : ∃ a b c d e, v = .agg [a, b, c, d, e] := by
  cases v <;> first | (simp [AV.isAgg] at h2; done) | skip
  rename_i cs
  simp only [AV.cells] at h1
  match cs, h1 with
  | [a, b, c, d, e], _ => exact ⟨a, b, c, d, e, rfl⟩

theorem own_shape {base sz : Nat} {agg : Bool} {h : AH} {v : AV} {out : List AV} (o : Own base sz agg h v out) : v.cells = [v] ∧ v.lies = true := by
  obtain ⟨_, ⟨rfl, rfl⟩ | ⟨k, g, rfl, hk, hlt, hbk⟩⟩ := o <;> exact ⟨rfl, rfl⟩

/- a slice of numbers that the call may read: nil, or one of its own rows -/
def SV (w : Nat) (to : List Int) (V : AV) (h : AH) : Prop := (V = .nils ∧ to = []) ∨ ∃ kT gT, V = .row kT gT 1 0 to.length ∧ h.get kT = some (.row gT 1 false (to.map encI) 0) ∧ kT < h.next ∧ kT ≠ w

theorem SV.len {w : Nat} {to : List Int} {V : AV} {h : AH} (s : SV w to V h) : ∀ h, lenOf V h 1 = some to.length := by
  rcases s with ⟨rfl, rfl⟩ | ⟨k, g, rfl, _⟩ <;> intro h <;> rfl
theorem SV.keep {w : Nat} {to : List Int} {V : AV} {h h' : AH} (s : SV w to V h) (hn : h.next ≤ h'.next) (hk : ∀ k, k ≠ w → k < h.next → h'.get k = h.get k) : SV w to V h' := by
  rcases s with ⟨rfl, rfl⟩ | ⟨k, g, rfl, q1, q2, q3⟩
  · exact .inl ⟨rfl, rfl⟩
  · exact .inr ⟨k, g, rfl, by rw [hk k q3 q2]; exact q1, by omega, q3⟩
theorem SV.read {w : Nat} {to : List Int} {V : AV} {h : AH} (s : SV w to V h) {a : Nat} (ha : a < to.length) : ∃ p, evIaddr V h 1 (.int .i64 (a : Int)) = .val p h ∧ evLoad p h false 1 = some (.int .i64 to[a]) := by
  rcases s with ⟨rfl, rfl⟩ | ⟨k, g, rfl, q1, q2, q3⟩
  · simp at ha
  · refine ⟨.ptr k g a, ?_, ?_⟩
    · show okV (cond (Nat.beq 1 1) (bindO (bindO (some a) fun m => cond (Nat.blt m to.length) (some m) none) fun n => some (.ptr k g (Nat.mul (Nat.add 0 n) 1))) none) h = _
      have hb : Nat.blt a to.length = true := Nat.ble_eq_true_of_le ha
      rw [bindO_some, hb]
      show OpR.val (.ptr k g (Nat.mul (Nat.add 0 a) 1)) h = _
      congr 2
      show (0 + a) * 1 = a
      omega
    · rw [load_ptr, q1, bindO_some, loadAt_row, grab_1, List.getElem?_map, List.getElem?_eq_getElem ha]; rfl

section
variable {V : AV} {cl : Nat → CallF} {N : Nat} {to : List Int} {w : Nat}

theorem ren92 (hto : ∀ x ∈ to, x ≤ 1000) (hN : 5000 < N)
    (c72 : ∀ m (k j : Int) h, cl m (.fn 72 [] []) [.int .i64 k, .int .i64 j] .no h = some (.ret (.int .i64 (binders k j)), .no, h))
    (c92 : ∀ m a h, cl (m + 1) (.fn 92 [] []) a .no h = evFn EI (cl m) N 92 a .no h)
    (c130 : ∀ m a h, cl (m + 1) (.fn 130 [] []) a .no h = evFn EI (cl m) N 130 a .no h)
    (c131 : ∀ m a h, cl (m + 1) (.fn 131 [] []) a .no h = evFn EI (cl m) N 131 a .no h) :
    ∀ m t d h e nd, size t + 1 ≤ m → WF 1000 t d → 0 ≤ d → d + size t ≤ 5000 → h.get w = some (.box [.int .i64 e, .int .i64 nd]) → w < h.next → SV w to V h →
      ∃ v h', cl m (.fn 92 [] []) [.ptr w 0 0, enc t, V, .int .i64 d] .no h = some (.ret v, .no, h') ∧ G92 to w e nd t d h v h' := by
  intro m
  induction m with
  | zero => intro t d h e nd hm; omega
  | succ m ih =>
    intro t d h e nd hm hwf hd0 hd1 hg hw hsv
    obtain ⟨k, i, nm, ls, ks⟩ := t
    obtain ⟨hv, hkids⟩ := hwf
    have hsz : size (.mk k i nm ls ks) = 1 + sizes ks := by simp [size]
    rw [hsz] at hm hd1
    have hlen := length_sizes ks
    have hgw : h.objs.get w = some (.box [.int .i64 e, .int .i64 nd]) := hg
    have n1 : ¬ (h.next = h.next + 1) := by omega
    have n2 : ¬ (h.next + 1 = h.next) := by omega
    have n3 : ¬ (w = h.next) := by omega
    have n4 : ¬ (w = h.next + 1) := by omega
    rw [c92]
    refine evFn_H cf92 (pureI _) ?_
    rw [enc_eq]
    unfold b92
    simp only [go_sem, Nat.reduceEqDiff, Nat.reduceAdd]
    obtain ⟨H, hH⟩ : ∃ H : AH, H = ⟨h.next + 1 + 1, h.next, (h.objs.put h.next (.box [.int .i64 k, .int .i64 i, .str nm, .lst (ls.map encL), .lst (ks.map enc)])).put (h.next + 1) (.box [.int .i64 0, .int .i64 0, .str (bs []), .nils, .nils])⟩ := ⟨_, rfl⟩
    rw [← hH]
    have g5 : H.get h.next = some (.box [.int .i64 k, .int .i64 i, .str nm, .lst (ls.map encL), .lst (ks.map enc)]) := by subst hH; simp only [go_sem, n1]
    have g8 : H.get (h.next + 1) = some (.box [.int .i64 0, .int .i64 0, .str (bs []), .nils, .nils]) := by subst hH; simp only [go_sem]
    have gw : H.get w = some (.box [.int .i64 e, .int .i64 nd]) := by subst hH; simp only [go_sem, n3, n4, hgw]
    have gk : ∀ k, k < h.next → H.get k = h.get k := by
      intro k hk
      subst hH
      rw [get_mk, Tr.get_put_other _ _ (by omega), Tr.get_put_other _ _ (by omega)]; rfl
    have gn : H.next = h.next + 2 := by subst hH; rfl
    have gl : H.low = h.next := by subst hH; rfl
    clear hH
    have svH : SV w to V H := hsv.keep (by omega) (fun k _ hk => gk k hk)
    have lenV := svH.len
    simp only [go_sem, Nat.reduceEqDiff, s92_6, g5]
    refine sB_dec (fun hk => ?_) (fun hk => ?_)
    · obtain ⟨hks, hi0, hi1⟩ := hv hk
      subst hk hks
      have nokid : ∀ y, FV (.mk 0 i nm ls []) d y → d ≤ i ∧ y = i - d := by
        intro y hf
        cases hf with
        | here _ h => exact ⟨h, rfl⟩
        | kid hj _ => simp at hj
      simp only [go_sem, Nat.reduceEqDiff, g5]
      refine sB_dec (fun hlt => ?_) (fun hge => ?_)
      · simp only [go_sem, Nat.reduceEqDiff, Nat.reduceAdd, g5, g8]
        refine HQ_keep (.inr rfl) (by rw [low_set]; exact le_minN (by omega) (by omega)) (by simp only [go_sem, Nat.reduceEqDiff, Nat.reduceAdd, r92]; rfl) ?_
        simp only [go_sem]
        have nb : ¬ Bad to (.mk 0 i nm ls []) d := by
          rintro ⟨y, hf, _⟩
          have := nokid y hf
          omega
        refine ⟨by simp only [next_set]; omega, rfl, rfl, fun _ _ _ => rfl, Nat.le_refl _, fun _ _ h => h, fun _ _ => ⟨rfl, rfl, ?_, fun m h b => frzT m h b _ _ _ _ _ (fun m => frz_lst m b _) (fun m => frz_lst m b _)⟩, e, hg, fun _ => rfl, fun _ hb => absurd hb nb⟩
        simp [ren, hlt, enc_eq, AV.norm, AV.norms, encL_norms]
      · have hw1 : IntKind.wrap .i64 (i - d) = i - d := wrap_fits _ (by omega) (by omega)
        obtain ⟨a, ha⟩ : ∃ a : Nat, i - d = (a : Int) := ⟨(i - d).toNat, by omega⟩
        rw [ha] at hw1
        obtain ⟨m, rfl⟩ : ∃ m', m = m' + 1 := ⟨m - 1, by omega⟩
        obtain ⟨v1, h1, e1, f1, f2, f3, f4⟩ := call130 (call := cl m) (n := N) gw (by omega)
        have e1 : cl (m + 1) (.fn 130 [] []) [.ptr w 0 0, .int .i64 24] .no H = some (.ret v1, .no, h1) := by rw [c130]; exact e1
        have k5 : h1.get h.next = some (.box [.int .i64 0, .int .i64 i, .str nm, .lst (ls.map encL), .lst (([] : List T).map enc)]) := by rw [f2 _ (by omega)]; exact g5
        have k8 : h1.get (h.next + 1) = some (.box [.int .i64 0, .int .i64 0, .str (bs []), .nils, .nils]) := by rw [f2 _ (by omega)]; exact g8
        have fails : sg to (a : Int) < 0 → ∀ tm x, nth tm 8 = .ptr (h.next + 1) 0 0 → x = .box [.int .i64 0, .int .i64 i, .str nm, .lst (ls.map encL), .lst (([] : List T).map enc)] →
            HQ h r92 (G92 to w e nd (.mk 0 i nm ls []) d h) .ret ⟨tm, ⟨[], .no, none, 92⟩⟩ (h1.set (h.next + 1) x) := by
          rintro hs tm x t8 rfl
          have isbad : Bad to (.mk 0 i nm ls []) d := ⟨i - d, .here rfl (by omega), by rw [ha]; exact hs⟩
          by_cases he : e = 0
          · obtain ⟨q1, q2, q3⟩ := f3 he
            refine HQ_turn (.inr rfl) (by rw [low_set]; have := minN_le_r (h.next + 1) h1.low; omega) (by simp only [go_sem, Nat.reduceAdd, r92, t8]; rfl) ?_
            have l1 := minN_le_r (h.next + 1) h1.low
            have l2 := minN_le (minN (h.next + 1) h1.low) h.low
            refine ⟨by simp only [next_set]; omega, rfl, rfl, fun k hk hk2 => ?_, ?_, fun b b1 b2 => ?_, fun _ hnb => absurd isbad hnb, 24, ?_, fun h0 => absurd he h0, fun _ _ => ⟨rfl, ?_⟩⟩
            · show (h1.set (h.next + 1) _).get k = _
              rw [get_set_o (by omega), f2 _ hk, gk _ hk2]
            · rw [low_set]; exact minN_le_r _ _
            · rw [low_set]; exact le_minN (le_minN (by omega) (q3 b b1 (by omega))) b2
            · show (h1.set (h.next + 1) _).get w = _
              rw [get_set_o n4]; exact q1
            · rw [low_set]
              show minN (minN (h.next + 1) h1.low) h.low ≤ w
              omega
          · have := f4 he
            subst this
            refine HQ_keep (.inr rfl) (by rw [low_set]; exact le_minN (by omega) (by omega)) (by simp only [go_sem, Nat.reduceAdd, r92, t8]; rfl) ?_
            simp only [go_sem]
            exact ⟨by simp only [next_set]; omega, rfl, rfl, fun _ _ _ => rfl, Nat.le_refl _, fun _ _ h => h, fun h0 => absurd h0 he, e, hg, fun _ => rfl, fun h0 => absurd h0 he⟩
        simp only [go_sem, Nat.reduceEqDiff, hw1, ha, g5, lenV]
        by_cases hal : to.length ≤ a
        · have hb1 : decide ((to.length : Int) ≤ (a : Int)) = true := by simp; omega
          simp only [go_sem, Nat.reduceEqDiff, Nat.reduceAdd, reduceCtorEq, hb1, e1, k5, k8]
          exact fails (by rw [sg_out rfl hal]; decide) _ _ (by simp only [go_sem, Nat.reduceEqDiff]) rfl
        · have hal : a < to.length := by omega
          have hb1 : decide ((to.length : Int) ≤ (a : Int)) = false := by simp; omega
          obtain ⟨pp, hia, hld⟩ := svH.read hal
          have hsg := sg_in (to := to) (y := (a : Int)) rfl hal
          by_cases hneg : to[a] < 0
          · have hb2 : decide (to[a] < 0) = true := by simpa using hneg
            simp only [go_sem, Nat.reduceEqDiff, Nat.reduceAdd, reduceCtorEq, hb1, hia, hld, hb2, e1, k5, k8]
            exact fails (by rw [hsg]; exact hneg) _ _ (by simp only [go_sem, Nat.reduceEqDiff]) rfl
          · have hb2 : decide (to[a] < 0) = false := by simpa using hneg
            have hle := hto to[a] (List.getElem_mem hal)
            have hw2 : IntKind.wrap .i64 (65535 - d) = 65535 - d := wrap_fits _ (by omega) (by omega)
            have hb3 : decide (65535 - d < to[a]) = false := by simp; omega
            have hw3 : IntKind.wrap .i64 (to[a] + d) = to[a] + d := wrap_fits _ (by omega) (by omega)
            obtain ⟨v2, h2, e2, rfl, rfl⟩ := call131 (call := cl m) (n := N) (h := H) (w := w) (to[a] + d) (by omega)
            have e2 : cl (m + 1) (.fn 131 [] []) [.ptr w 0 0, .int .i64 (to[a] + d)] .no H = some (.ret (.agg [.int .i64 0, .int .i64 (to[a] + d), .str (bs []), .nils, .nils]), .no, ⟨H.next + 1, H.low, H.objs⟩) := by rw [c131]; exact e2
            have g8' : H.objs.get (h.next + 1) = some (.box [.int .i64 0, .int .i64 0, .str (bs []), .nils, .nils]) := g8
            simp only [go_sem, Nat.reduceEqDiff, Nat.reduceAdd, reduceCtorEq, hb1, hia, hld, hb2, hw2, hb3, hw3, e2, g8']
            refine HQ_keep (.inr rfl) (by show h.next ≤ minN (h.next + 1) H.low; exact le_minN (by omega) (by omega)) (by simp only [go_sem, Nat.reduceEqDiff, Nat.reduceAdd, r92]; rfl) ?_
            simp only [go_sem]
            have nb : ¬ Bad to (.mk 0 i nm ls []) d := by
              rintro ⟨y, hf, hs⟩
              obtain ⟨_, rfl⟩ := nokid y hf
              rw [ha, hsg] at hs
              exact hneg hs
            refine ⟨by show h.next ≤ H.next + 1; omega, rfl, rfl, fun _ _ _ => rfl, Nat.le_refl _, fun _ _ h => h, fun _ _ => ⟨rfl, rfl, ?_, fun m h b => frzT m h b _ _ _ _ _ (fun m => frz_nils m b) (fun m => frz_nils m b)⟩, e, hg, fun _ => rfl, fun _ hb => absurd hb nb⟩
            have : ¬ i < d := hge
            simp [ren, this, enc_eq, AV.norm, AV.norms, ha, hsg]
    · have hbk := bad_kids (to := to) (i := i) (nm := nm) (ls := ls) (ks := ks) (d := d) hk
      simp only [go_sem, s92_5, s92_4]
      have nb0 : ¬ BadUp to k ks d 0 := by
        rintro ⟨a, t, h, _⟩
        omega
      refine R_loop (I92 V to w e nd k i nm ls ks d h) ks.length (by omega) ⟨_, 0, .nils, [], Nat.zero_add _, rfl, by simp only [go_sem, reduceCtorEq], by simp only [go_sem, Nat.reduceEqDiff], by simp only [go_sem, Nat.reduceEqDiff], by simp only [go_sem, Nat.reduceEqDiff], by simp only [go_sem, Nat.reduceEqDiff], by simp only [go_sem, Nat.reduceEqDiff], by simp only [go_sem]; rfl,
        ⟨g5, g8, by omega, fun k _ hk => gk k hk, own_nil _ _ _ _, rfl, by omega, by omega, e, gw, fun _ => rfl, fun _ h => absurd h nb0, fun he _ => ⟨he, by omega, fun a x t hx => by simp at hx⟩⟩⟩ ?_
      clear nb0 g5 g8 gw gk gn gl svH
      rintro j fr h' ⟨tm, p, v, out, hp, rfl, t0, t2, t3, t5, t8, t10, t11, J⟩
      obtain ⟨b5, b8, jn, jk, jo, jl, jw, jb, e', je, j1, j2, j3⟩ := J
      unfold b92_1
      simp only [go_sem, Nat.reduceEqDiff, b5, t5, t11]
      refine sB_dec (fun hlt => ?_) (fun hge => ?_)
      · have hlt : p < ks.length := by omega
        have hget : ks[p]? = some ks[p] := List.getElem?_eq_getElem hlt
        have ha := fun h => iaddr_map enc_cells hget .i64 h
        have hb := binders_le k p
        have hss := size_mem hget
        have hw1 : IntKind.wrap .i64 (d + binders k p) = d + binders k p := wrap_fits _ (by omega) (by omega)
        have hw2 := wrap_succ p (by omega)
        have c72' := c72 m k p
        obtain ⟨v2, h2, ecall, G⟩ := ih ks[p] (d + binders k p) h' e' nd (by omega) (hkids p _ hget) (by omega) (by omega) je (by omega) (hsv.keep (by omega) jk)
        obtain ⟨x1, x2, x3, x4, x5, rfl⟩ := agg5 G.cells G.agg
        have o2 : Own (h.next + 2) 5 true h2 v out := own_keep jo G.next (fun k hb hk => G.keep k (by omega) hk)
        have gn2 := G.next
        obtain ⟨v3, h3, e3, o3, n3', k3, l3, l3', _⟩ := own_append (x := .agg [x1, x2, x3, x4, x5]) (z := [.int .i64 0, .int .i64 0, .str (bs []), .nils, .nils]) (bytes := 80) o2 (by omega) rfl rfl rfl rfl (by omega) (by decide)
        simp only [go_sem, Nat.reduceEqDiff, Nat.reduceAdd, Nat.reduceMul, Nat.reduceLT, reduceCtorEq, s92_0, b5, t0, t2, t3, t5, t10, t11, ha, c72', hw1, ecall, e3, hw2]
        refine ⟨j - 1, by omega, _, p + 1, v3, out ++ [.agg [x1, x2, x3, x4, x5]], by omega, rfl, by simp only [go_sem, reduceCtorEq, *], by simp only [go_sem, Nat.reduceEqDiff, *], by simp only [go_sem, Nat.reduceEqDiff, *], by simp only [go_sem, Nat.reduceEqDiff, *], by simp only [go_sem, Nat.reduceEqDiff, *], by simp only [go_sem, Nat.reduceEqDiff, *], by simp only [go_sem, *], ?_⟩
        obtain ⟨e2, y1, y2, y3⟩ := G.err
        have glo := G.low
        refine ⟨?_, ?_, by omega, fun k hk hk2 => ?_, o3, by simp [jl], by omega, l3 w (by omega) (G.lowb w (Nat.le_refl _) jb), e2, ?_, fun he => ?_, fun he hbad => ?_, fun he hnb => ?_⟩
        · rw [k3 _ (by omega), G.keep _ (by omega) (by omega)]; exact b5
        · rw [k3 _ (by omega), G.keep _ (by omega) (by omega)]; exact b8
        · rw [k3 _ (by omega), G.keep _ hk (by omega)]; exact jk k hk hk2
        · rw [k3 _ (by omega)]; exact y1
        · have q := j1 he
          rw [← q]; exact y2 (by rw [q]; exact he)
        · by_cases hup : BadUp to k ks d p
          · obtain ⟨q1, q2⟩ := j2 he hup
            refine ⟨?_, by omega⟩
            rw [← q1]; exact y2 (by rw [q1]; decide)
          · obtain ⟨q1, _, _⟩ := j3 he hup
            rcases (badUp_succ hget).1 hbad with h | h
            · exact absurd h hup
            · obtain ⟨q2, q3⟩ := y3 q1 h
              exact ⟨q2, by omega⟩
        · have hup : ¬ BadUp to k ks d p := fun h => hnb ((badUp_succ hget).2 (.inl h))
          have hnk : ¬ Bad to ks[p] (d + binders k p) := fun h => hnb ((badUp_succ hget).2 (.inr h))
          obtain ⟨q1, q2, q3⟩ := j3 he hup
          obtain ⟨z1, z2, z3, z4⟩ := G.ok q1 hnk
          refine ⟨?_, l3 _ (by omega) (by omega), fun a x t hx ht => ?_⟩
          · have : h2.get w = h'.get w := by show h2.objs.get w = h'.objs.get w; rw [z2]
            rw [this, je] at y1
            injection y1 with y1
            injection y1 with y1
            simp only [List.cons.injEq, AV.int.injEq, and_true, true_and] at y1
            omega
          · rcases Nat.lt_or_ge a out.length with q | q
            · rw [List.getElem?_append_left q] at hx
              exact q3 a x t hx ht
            · rw [List.getElem?_append_right q] at hx
              have : a - out.length = 0 := by
                rcases Nat.eq_zero_or_pos (a - out.length) with h | h
                · exact h
                · rw [List.getElem?_eq_none (by simp; omega)] at hx; cases hx
              rw [this] at hx
              simp at hx
              subst hx
              have : a = p := by omega
              subst this
              rw [hget] at ht; cases ht
              exact ⟨z3, z4⟩
      · have : p = ks.length := by omega
        subst this
        obtain ⟨hv1, hv2⟩ := own_shape jo
        have hv3 : ([v] : List AV).length = 1 := rfl
        simp only [go_sem, Nat.reduceEqDiff, Nat.reduceAdd, s92_3, s92_2, b5, b8, t5, t8, t10, hv1, hv2, hv3, n2]
        have hres : ∀ tm, nth tm 8 = .ptr (h.next + 1) 0 0 → evRes r92 tm ((h'.set h.next (.box [.int .i64 k, .int .i64 i, .str nm, .lst (ls.map encL), v])).set (h.next + 1) (.box [.int .i64 k, .int .i64 i, .str nm, .lst (ls.map encL), v])) = some [.agg [.int .i64 k, .int .i64 i, .str nm, .lst (ls.map encL), v]] := by
          intro tm t8
          simp only [go_sem, Nat.reduceAdd, r92, t8]
        obtain ⟨h4, hh4⟩ : ∃ h4, h4 = (h'.set h.next (.box [.int .i64 k, .int .i64 i, .str nm, .lst (ls.map encL), v])).set (h.next + 1) (.box [.int .i64 k, .int .i64 i, .str nm, .lst (ls.map encL), v]) := ⟨_, rfl⟩
        rw [← hh4] at hres ⊢
        have k4 : ∀ a, ¬ a = h.next → ¬ a = h.next + 1 → h4.get a = h'.get a := fun a q1 q2 => by rw [hh4, get_set_o q2, get_set_o q1]
        have nx4 : h4.next = h'.next := by rw [hh4, next_set, next_set]
        have lo4 : h4.low = minN (h.next + 1) (minN h.next h'.low) := by rw [hh4, low_set, low_set]
        have l1 := minN_le_r (h.next + 1) (minN h.next h'.low)
        have l2 := minN_le_r h.next h'.low
        clear hh4
        by_cases hlow : h.next ≤ h'.low
        · refine HQ_keep (.inr rfl) (by rw [lo4]; exact le_minN (by omega) (le_minN (by omega) hlow)) (hres _ (by simp only [go_sem, Nat.reduceEqDiff, t8])) ?_
          have hfz : frz 4 h4 h.next (one [.agg [.int .i64 k, .int .i64 i, .str nm, .lst (ls.map encL), v]]) = .agg [.int .i64 k, .int .i64 i, .str nm, .lst (ls.map encL), frz 3 h4 h.next v] := by
            rw [one_1, frz_aggS]; simp [frz_int, frz_str, frz_lst]
          rw [hfz]
          refine ⟨by show h.next ≤ h4.next; omega, rfl, rfl, fun _ _ _ => rfl, Nat.le_refl _, fun _ _ h => h, fun he hnb => ⟨rfl, rfl, ?_⟩, e, hg, fun _ => rfl, fun he hb => ?_⟩
          · obtain ⟨_, _, q3⟩ := j3 he (fun h => hnb (hbk.2 h))
            have o4 : Own (h.next + 2) 5 true h4 v out := own_keep jo (by omega) (fun a q1 q2 => k4 a (by omega) (by omega))
            have hst : ∀ x ∈ out, ∀ m h b, frz m h b x = x := by
              intro x hx
              obtain ⟨a, hla, rfl⟩ := List.mem_iff_getElem.1 hx
              exact (q3 a _ ks[a] (List.getElem?_eq_getElem hla) (List.getElem?_eq_getElem (by omega))).2
            have hno : AV.norms out = (rens to k 0 ks d).map enc := by
              apply List.ext_getElem?
              intro a
              rw [norms_map, List.getElem?_map, List.getElem?_map, rens_get, Nat.zero_add]
              rcases Nat.lt_or_ge a ks.length with q | q
              · have e1 : out[a]? = some (out[a]'(by omega)) := List.getElem?_eq_getElem (by omega)
                have e2 : ks[a]? = some ks[a] := List.getElem?_eq_getElem q
                have := (q3 a _ _ e1 e2).1
                rw [e1, e2]
                simp only [Option.map_some, this]
              · rw [List.getElem?_eq_none (by omega), List.getElem?_eq_none (by omega)]; rfl
            have hren : ren to (.mk k i nm ls ks) d = .mk k i nm ls (rens to k 0 ks d) := by simp [ren, hk]
            rcases own_frzB (fb := h.next) (m := 2) o4 (by omega) (fun h => by cases h) (fun x hx => hst x hx 2 h4 h.next) with ⟨_, ho, ef⟩ | ef
            · rw [ef, hren]
              refine ⟨?_, fun m h b => frzT m h b _ _ _ _ _ (fun m => frz_lst m b _) (fun m => frz_nils m b)⟩
              rw [enc_eq, ← hno, ho]
              simp [AV.norm, AV.norms, encL_norms]
            · rw [ef, hren]
              refine ⟨?_, fun m h b => frzT m h b _ _ _ _ _ (fun m => frz_lst m b _) (fun m => frz_lst m b _)⟩
              rw [enc_eq, ← hno]
              simp [AV.norm, AV.norms, encL_norms]
          · have := (j2 he (hbk.1 hb)).2
            omega
        · refine HQ_turn (.inr rfl) (by omega) (hres _ (by simp only [go_sem, Nat.reduceEqDiff, t8])) ?_
          have l3 := minN_le h4.low h.low
          refine ⟨by show h.next ≤ h4.next; omega, rfl, rfl, fun a q1 q2 => ?_, minN_le_r _ _, fun b b1 b2 => le_minN (by rw [lo4]; exact le_minN (by omega) (le_minN (by omega) (by omega))) b2, fun he hnb => absurd (j3 he (fun h => hnb (hbk.2 h))).2.1 hlow, e', ?_, j1, fun he hb => ?_⟩
          · show h4.get a = _
            rw [k4 a (by omega) (by omega)]; exact jk a q1 q2
          · show h4.get w = _
            rw [k4 w n3 n4]; exact je
          · obtain ⟨q1, q2⟩ := j2 he (hbk.1 hb)
            exact ⟨q1, by show minN h4.low h.low ≤ w; omega⟩
end
end Go.Proofs.YtnacljdablhbgaaGreat
