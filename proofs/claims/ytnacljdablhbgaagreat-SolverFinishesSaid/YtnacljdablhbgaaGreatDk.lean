/- SolverFinishes: Solve of the reference (no condition). -/
import Derived.Test.YtnacljdablhbgaaGreatDj
namespace Go.Proofs.YtnacljdablhbgaaGreat
open Go.AG
attribute [local go_sem] RD_max RD_lookup birth_lookup build_1i build_2i build_p1
def encBd (b : LL × LL) : AV := .agg [.int .i64 b.1.c, .lst (b.1.vars.map encV), .int .i64 b.2.c, .lst (b.2.vars.map encV)]
theorem encBd_cells (b : LL × LL) : (encBd b).cells.length = 4 := rfl
def isLs (vals : List LL) (a : AV) : Prop := ∃ es : List AV, a = .lst es ∧ es.length = vals.length ∧ ∀ (i : Nat) a x, es[i]? = some a → vals[i]? = some x → Lv a x
def isSol (r : Option (List LL)) (v : AV) : Prop := match r with
  | some vals => ∃ a, v = .tup [a, .int .i64 0, .int .i64 0] ∧ isLs vals a
  | none => ∃ i : Int, v = .tup [.nils, .int .i64 i, .int .i64 15]
theorem VS.frz {kV : Nat} {vals : List LL} {h : AH} (s : VS kV vals h) {fb : Nat} (hf : fb ≤ kV) (m : Nat) : isLs vals (AG.frz (m + 3) h fb (.row kV 0 2 0 vals.length)) := by
  obtain ⟨⟨es, e1, e2, e3, e4⟩, lt⟩ := s
  have o : Own kV 2 true h (.row kV 0 2 0 vals.length) es := ⟨e3, .inr ⟨kV, 0, by rw [e2], e1, lt, Nat.le_refl _⟩⟩
  have hl : ∀ x ∈ es, AG.frz (m + 2) h fb x = x := by
    intro x hx
    obtain ⟨i, hi⟩ := List.mem_iff_getElem?.1 hx
    have hil := (List.getElem?_eq_some_iff.1 hi).1
    obtain ⟨V, rfl, _, _, _, hfz, _⟩ := (e4 i x _ hi (List.getElem?_eq_getElem (by omega))).ex
    rw [frz_aggS]; simp only [List.map_cons, List.map_nil, frz_int, hfz]
  rcases own_frzB (m := m + 2) o hf (fun e => by cases e) hl with ⟨e, _⟩ | e
  · cases e
  · exact ⟨es, e, e2, e4⟩
theorem zero_VS (n : Nat) (h : AH) (hn : n ≤ 5000) : ∃ h', evMkSlice h true 2 32 [.int .i64 0, .nils] (.int .i64 (n : Int)) (.int .i64 (n : Int)) = some (.row h.next 0 2 0 n, h') ∧ VS h.next (List.replicate n ⟨0, []⟩) h' ∧ h'.next = h.next + 1 ∧ (∀ k, k < h.next → h'.get k = h.get k) ∧ h'.low = h.low := by
  have e : asBnd (.int .i64 (n : Int)) 9223372036854775807 = some n := by
    show bindO (some n) (fun m => cond (Nat.ble m 9223372036854775807) (some m) none) = _
    have h1 : n ≤ 9223372036854775807 := by omega
    rw [bindO_some, ble_t h1]; rfl
  refine ⟨h.new (.row 0 2 true (flat (List.replicate n (.agg [.int .i64 0, .nils]))) 0), ?_, ⟨⟨List.replicate n (.agg [.int .i64 0, .nils]), get_new_s _ _, by simp, fun x hx => ?_, fun i a x ha hx => ?_⟩, by rw [next_new]; omega⟩, next_new _ _, fun k hk => get_new_o (by omega), low_new _ _⟩
  · unfold evMkSlice
    rw [e, bindO_some, bindO_some]
    have h2 : n * 32 ≤ 140737488355328 := by omega
    show cond (and (Nat.beq n n) (and (Nat.ble (n * 32) 140737488355328) (Nat.beq (len [AV.int .i64 0, .nils]) 2))) _ _ = _
    rw [beq_t, ble_t h2, flat_replicate]; rfl
  · rw [List.eq_of_mem_replicate hx]; exact ⟨rfl, rfl⟩
  · rw [List.eq_of_mem_replicate (List.mem_of_getElem? ha), List.eq_of_mem_replicate (List.mem_of_getElem? hx)]; exact Lv_nils 0
structure J57 (kV : Nat) (h0 h : AH) (vals : List LL) : Prop where
  vs : VS kV vals h
  keep : ∀ k, k < h0.next → h.get k = h0.get k
  low : h0.next ≤ h.low
def I57a (kV n : Nat) (bs : List (LL × LL)) (h0 : AH) (j : Nat) (fr : AF) (h : AH) : Prop := ∃ tm vals again, fr = ⟨tm, ⟨[], .no, none, 57⟩⟩ ∧ J57 kV h0 h vals ∧ (∀ y ∈ vals, Pm y) ∧ vals.length = n ∧ j = cond again (908 * n + 1 - wS vals) 0 ∧
  (cond again (solP bs vals) (some vals)) = solP bs (List.replicate n ⟨0, []⟩) ∧
  nth tm 1 = .lst (bs.map encBd) ∧ nth tm 9 = .row kV 0 2 0 n ∧ nth tm 10 = .bool again
def I57b (kV n : Nat) (bs : List (LL × LL)) (vals0 : List LL) (h0 : AH) (j : Nat) (fr : AF) (h : AH) : Prop := ∃ tm m vals again, m + j = bs.length ∧ fr = ⟨tm, ⟨[], .no, none, 57⟩⟩ ∧ J57 kV h0 h vals ∧ (∀ y ∈ vals, Pm y) ∧ vals.length = n ∧
  (bs.take m).foldl stepB (some (vals0, false)) = some (vals, again) ∧
  nth tm 1 = .lst (bs.map encBd) ∧ nth tm 9 = .row kV 0 2 0 n ∧ nth tm 10 = .bool again ∧ nth tm 11 = .int .i64 (m : Int)
theorem call57 {K : CallF} (hK : Runs K) (hv : KV K) (m0 : Nat) (n : Nat) (bs : List (LL × LL)) (h : AH) (hn : n ≤ 30) (hbl : bs.length ≤ 100) (hb : ∀ b ∈ bs, Okb n b ∧ b.1.vars.length ≤ 10 ∧ b.2.vars.length ≤ 10)
    (h50 : ∀ H : AH, ∃ nx, H.next ≤ nx ∧ cK K (m0 + 7) (.fn 50 [] []) [.int .i64 (n : Int), .lst (bs.map encBd)] .no H = some (.ret (.tup [.int .i64 0, .int .i64 0]), .no, ⟨nx, H.low, H.objs⟩)) :
    ∃ v h', evFn EF (cK K (m0 + 7)) 30000 57 [.int .i64 (n : Int), .lst (bs.map encBd)] .no h = some (.ret v, .no, h') ∧ Gx (isSol (solP bs (List.replicate n ⟨0, []⟩))) h v h' := by
  refine evFn_H cf57 (pureF _) ?_
  unfold b57
  obtain ⟨nx1, w1, w2⟩ := h50 ⟨h.next, h.next, h.objs⟩
  have w1 : h.next ≤ nx1 := w1
  obtain ⟨H2, e2, vs2, z1, z2, z3⟩ := zero_VS n ⟨nx1, h.next, h.objs⟩ (by omega)
  have e2 : evMkSlice ⟨nx1, h.next, h.objs⟩ true 2 32 [.int .i64 0, .nils] (.int .i64 (n : Int)) (.int .i64 (n : Int)) = some (.row nx1 0 2 0 n, H2) := e2
  have vs2 : VS nx1 (List.replicate n ⟨0, []⟩) H2 := vs2
  have z1 : H2.next = nx1 + 1 := z1
  have z2 : ∀ k, k < nx1 → H2.get k = h.objs.get k := z2
  have z3 : H2.low = h.next := z3
  have hzp : ∀ y ∈ List.replicate n (⟨0, []⟩ : LL), Pm y := fun y hy => by rw [List.eq_of_mem_replicate hy]; exact Pm.zero
  simp only [go_sem, Nat.reduceEqDiff, reduceCtorEq, s57_8, w2, s57_7, e2, s57_6]
  refine R_loop (I57a nx1 n bs h) (908 * n + 1 - wS (List.replicate n ⟨0, []⟩)) (by omega) ⟨_, List.replicate n ⟨0, []⟩, true, rfl, ⟨vs2, fun k hk => z2 k (by omega), by omega⟩, hzp, by simp, rfl, rfl, by simp only [go_sem, Nat.reduceEqDiff], by simp only [go_sem, Nat.reduceEqDiff], by simp only [go_sem]⟩ ?_
  have hnV : h.next ≤ nx1 := w1
  clear vs2 z1 z2 z3 e2 w2 w1
  rintro j fr H ⟨tm, vals, again, rfl, J, hp, hl, hj, hs, t1, t9, t10⟩
  unfold b57_4
  cases again with
  | false =>
    have hs : some vals = solP bs (List.replicate n ⟨0, []⟩) := hs
    rw [← hs]
    simp only [go_sem, Nat.reduceEqDiff, t10, s57_5, t9]
    have := J.vs.lt
    refine HQ_gx (.inr rfl) J.low (by omega) (by simp only [go_sem, Nat.reduceEqDiff, r57]; rfl) ⟨AG.frz 3 H h.next (.row nx1 0 2 0 n), ?_, ?_⟩
    · show AG.frz 4 H h.next (.tup [.row nx1 0 2 0 n, .int .i64 0, .int .i64 0]) = _
      rw [frz_tupS]; simp only [List.map_cons, List.map_nil, frz_int]
    · rw [← hl]; exact J.vs.frz hnV 0
  | true =>
    have hs : solP bs vals = solP bs (List.replicate n ⟨0, []⟩) := hs
    have hj : j = 908 * n + 1 - wS vals := hj
    have hwm := wS_max hp
    have hlen : ∀ H, lenOf (.lst (bs.map encBd)) H 1 = some bs.length := fun H => by rw [len_lst, List.length_map]
    have hbk : ∀ b ∈ bs, Okb vals.length b := fun b hh => by rw [hl]; exact (hb b hh).1
    simp only [go_sem, t10, s57_3]
    refine R_loop (I57b nx1 n bs vals h) bs.length (by omega) ⟨_, 0, vals, false, Nat.zero_add _, rfl, J, hp, hl, rfl, by simp only [go_sem, Nat.reduceEqDiff, t1], by simp only [go_sem, Nat.reduceEqDiff, t9], by simp only [go_sem, Nat.reduceEqDiff], by simp only [go_sem]; rfl⟩ ?_
    clear t1 t9 t10 J
    rintro jj fr H ⟨tm, q, vals1, again, hq, rfl, J, hp1, hl1, hf, t1, t9, t10, t11⟩
    unfold b57_2
    simp only [go_sem, Nat.reduceEqDiff, t1, t11, hlen]
    refine sB_dec (fun hlt => ?_) (fun hge => ?_)
    · have hlt : q < bs.length := by omega
      obtain ⟨b, hbq⟩ : ∃ b, bs[q]? = some b := ⟨_, List.getElem?_eq_getElem hlt⟩
      have hw2 := wrap_succ q (by omega)
      obtain ⟨⟨o1, o2, o3, o4⟩, p1, p2⟩ := hb b (List.mem_of_getElem? hbq)
      rw [← hl1] at o3 o4 t9
      have ia := fun H => iaddr_map encBd_cells hbq .i64 H
      have ebd : encBd b = .agg [.int .i64 b.1.c, .lst (b.1.vars.map encV), .int .i64 b.2.c, .lst (b.2.vars.map encV)] := rfl
      rw [ebd] at ia
      obtain ⟨v, h', c1, c2⟩ := c100 hK hv m0 nx1 b.1 b.2 _ _ (.lst (b.1.vars.map encV)) (.lst (b.2.vars.map encV)) vals1 H rfl rfl (Lv_lst b.1.c b.1.vars) (Lv_lst b.2.c b.2.vars) J.vs o1 o2 o3 o4 p1 p2 hp1 (by omega)
      obtain ⟨⟨f1, f2, f3⟩, c2⟩ := c2
      have hfold : (bs.take (q + 1)).foldl stepB (some (vals, false)) = stepB (some (vals1, again)) b := by rw [take_succ_get hbq, List.foldl_append, hf]; rfl
      have hrest : passP bs vals = (bs.drop (q + 1)).foldl stepB (stepB (some (vals1, again)) b) := by
        unfold passP
        rw [← hfold, ← List.foldl_append, List.take_append_drop]
      have hVlt := J.vs.lt
      cases hvis : visP b.1 b.2 vals1 with
      | none =>
        rw [hvis] at c2
        have c2 : v = .tup [.bool false, .int .i64 15] := c2
        subst c2
        have hpn : passP bs vals = none := by rw [hrest, show stepB (some (vals1, again)) b = none by unfold stepB; simp only [hvis], stepB_none]
        have hsn : solP bs (List.replicate n ⟨0, []⟩) = none := by rw [← hs, solP_step hbk hp, hpn]
        rw [hsn]
        simp only [go_sem, Nat.reduceEqDiff, Nat.reduceAdd, Int.reduceEq, s57_1, t9, t1, t11, ia, c1, s57_0]
        refine HQ_gx (.inr rfl) (f3 h.next J.low hnV) (by omega) (by simp only [go_sem, Nat.reduceEqDiff, r57]; rfl) ⟨(q : Int), ?_⟩
        show AG.frz 4 _ _ (.tup [.nils, .int .i64 (q : Int), .int .i64 15]) = _
        rw [frz_tupS]; simp only [List.map_cons, List.map_nil, frz_int, frz_nils]
      | some r =>
        obtain ⟨v1, ch⟩ := r
        rw [hvis] at c2
        obtain ⟨c2, c3⟩ : v = .tup [.bool ch, .int .i64 0] ∧ VS nx1 v1 h' := c2
        subst c2
        obtain ⟨g1, g2, g3⟩ := vis_grow o1 o2 o3 o4 hp1 hvis
        have g2 : v1.length = vals1.length := g2
        have hst : stepB (some (vals1, again)) b = some (v1, again || ch) := by unfold stepB; simp only [hvis]
        have JJ : J57 nx1 h h' v1 := ⟨c3, fun k hk => (f2 k (by omega) (by omega)).trans (J.keep k hk), f3 h.next J.low hnV⟩
        cases again with
        | true =>
          simp only [go_sem, Nat.reduceEqDiff, Nat.reduceAdd, s57_1, t9, t1, t11, ia, c1, s57_0, t10, hw2]
          exact ⟨jj - 1, by omega, _, q + 1, v1, true, by omega, rfl, JJ, g1, by omega, by rw [hfold, hst, Bool.true_or], by simp only [go_sem, Nat.reduceEqDiff, t1], by simp only [go_sem, Nat.reduceEqDiff, t9, hl1], by simp only [go_sem, Nat.reduceEqDiff], by simp only [go_sem]⟩
        | false =>
          simp only [go_sem, Nat.reduceEqDiff, Nat.reduceAdd, s57_1, t9, t1, t11, ia, c1, s57_0, t10, hw2]
          exact ⟨jj - 1, by omega, _, q + 1, v1, ch, by omega, rfl, JJ, g1, by omega, by rw [hfold, hst, Bool.false_or], by simp only [go_sem, Nat.reduceEqDiff, t1], by simp only [go_sem, Nat.reduceEqDiff, t9, hl1], by simp only [go_sem, Nat.reduceEqDiff], by simp only [go_sem]⟩
    · have hme : q = bs.length := by omega
      subst hme
      rw [List.take_length] at hf
      have hpass : passP bs vals = some (vals1, again) := hf
      obtain ⟨k1, k2, k3⟩ := fold_grow bs hbk hp hf
      have hstep := solP_step hbk hp
      rw [hpass] at hstep
      have hwm1 := wS_max hp1
      simp only [go_sem]
      refine ⟨cond again (908 * n + 1 - wS vals1) 0, ?_, _, vals1, again, rfl, J, hp1, hl1, rfl, ?_, by simp only [go_sem, Nat.reduceEqDiff, t1], by simp only [go_sem, Nat.reduceEqDiff, t9], by simp only [go_sem, Nat.reduceEqDiff, t10]⟩
      · cases again with
        | false => show 0 < j; rw [hl] at hwm; omega
        | true =>
          rcases k3 with ⟨_, k⟩ | ⟨_, k⟩
          · cases k
          · have k : wS vals < wS vals1 := k
            show 908 * n + 1 - wS vals1 < j
            rw [hl1] at hwm1
            omega
      · rw [← hs, hstep]
        cases again <;> rfl
theorem yld_R2 {call : CallF} {n l : Nat} {args : List AV} {h : AH} {st : LoopState} {pend : Option AEx} {tm : Tm} {ps : List Nat} {az b : ACode} {f : FuncId} {P : Bool → AH → Prop} (hl : h.get l = some (.loop st pend tm ps az b f)) (hlen : args.length = ps.length)
    (hR : R call n [.code az] (fun e fr1 h1 => e = .normal ∧ ∃ h2, yldBegin h1 l = some h2 ∧ R call n [.code b] (fun e2 fr2 h3 => fr2.cx.dfs = [] ∧ ((e2 = .normal ∧ ∃ h4, yldSet h3 l .ready none = some h4 ∧ P true h4) ∨ (e2 = .ret ∧ ∃ h4, yldSet h3 l .done (some .ret) = some h4 ∧ P false h4))) .normal fr1 h2) .normal ⟨putAll ps args tm, ⟨[], .no, some l, f⟩⟩ h) :
    ∃ t h', evYld call n l args h = some (.ret (.bool t), .no, h') ∧ P t h' := by
  obtain ⟨e, fr1, h1, q1, rfl, h2, q2, e2, fr2, h3, q3, q4, q5⟩ := hR
  have key : ∀ t h', yldEx e2 l h3 = some (AOut.ret (.bool t), RC.no, h') → evYld call n l args h = some (.ret (.bool t), .no, h') := by
    intro t h' hq
    unfold evYld
    rw [hl, bindO_some]
    show cond (Nat.beq (len args) (len ps)) _ _ = _
    rw [len_eq, len_eq, hlen, beq_t, cond_true]
    unfold yldBody
    rw [q1, bindO_some]
    show bindO (yldBegin h1 l) _ = _
    rw [q2, bindO_some, q3, bindO_some]
    show cond (nilL fr2.cx.dfs) _ _ = _
    rw [q4]
    exact hq
  rcases q5 with ⟨rfl, h4, q6, hP⟩ | ⟨rfl, h4, q6, hP⟩
  · exact ⟨true, h4, key _ _ (by show yldRet true (yldSet h3 l .ready none) = _; rw [q6]; rfl), hP⟩
  · exact ⟨false, h4, key _ _ (by show yldRet false (yldSet h3 l .done (some .ret)) = _; rw [q6]; rfl), hP⟩
theorem R_range_ret {call : CallF} {n : Nat} {k : List It} {Q : AEx → AF → AH → Prop} {f : AX} {ps : List Nat} {az b : ACode} {tm : Tm} {ds : List DF} {rc : RC} {fid : FuncId} {h h2 : AH} {v : AV} {rc' : RC} {st : LoopState} {tm' : Tm} {ps' : List Nat} {as' b' : ACode} {fid' : FuncId} (p q : Nat) (hp : h.next = p) (hq : p + 1 = q)
    (hc : call (ev f tm) [.yld q] .no ((h.new (.dfd false)).new (.loop .ready none tm ps az b fid)) = some (.ret v, rc', h2)) (hl : h2.get q = some (.loop st (some .ret) tm' ps' as' b' fid')) (hb : isBusy st = false)
    (hR : R call n k Q .ret ⟨tm, ⟨.mark p :: ds, rc, none, fid⟩⟩ (h2.set q (.loop .exhausted (some .ret) tm' ps' as' b' fid'))) :
    R call n (.code (.rangeFunc f ps az b) :: k) Q .normal ⟨tm, ⟨ds, rc, none, fid⟩⟩ h := by
  subst hp hq
  show WP (bindO (enterA ⟨tm, ⟨ds, rc, none, fid⟩⟩ ps az b h) fun p => bindO (call (ev f tm) [.yld p.1] .no p.2.2) fun q => loopBack q.1 (addDfs p.2.1 ⟨tm, ⟨ds, rc, none, fid⟩⟩) p.1 q.2.2) (R call n k Q)
  have e1 : enterA ⟨tm, ⟨ds, rc, none, fid⟩⟩ ps az b h = some (h.next + 1, [.mark h.next], (h.new (.dfd false)).new (.loop .ready none tm ps az b fid)) := rfl
  rw [e1, bindO_some]
  simp only [hc, bindO_some]
  show WP (loopEnd ⟨tm, ⟨.mark h.next :: ds, rc, none, fid⟩⟩ (h.next + 1) h2) _
  unfold loopEnd
  rw [hl, bindO_some]
  show WP (cond (isBusy st) none (some (.ret, ⟨tm, ⟨.mark h.next :: ds, rc, none, fid⟩⟩, h2.set (h.next + 1) (.loop .exhausted (some .ret) tm' ps' as' b' fid')))) _
  rw [hb]
  exact WP_some.2 hR
theorem c137 {K : CallF} (hK : Runs K) (m : Nat) (c : Int) (V : AV) (h : AH) (_ca : V.cells = [V]) (_la : V.lies = true) :
    ∃ h', cK K (m + 1) (.fn 137 [] []) [.agg [.int .i64 c, V]] .no h = some (.ret (.fn 196 [] [.ptr h.next 0 0]), .no, h') ∧ h'.next = h.next + 1 ∧ h'.low = h.low ∧ h'.get h.next = some (.box [.int .i64 c, V]) ∧ ∀ k, k < h.next → h'.get k = h.get k := by
  rw [cK_run hK _ 137]
  have key : ∃ v h', evFn EF (cK K m) 30000 137 [.agg [.int .i64 c, V]] .no h = some (.ret v, .no, h') ∧ v = .fn 196 [] [.ptr h.next 0 0] ∧ h'.next = h.next + 1 ∧ h'.low = h.low ∧ h'.get h.next = some (.box [.int .i64 c, V]) ∧ ∀ k, k < h.next → h'.get k = h.get k := by
    refine evFn_I cf137 (by rfl) ?_
    unfold b137
    have hh : h = ⟨h.next, h.low, h.objs⟩ := rfl
    rw [hh]
    simp only [go_sem, Nat.reduceEqDiff, Nat.reduceAdd, s137_0]
    refine ⟨rfl, rfl, .inr rfl, _, by simp only [go_sem, r137]; rfl, rfl, rfl, rfl, ?_, fun k hk => ?_⟩
    · simp only [go_sem]
    · rw [get_mk, Tr.get_put_other _ _ (by omega)]
  obtain ⟨v, h', e, rfl, r⟩ := key
  exact ⟨h', e, r⟩
structure Y6 (call : CallF) (q pc B top : Nat) (high : LL) (G : LL → Prop) (vs0 : List LL) (ch0 : Bool) (hi : AH) (S : List LL → Bool → AH → Prop) (D : AH → Prop) : Prop where
  init : ∀ h', hi.next ≤ h'.next → (∀ k, k < hi.next → h'.get k = hi.get k) → B ≤ h'.low → S vs0 ch0 h'
  initl : B ≤ hi.low
  keep : ∀ vs ch h h', S vs ch h → h.next ≤ h'.next → (∀ k, k < h.next → h'.get k = h.get k) → B ≤ h'.low → h'.low ≤ h.low → S vs ch h'
  low : ∀ vs ch h, S vs ch h → B ≤ h.low
  keepD : ∀ h h', D h → h.next ≤ h'.next → (∀ k, k < h.next → h'.get k = h.get k) → B ≤ h'.low → D h'
  lowD : ∀ h, D h → B ≤ h.low
  step : ∀ vs ch p ap h, S vs ch h → top ≤ h.next → G p → Lv ap p → ∃ t h', call (.yld q) [ap] .no h = some (.ret (.bool t), .no, h') ∧ h.next ≤ h'.next ∧ h'.get pc = h.get pc ∧ h'.low < top ∧
    match stepP high (some (vs, ch)) p with | some (vs', ch') => t = true ∧ S vs' ch' h' | none => t = false ∧ D h'
def headR (l : LL) : List LL := if 0 < l.c ∨ l.vars.length = 0 then [⟨l.c, []⟩] else []
structure J196 (pc B top : Nat) (S : List LL → Bool → AH → Prop) (c : Int) (V : AV) (vs0 : List LL) (ch0 : Bool) (h0 h : AH) (vs : List LL) (ch : Bool) : Prop where
  g : h.get pc = some (.box [.int .i64 c, V])
  inv : S vs ch h
  next : h0.next ≤ h.next
  low : h.low < top ∨ (vs = vs0 ∧ ch = ch0)
def P6 (S : List LL → Bool → AH → Prop) (D : AH → Prop) (h0 : AH) (r : Option (List LL × Bool)) (h' : AH) : Prop := h0.next ≤ h'.next ∧ match r with | some (vs', ch') => S vs' ch' h' | none => D h'
theorem fin196 {call : CallF} {q pc B top : Nat} {high : LL} {G : LL → Prop} {S : List LL → Bool → AH → Prop} {D : AH → Prop} {c : Int} {V : AV} {vs0 : List LL} {ch0 : Bool} {h0 h1 : AH} {vs : List LL} {ch : Bool} (Y : Y6 call q pc B top high G vs0 ch0 h0 S D) (htop : top ≤ h0.next) (J : J196 pc B top S c V vs0 ch0 h0 h1 vs ch) {r : Option (List LL × Bool)} (hr : r = some (vs, ch)) {tm : Tm} {rnd : Option Nat} {f : FuncId} {e : AEx} (he : e = .normal ∨ e = .ret) :
    HQ h0 [] (fun _ h' => P6 S D h0 r h') e ⟨tm, ⟨[], .no, rnd, f⟩⟩ h1 := by
  obtain ⟨g, inv, nxt, low⟩ := J
  subst hr
  by_cases hl : h0.next ≤ h1.low
  · have : vs = vs0 ∧ ch = ch0 := by
      rcases low with h | h
      · omega
      · exact h
    obtain ⟨rfl, rfl⟩ := this
    have k := Y.init ⟨h1.next, h0.low, h0.objs⟩ nxt (fun _ _ => rfl) Y.initl
    exact HQ_keep he hl rfl ⟨nxt, k⟩
  · have k := Y.keep _ _ h1 ⟨h1.next, minN h1.low h0.low, h1.objs⟩ inv (Nat.le_refl _) (fun _ _ => rfl) (le_minN (Y.low _ _ _ inv) Y.initl) (minN_le _ _)
    exact HQ_turn he hl rfl ⟨nxt, k⟩
theorem fin196D {call : CallF} {q pc B top : Nat} {high : LL} {G : LL → Prop} {S : List LL → Bool → AH → Prop} {D : AH → Prop} {vs0 : List LL} {ch0 : Bool} {h0 h1 : AH} (Y : Y6 call q pc B top high G vs0 ch0 h0 S D) (htop : top ≤ h0.next) (hD : D h1) (nxt : h0.next ≤ h1.next) (low : h1.low < top) {r : Option (List LL × Bool)} (hr : r = none) {tm : Tm} {rnd : Option Nat} {f : FuncId} {e : AEx} (he : e = .normal ∨ e = .ret) :
    HQ h0 [] (fun _ h' => P6 S D h0 r h') e ⟨tm, ⟨[], .no, rnd, f⟩⟩ h1 := by
  subst hr
  exact HQ_turn he (by omega) rfl ⟨nxt, Y.keepD _ _ hD (Nat.le_refl _) (fun _ _ => rfl) (le_minN (Y.lowD _ hD) Y.initl)⟩
def I196 (high l : LL) (pc B top q : Nat) (S : List LL → Bool → AH → Prop) (V : AV) (vs0 : List LL) (ch0 : Bool) (h0 : AH) (j : Nat) (fr : AF) (h : AH) : Prop := ∃ tm m vs ch, m + j = l.vars.length ∧ fr = ⟨tm, ⟨[], .no, none, 196⟩⟩ ∧
  (headR l ++ (l.vars.take m).map fun x => (⟨0, [x]⟩ : LL)).foldl (stepP high) (some (vs0, ch0)) = some (vs, ch) ∧ J196 pc B top S l.c V vs0 ch0 h0 h vs ch ∧
  nth tm 0 = .yld q ∧ nth tm 1 = .ptr pc 0 0 ∧ nth tm 23 = V ∧ nth tm 24 = .int .i64 (l.vars.length : Int) ∧ nth tm 25 = .int .i64 (m : Int)
theorem build_1c (h : AH) (c : Int) (l : List AV) : evBuild h [.int .i64 c, .nils] [(1, 1, .clip l)] = .val (.agg [.int .i64 c, .clip l]) h := (rfl)
theorem build_0c (h : AH) (c d : Int) : evBuild h [.int .i64 d, .nils] [(0, 1, .int .i64 c)] = .val (.agg [.int .i64 c, .nils]) h := (rfl)
attribute [local go_sem] build_1c build_0c
theorem call196 (call : CallF) (n : Nat) (q pc B top : Nat) (high : LL) (G : LL → Prop) (S : List LL → Bool → AH → Prop) (D : AH → Prop) (l : LL) (V : AV) (vs0 : List LL) (ch0 : Bool) (h : AH) (Y : Y6 call q pc B top high G vs0 ch0 h S D) (hl : Lv (.agg [.int .i64 l.c, V]) l) (g : h.get pc = some (.box [.int .i64 l.c, V])) (hpc : pc < h.next) (bpc : B ≤ pc)
    (hG : ∀ p ∈ partsR l, G p) (htop : top ≤ h.next) (hlen : l.vars.length ≤ 100) (hn : 300 < n) :
    ∃ v h', evFn EF call n 196 [.yld q, .ptr pc 0 0] .no h = some (.ret v, .no, h') ∧ P6 S D h ((partsR l).foldl (stepP high) (some (vs0, ch0))) h' := by
  refine evFn_H cf196 (pureF _) ?_
  obtain ⟨_, z1, _, vc, vl', vf, _, via⟩ := hl.ex
  cases z1
  obtain ⟨cs, _⟩ := hl.cs V rfl
  have la := cs.len
  unfold b196
  have main : ∀ tm H vs ch, (headR l).foldl (stepP high) (some (vs0, ch0)) = some (vs, ch) → J196 pc B top S l.c V vs0 ch0 h H vs ch → nth tm 0 = .yld q → nth tm 1 = .ptr pc 0 0 →
      R call n [.code s196_4] (HQ h r196 (fun _ h' => P6 S D h ((partsR l).foldl (stepP high) (some (vs0, ch0))) h')) .normal ⟨tm, ⟨[], .no, none, 196⟩⟩ H := by
    intro tm H vs ch hf J t0 t1
    obtain ⟨nx, lo, ob⟩ := H
    have g1 : ob.get pc = some (.box [.int .i64 l.c, V]) := J.g
    simp only [go_sem, s196_4, t1, g1, la]
    refine R_loop (I196 high l pc B top q S V vs0 ch0 h) l.vars.length (by omega) ⟨_, 0, vs, ch, Nat.zero_add _, rfl, by simpa using hf, J, by simp only [go_sem, reduceCtorEq, t0], by simp only [go_sem, Nat.reduceEqDiff, t1], by simp only [go_sem, Nat.reduceEqDiff], by simp only [go_sem, Nat.reduceEqDiff], by simp only [go_sem]; rfl⟩ ?_
    clear hf J t0 t1 g1
    rintro j fr H ⟨tm, m, vs, ch, hm, rfl, hf, J, t0, t1, t23, t24, t25⟩
    unfold b196_3
    simp only [go_sem, s196_2, t24, t25]
    refine sB_dec (fun hlt => ?_) (fun hge => ?_)
    · have hlt : m < l.vars.length := by omega
      obtain ⟨x, hx⟩ : ∃ x, l.vars[m]? = some x := ⟨_, List.getElem?_eq_getElem hlt⟩
      have ia := via m x hx
      have hxv : encV x = .agg [.int .i64 x.idx, .int .i64 x.plus] := rfl
      rw [hxv] at ia
      have hw2 := wrap_succ m (by omega)
      obtain ⟨nx, lo, ob⟩ := H
      obtain ⟨g1, inv, nxt, low⟩ := J
      have g1 : ob.get pc = some (.box [.int .i64 l.c, V]) := g1
      have nxt : h.next ≤ nx := nxt
      have hlo : B ≤ lo := Y.low _ _ _ inv
      obtain ⟨ob2, hob2⟩ : ∃ ob2, ob2 = (ob.put nx (.box [.int .i64 0, .int .i64 0])).put nx (.box [.int .i64 x.idx, .int .i64 x.plus]) := ⟨_, rfl⟩
      have gx : ob2.get nx = some (.box [.int .i64 x.idx, .int .i64 x.plus]) := by rw [hob2, Tr.get_put_same]
      have gk : ∀ k, k < nx → ob2.get k = ob.get k := fun k hk => by rw [hob2, Tr.get_put_other _ _ (by omega), Tr.get_put_other _ _ (by omega)]
      have inv' : S vs ch ⟨nx + 1, minN nx lo, ob2⟩ := Y.keep _ _ ⟨nx, lo, ob⟩ _ inv (by show nx ≤ nx + 1; omega) gk (by (repeat' (first | assumption | exact Nat.le_refl _ | apply le_minN)) <;> omega) (minN_le_r _ _)
      have hp : (⟨0, [x]⟩ : LL) ∈ partsR l := List.mem_append.2 (.inr (List.mem_map.2 ⟨x, List.mem_of_getElem? hx, rfl⟩))
      have hfold : (headR l ++ (l.vars.take (m + 1)).map fun x => (⟨0, [x]⟩ : LL)).foldl (stepP high) (some (vs0, ch0)) = stepP high (some (vs, ch)) ⟨0, [x]⟩ := by
        rw [take_succ_get hx, List.map_append, ← List.append_assoc, List.foldl_append, hf]; rfl
      have hrest : (partsR l).foldl (stepP high) (some (vs0, ch0)) = ((l.vars.drop (m + 1)).map fun x => (⟨0, [x]⟩ : LL)).foldl (stepP high) (stepP high (some (vs, ch)) ⟨0, [x]⟩) := by
        rw [← hfold, ← List.foldl_append, List.append_assoc, ← List.map_append, List.take_append_drop]; rfl
      obtain ⟨t, h', w1, w2, w3, w4, w5⟩ := Y.step vs ch ⟨0, [x]⟩ _ ⟨nx + 1, minN nx lo, ob2⟩ inv' (by show top ≤ nx + 1; omega) (hG _ hp) (Lv_clip1 0 x)
      have w2 : nx + 1 ≤ h'.next := w2
      simp only [go_sem, Nat.reduceEqDiff, Nat.reduceAdd, s196_1, t23, t25, ia]
      rw [← hob2]
      simp only [go_sem, Nat.reduceEqDiff, Nat.reduceAdd, Nat.reduceMul, reduceCtorEq, s196_0, t0, gx, w1]
      cases hst : stepP high (some (vs, ch)) ⟨0, [x]⟩ with
      | none =>
        rw [hst] at w5 hrest
        obtain ⟨rfl, hD⟩ := w5
        rw [stepP_none] at hrest
        simp only [go_sem]
        exact fin196D Y htop hD (by omega) w4 hrest (.inr rfl)
      | some r =>
        obtain ⟨vs', ch'⟩ := r
        rw [hst] at w5 hfold
        obtain ⟨rfl, hS⟩ := w5
        simp only [go_sem, Nat.reduceEqDiff, t25, hw2]
        exact ⟨j - 1, by omega, _, m + 1, vs', ch', by omega, rfl, hfold, ⟨w3.trans ((gk _ (by omega)).trans g1), hS, by omega, .inl w4⟩, by simp only [go_sem, reduceCtorEq, t0], by simp only [go_sem, Nat.reduceEqDiff, t1], by simp only [go_sem, Nat.reduceEqDiff, t23], by simp only [go_sem, Nat.reduceEqDiff, t24], by simp only [go_sem]⟩
    · have hme : m = l.vars.length := by omega
      subst hme
      rw [List.take_length] at hf
      simp only [go_sem]
      have hf' : (partsR l).foldl (stepP high) (some (vs0, ch0)) = some (vs, ch) := hf
      exact fin196 Y htop J hf' (.inl rfl)
  have J0 : J196 pc B top S l.c V vs0 ch0 h ⟨h.next, h.next, h.objs⟩ vs0 ch0 := ⟨g, Y.init _ (Nat.le_refl _) (fun _ _ => rfl) (by show B ≤ h.next; omega), Nat.le_refl _, .inr ⟨rfl, rfl⟩⟩
  have g1 : h.objs.get pc = some (.box [.int .i64 l.c, V]) := g
  by_cases hc : 0 < l.c ∨ l.vars.length = 0
  · have hh : headR l = [⟨l.c, []⟩] := if_pos hc
    have hp : (⟨l.c, []⟩ : LL) ∈ partsR l := List.mem_append.2 (.inl (by rw [if_pos hc]; simp))
    have hrest : (partsR l).foldl (stepP high) (some (vs0, ch0)) = (l.vars.map fun x => (⟨0, [x]⟩ : LL)).foldl (stepP high) (stepP high (some (vs0, ch0)) ⟨l.c, []⟩) := by
      show (headR l ++ _).foldl _ _ = _
      rw [hh]; rfl
    obtain ⟨t, h', w1, w2, w3, w4, w5⟩ := Y.step vs0 ch0 ⟨l.c, []⟩ _ ⟨h.next, h.next, h.objs⟩ J0.inv htop (hG _ hp) (Lv_nils l.c)
    have w2 : h.next ≤ h'.next := w2
    have fin : ∀ tm, nth tm 0 = .yld q → nth tm 1 = .ptr pc 0 0 → sB call n (.bool (!t)) .ret .skip [.code s196_4] (HQ h r196 (fun _ h' => P6 S D h ((partsR l).foldl (stepP high) (some (vs0, ch0))) h')) ⟨tm, ⟨[], .no, none, 196⟩⟩ h' := by
      intro tm t0 t1
      cases hst : stepP high (some (vs0, ch0)) ⟨l.c, []⟩ with
      | none =>
        rw [hst] at w5 hrest
        obtain ⟨rfl, hD⟩ := w5
        rw [stepP_none] at hrest
        simp only [go_sem]
        exact fin196D Y htop hD (by omega) w4 hrest (.inr rfl)
      | some r =>
        obtain ⟨vs', ch'⟩ := r
        rw [hst] at w5
        obtain ⟨rfl, hS⟩ := w5
        simp only [go_sem]
        exact main _ _ vs' ch' (by rw [hh]; exact hst) ⟨w3.trans g1, hS, by omega, .inl w4⟩ t0 t1
    have dz : 0 < l.c ∨ (¬ 0 < l.c ∧ l.vars.length = 0) := by omega
    rcases dz with dz | ⟨dz, dl⟩
    · have d1 : decide (0 < l.c) = true := decide_eq_true dz
      simp only [go_sem, Nat.reduceEqDiff, reduceCtorEq, g1, d1, w1]
      exact fin _ (by simp only [go_sem, reduceCtorEq]) (by simp only [go_sem, Nat.reduceEqDiff])
    · have d1 : decide (0 < l.c) = false := decide_eq_false dz
      have d2 : decide ((l.vars.length : Int) = 0) = true := decide_eq_true (by omega)
      simp only [go_sem, Nat.reduceEqDiff, reduceCtorEq, g1, d1, la, d2, w1]
      exact fin _ (by simp only [go_sem, reduceCtorEq]) (by simp only [go_sem, Nat.reduceEqDiff])
  · have d1 : decide (0 < l.c) = false := decide_eq_false (by omega)
    have d2 : decide ((l.vars.length : Int) = 0) = false := decide_eq_false (by omega)
    have hh : headR l = [] := if_neg hc
    simp only [go_sem, Nat.reduceEqDiff, g1, d1, la, d2]
    exact main _ _ vs0 ch0 (by rw [hh]; rfl) J0 (by simp only [go_sem, reduceCtorEq]) (by simp only [go_sem, Nat.reduceEqDiff])
end Go.Proofs.YtnacljdablhbgaaGreat
