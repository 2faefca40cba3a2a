/- AbsGo: one operation of the evaluator's is one of the model's: slice expressions (no condition). -/
import Derived.Test.YtnacljdablhbgaaGreatAd
namespace Go.AG
section
variable {C : Cx} {g : Gh} {U : Nat → Option (List AV)} {h h' : AH} {w : World} {tm : Tm} {tmps : Array Value} {v : AV}
def cutV (a : Option Addr) (sz l hb m : Nat) : Value := .slice (if m = l then a else a.map (·.add (l * sz))) (hb - l) (m - l)
theorem run_slice {t el : TypeId} {sz : Nat} {a : Option Addr} {len cap l hb m : Nat} {lo hi mx : Option Value} (hd : und C.T t = some (.slice el)) (hn : szT C.T el = some sz)
    (hb' : (Instr.sliceBounds true len cap lo hi mx).run C.P w = .ok (l, hb, m) w) :
    (Instr.sliceAt t (.slice a len cap) lo hi mx).run C.P w = .ok (cutV a sz l hb m) w := by
  simp [Instr.sliceAt, run_und hd, Instr.slice, hb', run_sizeOf hn, cutV]
theorem cut_list {es : List AV} {sz : Nat} {b off l hb m : Nat} (hs : ∀ e ∈ es, e.cells.length = sz) (ha : allCells (flat es) = true) (hr : CRel g b off (flat es)) (hl : l ≤ hb) (hh : hb ≤ es.length) (hm : hb ≤ m) :
    (tke (Nat.sub hb l) (drp l es) = [] ∧ cutV (some ⟨b, off, none⟩) sz l hb m = .slice (if m = l then some ⟨b, off, none⟩ else (some ⟨b, off, none⟩ : Option Addr).map (·.add (l * sz))) 0 (m - l)) ∨
    (∃ b' off', cutV (some ⟨b, off, none⟩) sz l hb m = .slice (some ⟨b', off', none⟩) (hb - l) (m - l) ∧ (∀ e ∈ tke (Nat.sub hb l) (drp l es), e.cells.length = sz) ∧
      allCells (flat (tke (Nat.sub hb l) (drp l es))) = true ∧ CRel g b' off' (flat (tke (Nat.sub hb l) (drp l es))) ∧ (tke (Nat.sub hb l) (drp l es)).length = hb - l) := by
  rw [tke_eq, drp_eq]
  have hsub : Nat.sub hb l = hb - l := rfl
  rw [hsub]
  by_cases hz : hb = l
  · left
    subst hz
    refine ⟨by simp, by unfold cutV; rw [Nat.sub_self]⟩
  · right
    have hml : ¬ m = l := by omega
    refine ⟨b, off + l * sz, ?_, fun e he => hs e (List.mem_of_mem_drop (List.mem_of_mem_take he)), ?_, ?_, by simp; omega⟩
    · unfold cutV; rw [if_neg hml]; simp [add_none]
    · rw [flat_cut hs (by omega)]; exact allCells_take (allCells_drop ha _) _
    · rw [flat_cut hs (by omega)]
      refine hr.sub (l * sz) ((hb - l) * sz) ?_
      rw [flat_length hs]
      exact Nat.mul_le_mul_right sz (by omega)
theorem sized_of {sz : Nat} {es : List AV} (e : sized sz es = true) {sz' : Nat} (hs : ∀ e ∈ es, e.cells.length = sz') (hne : es ≠ []) : sz' = sz := by
  cases es with
  | nil => exact absurd rfl hne
  | cons x es => rw [← hs x (.head _)]; exact (sized_iff sz _).1 e x (.head _)
theorem op_slice_cut (s : Sim C g U h w) (ht : TRel g tm tmps) {o : Oper} {t el : TypeId} {x : Operand} {lo hi : Option Operand} {ax : AX} {alo ahi : Option AX} {sz n hb l : Nat} (ho : o.op = .slice t x lo hi none)
    (hd : und C.T t = some (.slice el)) (hsz : szT C.T el = some sz) (hx : cX x = some ax) (hlo : cOptX lo = some alo) (hhi : cOptX hi = some ahi)
    (e1 : slLen (ev ax tm) = some n) (e2 : optB ahi tm n n = some hb) (e3 : optB alo tm 0 hb = some l) (e : cutAt (ev ax tm) h sz l hb = some (v, h')) :
    OpOk C g U h ((execOp (evalT tmps) o).run C.P w) v h' := by
  have rx := cX_rel ht hx
  have b1 := optB_ok ht hhi e2
  have b2 := optB_ok ht hlo e3
  have hbn : hb ≤ n := by rcases b1 with ⟨_, h⟩ | ⟨_, _, _, _, h⟩ <;> omega
  have hlb : l ≤ hb := by rcases b2 with ⟨_, h⟩ | ⟨_, _, _, _, h⟩ <;> omega
  have run : ∀ a cap, n ≤ cap → evalT tmps x = .slice a n cap → (execOp (evalT tmps) o).run C.P w = .ok (.value (cutV a sz l hb cap)) w := by
    intro a cap hcap hu
    have hbds := run_sliceBounds_two (C := C) (w := w) (tmps := tmps) (b := true) (len := n) (cap := cap) (l := l) (hb := hb) (lo := lo) (hi := hi)
      (by rcases b1 with q | ⟨y, k, q1, q2, q3⟩
          · exact .inl q
          · exact .inr ⟨y, k, q1, q2, by omega⟩) b2
    have := run_slice (a := a) hd hsz hbds
    simp [execOp, ho, hu, this]
  generalize ev ax tm = a at rx e e1
  cases a <;> first | (cases e; done) | skip
  case nils =>
    cases e1
    have : hb = 0 := by omega
    have : l = 0 := by omega
    subst_vars
    cases e
    refine opOk_same s (run none 0 (Nat.le_refl _) rx.nils_inv) ?_
    exact .nils
  case lst es =>
    obtain ⟨hc, e⟩ := cond_some (c := sized sz es) e
    cases e
    have e1 : some (len es) = some n := e1
    rw [len_eq] at e1; cases e1
    obtain ⟨a, cap, hu, hcap, hcase⟩ := rx.lst_inv
    refine opOk_same s (run a cap hcap hu) ?_
    rcases hcase with rfl | ⟨sz', b, off, rfl, hs, ha, hr⟩
    · have q1 : hb = 0 := by simpa using hbn
      subst q1
      have q2 : l = 0 := by omega
      subst q2
      exact .lst0
    · by_cases hne : es = []
      · subst hne
        have q1 : hb = 0 := by simpa using hbn
        subst q1
        have q2 : l = 0 := by omega
        subst q2
        exact .lst0
      · have := sized_of hc hs hne
        subst this
        rcases cut_list (m := cap) hs ha hr hlb hbn (by omega) with ⟨q1, q2⟩ | ⟨b', off', q1, q2, q3, q4, q5⟩
        · rw [q1, q2]; exact .lst0
        · rw [q1]; exact .lst q2 q3 q5.symm (by omega) q4
  case clip es =>
    obtain ⟨hc, e⟩ := cond_some (c := sized sz es) e
    cases e
    have e1 : some (len es) = some n := e1
    rw [len_eq] at e1; cases e1
    obtain ⟨a, hu, hcase⟩ := rx.clip_inv
    refine opOk_same s (run a _ (Nat.le_refl _) hu) ?_
    rcases hcase with rfl | ⟨sz', b, off, rfl, hs, ha, hr⟩
    · have q1 : hb = 0 := by simpa using hbn
      subst q1
      have q2 : l = 0 := by omega
      subst q2
      exact .lst0
    · by_cases hne : es = []
      · subst hne
        have q1 : hb = 0 := by simpa using hbn
        subst q1
        have q2 : l = 0 := by omega
        subst q2
        exact .lst0
      · have := sized_of hc hs hne
        subst this
        rcases cut_list (m := es.length) hs ha hr hlb hbn (by omega) with ⟨q1, q2⟩ | ⟨b', off', q1, q2, q3, q4, q5⟩
        · rw [q1, q2]; exact .lst0
        · rw [q1]; exact .lst q2 q3 q5.symm (by omega) q4
  case row k gn sz' off m =>
    obtain ⟨hc, e⟩ := cond_some (c := Nat.beq sz' sz) e
    cases e
    have hc := beq_eq hc
    subst hc
    cases e1
    obtain ⟨lc, a, hl, hs, hle, hu, ha⟩ := rx.row_inv
    refine opOk_same s (run a _ (by omega) hu) ?_
    have ea : Nat.add off l = off + l := rfl
    have es : Nat.sub hb l = hb - l := rfl
    rw [ea, es]
    unfold cutV
    by_cases hz : lc.cap - off = l
    · rw [if_pos hz]
      have q1 : hb - l = 0 := by omega
      have q2 : lc.cap - off - l = 0 := by omega
      rw [q1, q2]
      exact .row0 hl hs (by omega)
    · rw [if_neg hz]
      rcases ha with rfl | ⟨q1, q2⟩
      · have := VRel.row (g := g) (k := k) (n := gn) (sz := sz') (off := off + l) (len := hb - l) hl hs (by omega)
        rw [show lc.cap - off - l = lc.cap - (off + l) by omega]
        rw [Nat.add_mul, ← Nat.add_assoc] at this
        simpa [add_none] using this
      · omega
theorem rowAt_ok (s : Sim C g U h w) {k n sz : Nat} {r : Bool × List AV × Nat} {l : Loc} (hl : g.ρ k n = some l) (e : rowAt h k n sz = some r) :
    h.get k = some (.row n sz r.1 r.2.1 r.2.2) ∧ U k = none ∧ g.w0.heap.size ≤ l.block ∧ OAt C g w k l (.row n sz r.1 r.2.1 r.2.2) := by
  obtain ⟨o, ho, e⟩ := bindO_eq e
  obtain ⟨q, hq, e⟩ := bindO_eq e
  obtain ⟨hc, e⟩ := cond_some e
  cases e
  obtain ⟨c1, c2⟩ := and_eq hc
  have d1 := beq_eq c1
  have d2 := beq_eq c2
  clear c1 c2 hc
  cases o <;> first | (cases hq; done) | skip
  case row n' sz' agg cs fz =>
    cases hq
    simp only at d1 d2
    subst d1
    subst d2
    have hu := s.live hl
    obtain ⟨l', h1, h2, h3⟩ := s.obj k _ ho hu
    have h1 : g.ρ k n = some l' := h1
    rw [hl] at h1; cases h1
    exact ⟨ho, hu, h2, h3⟩
theorem op_slice_clip (s : Sim C g U h w) (ht : TRel g tm tmps) {o : Oper} {t el : TypeId} {x mx : Operand} {lo hi : Option Operand} {ax amx : AX} {alo ahi : Option AX} {sz n hb l : Nat} (ho : o.op = .slice t x lo hi (some mx))
    (hd : und C.T t = some (.slice el)) (hsz : szT C.T el = some sz) (hp : 0 < sz) (hx : cX x = some ax) (hlo : cOptX lo = some alo) (hhi : cOptX hi = some ahi) (hmx : cX mx = some amx) {yy : AX} (hsome : ahi = some yy)
    (e1 : slLen (ev ax tm) = some n) (e2 : optB ahi tm n n = some hb) (e3 : optB alo tm 0 hb = some l) (e4 : asBnd (ev amx tm) n = some hb) (e : clipAt (ev ax tm) h sz l hb = some (v, h')) :
    OpOk C g U h ((execOp (evalT tmps) o).run C.P w) v h' := by
  have rx := cX_rel ht hx
  have b1 := optB_ok ht hhi e2
  have b2 := optB_ok ht hlo e3
  have hbn : hb ≤ n := by rcases b1 with ⟨_, h⟩ | ⟨_, _, _, _, h⟩ <;> omega
  have hlb : l ≤ hb := by rcases b2 with ⟨_, h⟩ | ⟨_, _, _, _, h⟩ <;> omega
  obtain ⟨⟨k4, h4⟩, _⟩ := asBnd_some e4
  have rm := cX_rel ht hmx
  rw [h4] at rm
  have run : ∀ a cap, n ≤ cap → evalT tmps x = .slice a n cap → (execOp (evalT tmps) o).run C.P w = .ok (.value (cutV a sz l hb hb)) w := by
    intro a cap hcap hu
    rcases b1 with ⟨q1, _⟩ | ⟨y, k, rfl, q2, q3⟩
    · subst q1; cases hhi; cases hsome
    · have hbds := run_sliceBounds_three (C := C) (w := w) (tmps := tmps) (len := n) (cap := cap) (l := l) (hb := hb) (lo := lo) q2 rm.int_inv (by omega) b2
      have := run_slice (a := a) hd hsz hbds
      simp [execOp, ho, hu, this]
  generalize ev ax tm = a at rx e e1
  cases a <;> first | (cases e; done) | skip
  case nils =>
    cases e1
    have : hb = 0 := by omega
    have : l = 0 := by omega
    subst_vars
    cases e
    refine opOk_same s (run none 0 (Nat.le_refl _) rx.nils_inv) ?_
    exact .nils
  case lst es =>
    obtain ⟨hc, e⟩ := cond_some (c := sized sz es) e
    cases e
    have e1 : some (len es) = some n := e1
    rw [len_eq] at e1; cases e1
    obtain ⟨a, cap, hu, hcap, hcase⟩ := rx.lst_inv
    refine opOk_same s (run a cap hcap hu) ?_
    rcases hcase with rfl | ⟨sz', b, off, rfl, hs, ha, hr⟩
    · have q1 : hb = 0 := by simpa using hbn
      subst q1
      have q2 : l = 0 := by omega
      subst q2
      exact .clip0
    · by_cases hne : es = []
      · subst hne
        have q1 : hb = 0 := by simpa using hbn
        subst q1
        have q2 : l = 0 := by omega
        subst q2
        exact .clip0
      · have := sized_of hc hs hne
        subst this
        rcases cut_list (m := hb) hs ha hr hlb hbn (Nat.le_refl _) with ⟨q1, q2⟩ | ⟨b', off', q1, q2, q3, q4, q5⟩
        · rw [q1, q2]
          have : hb - l = 0 := by
            have := congrArg List.length q1
            rw [tke_eq, drp_eq] at this
            have hsub : Nat.sub hb l = hb - l := rfl
            rw [hsub] at this
            simp at this; omega
          rw [this]; exact .clip0
        · rw [q1]; exact .clip q2 q3 q5.symm q5 q4
  case clip es =>
    obtain ⟨hc, e⟩ := cond_some (c := sized sz es) e
    cases e
    have e1 : some (len es) = some n := e1
    rw [len_eq] at e1; cases e1
    obtain ⟨a, hu, hcase⟩ := rx.clip_inv
    refine opOk_same s (run a _ (Nat.le_refl _) hu) ?_
    rcases hcase with rfl | ⟨sz', b, off, rfl, hs, ha, hr⟩
    · have q1 : hb = 0 := by simpa using hbn
      subst q1
      have q2 : l = 0 := by omega
      subst q2
      exact .clip0
    · by_cases hne : es = []
      · subst hne
        have q1 : hb = 0 := by simpa using hbn
        subst q1
        have q2 : l = 0 := by omega
        subst q2
        exact .clip0
      · have := sized_of hc hs hne
        subst this
        rcases cut_list (m := hb) hs ha hr hlb hbn (Nat.le_refl _) with ⟨q1, q2⟩ | ⟨b', off', q1, q2, q3, q4, q5⟩
        · rw [q1, q2]
          have : hb - l = 0 := by
            have := congrArg List.length q1
            rw [tke_eq, drp_eq] at this
            have hsub : Nat.sub hb l = hb - l := rfl
            rw [hsub] at this
            simp at this; omega
          rw [this]; exact .clip0
        · rw [q1]; exact .clip q2 q3 q5.symm q5 q4
  case row k gn sz' off m =>
    obtain ⟨hc, e⟩ := cond_some (c := Nat.beq sz' sz) e
    have hc := beq_eq hc
    subst hc
    obtain ⟨r, hr, e⟩ := bindO_eq e
    obtain ⟨es, hes, e⟩ := bindO_eq e
    cases e
    cases e1
    obtain ⟨lc, a, hl, hs, hle, hu, ha⟩ := rx.row_inv
    obtain ⟨r1, r2, r3, r4⟩ := rowAt_ok s hl hr
    obtain ⟨q1, q2, us, t', q3, q4, q5, q6, q7, q8, q9⟩ := r4
    rw [drp_eq] at hes
    have hoff : Nat.mul (Nat.add off l) sz' = (off + l) * sz' := rfl
    have hsub : Nat.sub hb l = hb - l := rfl
    have hoh : Nat.mul (Nat.add off hb) sz' = (off + hb) * sz' := rfl
    rw [hoff, hsub] at hes
    have ch := chunk_abs hes (allCells_drop q7 _)
    obtain ⟨ex, s'⟩ := s.shut (m := (off + hb) * sz') r1 r2 hl q3
    rw [maxN_eq, hoh]
    refine ⟨_, w, _, .inl (run a _ (by omega) hu), ex, s', ?_, Low.set _ _ _⟩
    by_cases hz : hb = l
    · subst hz
      have : es = [] := by have := ch.len; rw [Nat.sub_self] at this; exact List.length_eq_zero_iff.1 this
      subst this
      unfold cutV; rw [Nat.sub_self]; exact .clip0
    · rcases ha with rfl | ⟨q, _⟩
      · have hcl := ch.le
        simp only [List.length_drop] at hcl
        have hmul : (off + l) * sz' + (hb - l) * sz' = (off + hb) * sz' := by rw [← Nat.add_mul]; congr 1; omega
        have hpos : 0 < (hb - l) * sz' := Nat.mul_pos (by omega) hp
        unfold cutV
        rw [if_neg hz]
        simp only [Option.map_some, add_none]
        have haddr : lc.base + off * sz' + l * sz' = lc.base + (off + l) * sz' := by rw [Nat.add_mul]; omega
        rw [haddr]
        refine .clip ch.size ?_ ch.len.symm ch.len ?_
        · rw [ch.flat]; exact allCells_take (allCells_drop q7 _) _
        · rw [ch.flat]
          refine CRel.mk (us := ((((us.toList.drop lc.base).take r.2.1.length).drop ((off + l) * sz')).take ((hb - l) * sz'))) (((q6.mono ex).drop _).take _) fun i u hi => ?_
          have hi1 : i < (hb - l) * sz' := by
            rw [List.getElem?_take] at hi
            split at hi
            · assumption
            · cases hi
          rw [List.getElem?_take, if_pos hi1, List.getElem?_drop, List.getElem?_take] at hi
          split at hi
          · have := Gh.fz_at g lc.block lc.base ((us.toList.drop lc.base).take ((off + hb) * sz')) (i := (off + l) * sz' + i) (u := u)
              (by rw [List.getElem?_take, if_pos (by omega)]; exact hi)
            rw [← Nat.add_assoc] at this
            exact this
          · cases hi
      · omega
theorem op_strSlice (s : Sim C g U h w) (ht : TRel g tm tmps) {o : Oper} {t : TypeId} {x : Operand} {lo hi : Option Operand} {ax : AX} {alo ahi : Option AX} (ho : o.op = .slice t x lo hi none)
    (hd : und C.T t = some .string) (hx : cX x = some ax) (hlo : cOptX lo = some alo) (hhi : cOptX hi = some ahi) (e : okV (evStrSlice (ev ax tm) tm alo ahi) h = .val v h') :
    OpOk C g U h ((execOp (evalT tmps) o).run C.P w) v h' := by
  obtain ⟨e', rfl⟩ := okV_val e
  clear e
  obtain ⟨sv, hsv, e'⟩ := bindO_eq e'
  obtain ⟨hb, e2, e'⟩ := bindO_eq e'
  obtain ⟨l, e3, e'⟩ := bindO_eq e'
  cases e'
  have rx := cX_rel ht hx
  rw [strOf_some hsv] at rx
  have b1 := optB_ok ht hhi e2
  have b2 := optB_ok ht hlo e3
  have hbds := run_sliceBounds_two (C := C) (w := w) (tmps := tmps) (b := false) (len := sv.size) (cap := sv.size) b1 b2
  refine opOk_same s ?_ (.str _)
  simp [execOp, ho, rx.str_inv, Instr.sliceAt, run_und hd, Instr.slice, hbds]
end
section
variable {C : Cx} {g : Gh} {U : Nat → Option (List AV)} {h h' : AH} {w : World} {tm : Tm} {tmps : Array Value} {v : AV}
theorem sameNow_ok {d : TypeDesc} {n : Nat} {a b : AV} {x y : Value} {r : Bool} (hn : tagD d = some n) (ha : VRel g a x) (hb : VRel g b y) (e : sameKey n a b = some r) : Instr.sameNow d x y = some r := by
  rcases sameKey_cases e with ⟨rfl, k, m, m', rfl, rfl, rfl⟩ | ⟨rfl, s, s', rfl, rfl, rfl⟩ | ⟨n1, n2, p, q, rfl, rfl, rfl⟩
  · rcases tagD_ok hn with ⟨h0, _⟩ | ⟨_, k', rfl⟩ | ⟨h0, _⟩
    · omega
    · rw [ha.int_inv, hb.int_inv]; simp [Instr.sameNow]
    · omega
  · rcases tagD_ok hn with ⟨h0, _⟩ | ⟨h0, _⟩ | ⟨_, rfl⟩
    · omega
    · omega
    · rw [ha.str_inv, hb.str_inv, beqS_eq']; rfl
  · rcases tagD_ok hn with ⟨_, rfl⟩ | ⟨h0, _⟩ | ⟨h0, _⟩
    · rw [ha.bool_inv, hb.bool_inv]; rfl
    · omega
    · omega
theorem findK_cons (e : AV × AV) (l : List (AV × AV)) (t : Nat) (k : AV) : findK (e :: l) t k = bindO (sameKey t k e.1) fun b => cond b (some (some e.2)) (findK l t k) := rfl
theorem setK_cons (e : AV × AV) (l : List (AV × AV)) (t : Nat) (k v : AV) : setK (e :: l) t k v = Option.casesOn (sameKey t k e.1) (e :: setK l t k v) fun b => cond b ((k, v) :: l) (e :: setK l t k v) := rfl
theorem findNow_ok {d : TypeDesc} {n : Nat} {k : AV} {x : Value} (hn : tagD d = some n) (hk : VRel g k x) : ∀ {l : List (AV × AV)} {es : List MapEntry} {r : Option AV} (i : Nat), ERel g l es → findK l n k = some r →
    (r = none ∧ Instr.findNow d x es i = some none ∧ setK l n k v = l ++ [(k, v)]) ∨
    (∃ (a : AV) (j : Nat) (e : MapEntry) (y : Value), r = some a ∧ Instr.findNow d x es i = some (some (i + j, y)) ∧ VRel g a y ∧ es[j]? = some e ∧ setK l n k v = l.set j (k, v) ∧ (∃ k0, l[j]? = some (k0, a) ∧ VRel g k0 e.key ∧ sameKey n k k0 = some true))
  | _, _, r, i, .nil, e => by cases e; exact .inl ⟨rfl, rfl, rfl⟩
  | _, _, r, i, .cons (k := k') (v := v') (e := me) (l := l) (es := es) hk' hv' t, e => by
    rw [findK_cons] at e
    obtain ⟨b, hb, e⟩ := bindO_eq e
    have hs := sameNow_ok hn hk hk' hb
    rw [setK_cons]
    simp only at hb
    rw [hb]
    cases b with
    | true =>
      cases e
      exact .inr ⟨v', 0, me, me.val, rfl, by simp [Instr.findNow, hs], hv', rfl, rfl, k', rfl, hk', hb⟩
    | false =>
      have e : findK l n k = some r := e
      rcases findNow_ok hn hk (i + 1) t e with ⟨h1, h2, h3⟩ | ⟨a, j, me', y, h1, h2, h3, h4, h5, k0, h6, h7, h8⟩
      · exact .inl ⟨h1, by simp [Instr.findNow, hs, h2], by simp [h3]⟩
      · exact .inr ⟨a, j + 1, me', y, h1, by simp [Instr.findNow, hs, h2]; omega, h3, by simpa using h4, by simp [h5], k0, by simpa using h6, h7, h8⟩
theorem run_checkKey {t : TypeId} {d : TypeDesc} {n : Nat} (hd : und C.T t = some d) (hn : tagD d = some n) (b : Bool) (x : Value) (dep : Nat) : (Instr.checkKey b (dep + 1) t x).run C.P w = .ok () w := by
  unfold Instr.checkKey
  simp only [Sem.run_bind, run_und hd, Result.andThen_ok]
  rcases tagD_ok hn with ⟨_, rfl⟩ | ⟨_, k, rfl⟩ | ⟨_, rfl⟩ <;> rfl
theorem basicKey_ok {t : TypeId} {p : Nat × TypeId} (e : basicKey C.T t = some p) : ∃ kt d, und C.T t = some (.map kt p.2) ∧ und C.T kt = some d ∧ tagD d = some p.1 := by
  obtain ⟨d, hd, e⟩ := bindO_eq e
  obtain ⟨ke, hke, e⟩ := bindO_eq e
  obtain ⟨d', hd', e⟩ := bindO_eq e
  obtain ⟨n, hn, e⟩ := bindO_eq e
  cases e
  cases d <;> first | (cases hke; done) | skip
  case map kt el =>
    cases hke
    exact ⟨kt, d', hd, hd', hn⟩
theorem getMap_ok (s : Sim C g U h w) {k : Nat} {l : Loc} {es : List (AV × AV)} (hl : g.ρ k 0 = some l) (e : getMap h k = some es) :
    h.get k = some (.map es) ∧ U k = none ∧ ∃ mes clock, w.heap[l.block]? = some (.map mes clock) ∧ ERel g es mes.toList ∧ Born mes clock := by
  obtain ⟨o, ho, e⟩ := bindO_eq e
  cases o <;> first | (cases e; done) | skip
  case map es' =>
    cases e
    have hu := s.live hl
    obtain ⟨l', h1, h2, h3⟩ := s.obj k _ ho hu
    have h1 : g.ρ k 0 = some l' := h1
    rw [hl] at h1; cases h1
    exact ⟨ho, hu, h3⟩
theorem run_getObj {r : Nat} {ob : Obj} (e : w.heap[r]? = some ob) (hc : ∀ c t f, ob ≠ .cells c t f) : (getObj r).run C.P w = .ok ob w := by
  unfold getObj
  cases ob <;> first | (exact absurd rfl (hc _ _ _)) | simp only [Sem.run, e]
theorem run_setObj {r : Nat} {ob ob' : Obj} (e : w.heap[r]? = some ob) (hc : ∀ c t f, ob ≠ .cells c t f) : (setObj r ob').run C.P w = .ok () (setBlk w r ob') := by
  unfold setObj
  cases ob <;> first | (exact absurd rfl (hc _ _ _)) | (simp only [Sem.run, e]; rfl)
theorem ERel.length {l : List (AV × AV)} {es : List MapEntry} (h : ERel g l es) : l.length = es.length := by
  induction h with
  | nil => rfl
  | cons _ _ _ ih => simp [ih]
theorem op_lookup (s : Sim C g U h w) (ht : TRel g tm tmps) {o : Oper} {t : TypeId} {x i : Operand} {ax ai : AX} {p : Nat × TypeId} {z : AV} {ok : Bool} (ho : o.op = .lookup t x i ok) (hp : basicKey C.T t = some p)
    (hz : zeroT C.T p.2 = some z) (hx : cX x = some ax) (hi : cX i = some ai) (e : okV (evLookup h p.1 z ok (ev ax tm) (ev ai tm)) h = .val v h') : OpOk C g U h ((execOp (evalT tmps) o).run C.P w) v h' := by
  obtain ⟨e', rfl⟩ := okV_val e
  clear e
  obtain ⟨b0, hb0, e'⟩ := bindO_eq e'
  obtain ⟨r, hr, e'⟩ := bindO_eq e'
  cases e'
  obtain ⟨kt, d, hd, hkt, hn⟩ := basicKey_ok hp
  obtain ⟨iz, zv, hiz, hzv, hzr, _⟩ := zeroT_ok g hz
  have zrun := run_zeroValue (w := w) hiz hzv
  have rx := cX_rel ht hx
  have ri := cX_rel ht hi
  have fin : ∀ (es : List MapEntry) (l : List (AV × AV)), ERel g l es → findK l p.1 (ev ai tm) = some r →
      ∃ fr, (Instr.findKey kt (evalT tmps i) es).run C.P w = .ok fr w ∧ ((fr = none ∧ r = none) ∨ ∃ j y a, fr = some (j, y) ∧ r = some a ∧ VRel g a y) := by
    intro es l he hf
    rcases findNow_ok (v := z) hn ri 0 he hf with ⟨rfl, h2, _⟩ | ⟨a, j, me, y, rfl, h2, h3, h4, _⟩
    · exact ⟨none, by simp [Instr.findKey, run_und hkt, h2], .inl ⟨rfl, rfl⟩⟩
    · exact ⟨some (0 + j, y), by simp [Instr.findKey, run_und hkt, h2], .inr ⟨_, _, _, rfl, rfl, h3⟩⟩
  generalize ev ax tm = a at rx hr
  cases a <;> first | (cases hr; done) | skip
  case nilm =>
    cases hr
    obtain ⟨fr, hfr, hcase⟩ := fin [] [] .nil rfl
    rcases hcase with ⟨rfl, _⟩ | ⟨_, _, _, _, q, _⟩
    · refine opOk_same (u := if ok then .tuple #[zv, .bool false] else zv) s ?_ ?_
      · simp only [execOp, ho, rx.nilm_inv, Instr.lookup, Sem.run_bind, run_und hd, Result.andThen_ok, Sem.run_pure, run_checkKey hkt hn, hfr, zrun]
      · cases ok
        · exact hzr
        · exact .tup (.cons hzr (.cons (.bool _) .nil))
    · cases q
  case map k =>
    obtain ⟨es, hes, hr⟩ := bindO_eq hr
    obtain ⟨l, hl, hu⟩ := rx.map_inv
    obtain ⟨q1, q2, mes, clock, q3, q4, _⟩ := getMap_ok s hl hes
    obtain ⟨fr, hfr, hcase⟩ := fin mes.toList es q4 hr
    have hg := run_getObj (C := C) q3 (fun _ _ _ q => by cases q)
    rcases hcase with ⟨rfl, rfl⟩ | ⟨j, y, a, rfl, rfl, hay⟩
    · refine opOk_same (u := if ok then .tuple #[zv, .bool false] else zv) s ?_ ?_
      · simp only [execOp, ho, hu, Instr.lookup, Sem.run_bind, run_und hd, Result.andThen_ok, Sem.run_pure, hg, run_checkKey hkt hn, hfr, zrun]
      · cases ok
        · exact hzr
        · exact .tup (.cons hzr (.cons (.bool _) .nil))
    · refine opOk_same (u := if ok then .tuple #[y, .bool true] else y) s ?_ ?_
      · simp only [execOp, ho, hu, Instr.lookup, Sem.run_bind, run_und hd, Result.andThen_ok, Sem.run_pure, hg, run_checkKey hkt hn, hfr]
      · cases ok
        · exact hay
        · exact .tup (.cons hay (.cons (.bool _) .nil))
theorem sameBits_key {n : Nat} {a b : AV} {x y : Value} (ha : VRel g a x) (hb : VRel g b y) (e : sameKey n a b = some true) (dep : Nat) : Instr.sameBits dep y x = true := by
  rcases sameKey_cases e with ⟨rfl, k, m, m', rfl, rfl, hr⟩ | ⟨rfl, s, s', rfl, rfl, hr⟩ | ⟨n1, n2, p, q, rfl, rfl, hr⟩
  · rw [ha.int_inv, hb.int_inv]
    have : m = m' := by simpa using hr.symm
    subst this
    simp [Instr.sameBits]
  · rw [ha.str_inv, hb.str_inv]
    rw [beqS_eq'] at hr
    have : (s' == s) = true := by
      have e1 : (s == s') = (s.data == s'.data) := rfl
      have e2 : (s' == s) = (s'.data == s.data) := rfl
      rw [e1] at hr
      have : s.data = s'.data := by simpa using hr.symm
      rw [e2, this]; simp
    simp [Instr.sameBits, this]
  · rw [ha.bool_inv, hb.bool_inv]
    have : p = q := by simpa using hr.symm
    subst this
    simp [Instr.sameBits]
theorem ERel.set {k v : AV} {e' : MapEntry} (hk : VRel g k e'.key) (hv : VRel g v e'.val) : ∀ {l : List (AV × AV)} {es : List MapEntry} (j : Nat), ERel g l es → ERel g (l.set j (k, v)) (es.set j e')
  | _, _, _, .nil => by simp; exact .nil
  | _, _, 0, .cons _ _ t => .cons hk hv t
  | _, _, j + 1, .cons a b t => .cons a b (ERel.set hk hv j t)
theorem ERel.snoc {k v : AV} {e' : MapEntry} (hk : VRel g k e'.key) (hv : VRel g v e'.val) : ∀ {l : List (AV × AV)} {es : List MapEntry}, ERel g l es → ERel g (l ++ [(k, v)]) (es ++ [e'])
  | _, _, .nil => .cons hk hv .nil
  | _, _, .cons a b t => .cons a b (ERel.snoc hk hv t)
theorem op_mapUp (s : Sim C g U h w) (ht : TRel g tm tmps) {o : Oper} {t : TypeId} {m k x : Operand} {am ak ax : AX} {p : Nat × TypeId} (ho : o.op = .mapUpdate t m k x) (hp : basicKey C.T t = some p)
    (hm : cX m = some am) (hk : cX k = some ak) (hx : cX x = some ax) (e : okH (evMapUp h p.1 (ev am tm) (ev ak tm) (ev ax tm)) = .val v h') : OpOk C g U h ((execOp (evalT tmps) o).run C.P w) v h' := by
  obtain ⟨e', rfl⟩ := okH_val e
  clear e
  obtain ⟨r, hr, e'⟩ := bindO_eq e'
  obtain ⟨es, hes, e'⟩ := bindO_eq e'
  obtain ⟨b0, hb0, e'⟩ := bindO_eq e'
  obtain ⟨fr, hfr, e'⟩ := bindO_eq e'
  cases e'
  obtain ⟨kt, d, hd, hkt, hn⟩ := basicKey_ok hp
  have rm := cX_rel ht hm
  have rk := cX_rel ht hk
  have rx := cX_rel ht hx
  rw [mapNo_some hr] at rm
  obtain ⟨l, hl, hu⟩ := rm.map_inv
  obtain ⟨q1, q2, mes, clock, q3, q4, hB1, hB2⟩ := getMap_ok s hl hes
  have hg := run_getObj (C := C) q3 (fun _ _ _ q => by cases q)
  have hlt : l.block < w.heap.size := (Array.getElem?_eq_some_iff.1 q3).1
  have noF : ∀ i y, g.F l.block i ≠ some y := fun i y q => by
    have := s.frz _ _ _ q
    unfold World.cell? at this
    simp only [q3] at this
    cases this
  have put : ∀ (mes' : Array MapEntry) (clock' : Nat), ERel g (setK es p.1 (ev ak tm) (ev ax tm)) mes'.toList → Born mes' clock' →
      Sim C g U (h.set r (.map (setK es p.1 (ev ak tm) (ev ax tm)))) (setBlk w l.block (.map mes' clock')) := by
    intro mes' clock' he hB
    exact s.put q1 q2 hl rfl ⟨mes', clock', setBlk_same hlt, he, hB⟩ (fun i y q => absurd q (noF i y))
  rcases findNow_ok (v := ev ax tm) hn rk 0 q4 hfr with ⟨rfl, h2, h3⟩ | ⟨a, j, me, y, rfl, h2, h4, h5, h6, k0, h7, h8, h9⟩
  · have he : ERel g (setK es p.1 (ev ak tm) (ev ax tm)) (mes.push { key := evalT tmps k, val := evalT tmps x, born := clock }).toList := by
      rw [h3, Array.toList_push]; exact q4.snoc rk rx
    have hB : Born (mes.push { key := evalT tmps k, val := evalT tmps x, born := clock }) (clock + 1) := by
      refine ⟨fun y hy => ?_, ?_⟩
      · rw [Array.toList_push] at hy
        rcases List.mem_append.1 hy with hy | hy
        · exact Nat.lt_succ_of_lt (hB1 y hy)
        · simp at hy; subst hy; exact Nat.lt_succ_self _
      · rw [Array.toList_push, List.map_append]
        refine List.nodup_append.2 ⟨hB2, by simp, fun a ha b hb => ?_⟩
        obtain ⟨y, hy, rfl⟩ := List.mem_map.1 ha
        simp at hb
        subst hb
        have := hB1 y hy
        omega
    refine ⟨g, _, undef, .inr ⟨?_, rfl⟩, .refl g, put _ (clock + 1) he hB, .tup .nil, Low.set _ _ _⟩
    have hfk : (Instr.findKey kt (evalT tmps k) mes.toList).run C.P w = .ok none w := by simp [Instr.findKey, run_und hkt, h2]
    have hso := run_setObj (C := C) (ob' := .map (mes.push { key := evalT tmps k, val := evalT tmps x, born := clock }) (clock + 1)) q3 (fun _ _ _ q => by cases q)
    simp only [execOp, ho, hu, Instr.mapUpdate, Sem.run_bind, run_und hd, Result.andThen_ok, hg, run_checkKey hkt hn, hfk, hso, Sem.run_pure]
  · have hj : j < mes.size := by have := getElem?_lt h5; simpa using this
    have hbits : Instr.sameBits 10000 me.key (evalT tmps k) = true := sameBits_key rk h8 h9 _
    have he : ERel g (setK es p.1 (ev ak tm) (ev ax tm)) (mes.modify j fun e => { e with key := evalT tmps k, val := evalT tmps x }).toList := by
      rw [h6]
      have e1 : (mes.modify j fun e => { e with key := evalT tmps k, val := evalT tmps x }).toList = mes.toList.set j { me with key := evalT tmps k, val := evalT tmps x } := by
        apply List.ext_getElem?
        intro i
        rw [Array.getElem?_toList, Array.getElem?_modify, List.getElem?_set]
        have h5' : mes[j]? = some me := by simpa using h5
        by_cases hij : j = i
        · subst hij
          have hme : mes[j] = me := by rw [Array.getElem?_eq_getElem hj] at h5'; exact Option.some.inj h5'
          simp [hj, hme]
        · simp [hij]
      rw [e1]
      exact q4.set rk rx j
    have hB : Born (mes.modify j fun e => { e with key := evalT tmps k, val := evalT tmps x }) clock := by
      have e1 : ((mes.modify j fun e => { e with key := evalT tmps k, val := evalT tmps x }).toList.map (·.born)) = mes.toList.map (·.born) := by
        apply List.ext_getElem?
        intro i
        rw [List.getElem?_map, List.getElem?_map, Array.getElem?_toList, Array.getElem?_toList, Array.getElem?_modify]
        by_cases hij : j = i
        · subst hij
          rw [if_pos rfl]
          cases mes[j]? <;> rfl
        · rw [if_neg hij]
      refine ⟨fun y hy => ?_, by rw [e1]; exact hB2⟩
      have : y.born ∈ mes.toList.map (·.born) := by rw [← e1]; exact List.mem_map_of_mem hy
      obtain ⟨z, hz, e⟩ := List.mem_map.1 this
      rw [← e]; exact hB1 z hz
    refine ⟨g, _, undef, .inr ⟨?_, rfl⟩, .refl g, put _ clock he hB, .tup .nil, Low.set _ _ _⟩
    have hfk : (Instr.findKey kt (evalT tmps k) mes.toList).run C.P w = .ok (some (0 + j, y)) w := by simp [Instr.findKey, run_und hkt, h2]
    have hso := run_setObj (C := C) (ob' := .map (mes.modify j fun e => { e with key := evalT tmps k, val := evalT tmps x }) clock) q3 (fun _ _ _ q => by cases q)
    have h5' : mes[j]? = some me := by simpa using h5
    have hks : (Instr.keyThatStays (((mes[j]?).map (·.key)).getD (evalT tmps k)) (evalT tmps k)).run C.P w = .ok (evalT tmps k) w := by
      rw [h5']
      simp [Instr.keyThatStays, hbits]
    simp only [execOp, ho, hu, Instr.mapUpdate, Sem.run_bind, run_und hd, Result.andThen_ok, hg, run_checkKey hkt hn, hfk, hks, Nat.zero_add, hso, Sem.run_pure]
theorem op_len (s : Sim C g U h w) (ht : TRel g tm tmps) {o : Oper} {c : Call} {x : Operand} {ax : AX} {t : TypeId} {d : TypeDesc} {kk : Nat} (ho : o.op = .call c) (hc : c.callee = .builtin .len) (ha : c.args = #[x])
    (hty : c.argTypes.toList[0]? = some t) (hd : und C.T t = some d) (hl : lenD d = some kk) (hx : cX x = some ax)
    (e : okV (bindO (lenOf (ev ax tm) h kk) fun n => some (.int .i64 (.ofNat n))) h = .val v h') : OpOk C g U h ((execOp (evalT tmps) o).run C.P w) v h' := by
  obtain ⟨e', rfl⟩ := okV_val e
  clear e
  obtain ⟨n, hn, e'⟩ := bindO_eq e'
  cases e'
  have rx := cX_rel ht hx
  have hty' : c.argTypes[0]? = some t := by simpa using hty
  have run : (Builtin.len_ c.argTypes o.type #[evalT tmps x]).run C.P w = .ok (.int .i64 (n : Int)) w → (execOp (evalT tmps) o).run C.P w = .ok (.value (.int .i64 (n : Int))) w := by
    intro hq
    simp [execOp, ho, resolve, hc, ha, invoke, builtin, hq]
  refine opOk_same s (run ?_) (.int _ _)
  have lenk : (kk = 0 ∧ d = .string) ∨ (kk = 1 ∧ ∃ el, d = .slice el) ∨ (kk = 2 ∧ ∃ k el, d = .map k el) := by
    cases d <;> first | (cases hl; done) | skip
    case string => cases hl; exact .inl ⟨rfl, rfl⟩
    case slice el => cases hl; exact .inr (.inl ⟨rfl, el, rfl⟩)
    case map k el => cases hl; exact .inr (.inr ⟨rfl, k, el, rfl⟩)
  have slice : ∀ a m cap, evalT tmps x = .slice a m cap → kk = 1 → (Builtin.len_ c.argTypes o.type #[evalT tmps x]).run C.P w = .ok (.int .i64 (m : Int)) w := by
    intro a m cap hu hk
    rcases lenk with ⟨q, _⟩ | ⟨_, el, rfl⟩ | ⟨q, _⟩
    · omega
    · simp [Builtin.len_, hty', hu, run_und hd, goInt]
    · omega
  generalize ev ax tm = a at rx hn
  cases a <;> first | (cases hn; done) | skip
  case str sv =>
    obtain ⟨hk, hn⟩ := cond_some (c := Nat.beq kk 0) hn
    cases hn
    have hk := beq_eq hk
    rcases lenk with ⟨_, rfl⟩ | ⟨q, _⟩ | ⟨q, _⟩
    · simp [Builtin.len_, hty', rx.str_inv, run_und hd, goInt]
    · omega
    · omega
  case nils =>
    obtain ⟨hk, hn⟩ := cond_some (c := Nat.beq kk 1) hn
    cases hn
    exact slice _ _ _ rx.nils_inv (beq_eq hk)
  case lst es =>
    obtain ⟨hk, hn⟩ := cond_some (c := Nat.beq kk 1) hn
    cases hn
    rw [len_eq]
    obtain ⟨a, cap, hu, _⟩ := rx.lst_inv
    exact slice _ _ _ hu (beq_eq hk)
  case clip es =>
    obtain ⟨hk, hn⟩ := cond_some (c := Nat.beq kk 1) hn
    cases hn
    rw [len_eq]
    obtain ⟨a, hu, _⟩ := rx.clip_inv
    exact slice _ _ _ hu (beq_eq hk)
  case row k gn sz off m =>
    obtain ⟨hk, hn⟩ := cond_some (c := Nat.beq kk 1) hn
    cases hn
    obtain ⟨l, a, _, _, _, hu, _⟩ := rx.row_inv
    exact slice _ _ _ hu (beq_eq hk)
  case nilm =>
    obtain ⟨hk, hn⟩ := cond_some (c := Nat.beq kk 2) hn
    cases hn
    have hk := beq_eq hk
    rcases lenk with ⟨q, _⟩ | ⟨q, _⟩ | ⟨_, k, el, rfl⟩
    · omega
    · omega
    · simp [Builtin.len_, hty', rx.nilm_inv, run_und hd, goInt]
  case map k =>
    obtain ⟨hk, hn⟩ := cond_some (c := Nat.beq kk 2) hn
    obtain ⟨es, hes, hn⟩ := bindO_eq hn
    cases hn
    have hk := beq_eq hk
    obtain ⟨l, hl', hu⟩ := rx.map_inv
    obtain ⟨q1, q2, mes, clock, q3, q4, _⟩ := getMap_ok s hl' hes
    have hg := run_getObj (C := C) q3 (fun _ _ _ q => by cases q)
    have hsz : len es = mes.size := by rw [len_eq, q4.length]; simp
    rw [hsz]
    rcases lenk with ⟨q, _⟩ | ⟨q, _⟩ | ⟨_, k', el, rfl⟩
    · omega
    · omega
    · simp [Builtin.len_, hty', hu, run_und hd, goInt, hg]
theorem pickI_max (m n : Int) : pickI false m n = if n > m then n else m := by
  show cond (leI n m) m n = _
  rw [leI_eq]
  by_cases h : n ≤ m
  · rw [decide_eq_true h, if_neg (by omega)]; rfl
  · rw [decide_eq_false h, if_pos (by omega)]; rfl
theorem pickI_min (m n : Int) : pickI true m n = if n < m then n else m := by
  show cond (leI m n) m n = _
  rw [leI_eq]
  by_cases h : m ≤ n
  · rw [decide_eq_true h, if_neg (by omega)]; rfl
  · rw [decide_eq_false h, if_pos (by omega)]; rfl
theorem evMaxI_cons (x : AV) (l : List AV) (less : Bool) (k : IntKind) (m : Int) : evMaxI (x :: l) less k m = bindO (intV x) fun p => evMaxI l less k (pickI less m p.2) := rfl
theorem run_max : ∀ {l : List AV} {us : List Value} {k : IntKind} {m : Int}, VRels g l us → evMaxI l false k m = some v → ∃ u, (us.foldlM Builtin.max2 (.int k m)).run C.P w = .ok u w ∧ VRel g v u
  | _, _, k, m, .nil, e => by cases e; exact ⟨_, by simp, .int _ _⟩
  | _, _, k, m, .cons (a := a) (l := l) (us := us) h t, e => by
    rw [evMaxI_cons] at e
    obtain ⟨p, hp, e⟩ := bindO_eq e
    rw [intV_some hp] at h
    rw [pickI_max] at e
    obtain ⟨u, hu, hv⟩ := run_max t e
    refine ⟨u, ?_, hv⟩
    rw [List.foldlM_cons, h.int_inv]
    simp only [Builtin.max2, Sem.run_bind, Sem.run_pure, Result.andThen_ok]
    exact hu
theorem run_min : ∀ {l : List AV} {us : List Value} {k : IntKind} {m : Int}, VRels g l us → evMaxI l true k m = some v → ∃ u, (us.foldlM Builtin.min2 (.int k m)).run C.P w = .ok u w ∧ VRel g v u
  | _, _, k, m, .nil, e => by cases e; exact ⟨_, by simp, .int _ _⟩
  | _, _, k, m, .cons (a := a) (l := l) (us := us) h t, e => by
    rw [evMaxI_cons] at e
    obtain ⟨p, hp, e⟩ := bindO_eq e
    rw [intV_some hp] at h
    rw [pickI_min] at e
    obtain ⟨u, hu, hv⟩ := run_min t e
    refine ⟨u, ?_, hv⟩
    rw [List.foldlM_cons, h.int_inv]
    simp only [Builtin.min2, Sem.run_bind, Sem.run_pure, Result.andThen_ok]
    exact hu
theorem op_max (s : Sim C g U h w) (ht : TRel g tm tmps) {o : Oper} {c : Call} {la : List AX} (ho : o.op = .call c) (hc : c.callee = .builtin .max) (ha : cXs c.args = some la)
    (e : okV (evMax false (evs la tm)) h = .val v h') : OpOk C g U h ((execOp (evalT tmps) o).run C.P w) v h' := by
  obtain ⟨e', rfl⟩ := okV_val e
  clear e
  have hr := cXs_rel ht ha
  cases hl : evs la tm with
  | nil => rw [hl] at e'; cases e'
  | cons x l =>
    rw [hl] at e' hr
    obtain ⟨p, hp, e'⟩ := bindO_eq (o := intV x) e'
    have hargs : (c.args.map (evalT tmps)).toList = c.args.toList.map (evalT tmps) := by simp
    cases hm : c.args.toList.map (evalT tmps) with
    | nil => rw [hm] at hr; cases hr
    | cons u us =>
      rw [hm] at hr hargs
      cases hr with
      | cons h1 h2 =>
        rw [intV_some hp] at h1
        obtain ⟨y, hy, hv⟩ := run_max (C := C) (w := w) h2 e'
        refine opOk_same s ?_ hv
        rw [← h1.int_inv] at hy
        simp [execOp, ho, resolve, hc, invoke, builtin, Builtin.max_, hm, hy]
theorem op_min (s : Sim C g U h w) (ht : TRel g tm tmps) {o : Oper} {c : Call} {la : List AX} (ho : o.op = .call c) (hc : c.callee = .builtin .min) (ha : cXs c.args = some la)
    (e : okV (evMax true (evs la tm)) h = .val v h') : OpOk C g U h ((execOp (evalT tmps) o).run C.P w) v h' := by
  obtain ⟨e', rfl⟩ := okV_val e
  clear e
  have hr := cXs_rel ht ha
  cases hl : evs la tm with
  | nil => rw [hl] at e'; cases e'
  | cons x l =>
    rw [hl] at e' hr
    obtain ⟨p, hp, e'⟩ := bindO_eq (o := intV x) e'
    cases hm : c.args.toList.map (evalT tmps) with
    | nil => rw [hm] at hr; cases hr
    | cons u us =>
      rw [hm] at hr
      cases hr with
      | cons h1 h2 =>
        rw [intV_some hp] at h1
        obtain ⟨y, hy, hv⟩ := run_min (C := C) (w := w) h2 e'
        refine opOk_same s ?_ hv
        rw [← h1.int_inv] at hy
        simp [execOp, ho, resolve, hc, invoke, builtin, Builtin.min_, hm, hy]
end
section
variable {C : Cx} {g : Gh} {U : Nat → Option (List AV)} {h h' : AH} {w : World} {tm : Tm} {tmps : Array Value} {v : AV}
theorem row_cells {l : Loc} {us : Array Value} {t : TypeId} {cs : List AV} {off : Nat} (e : w.heap[l.block]? = some (.cells us t (0, 0))) :
    ∀ i y, ((((us.toList.drop l.base).take cs.length).drop off)[i]?) = some y → w.cell? ⟨l.block, l.base + off + i, none⟩ = some y := by
  intro i y hi
  rw [cell_of_row _ _ _ us t (0, 0) e]
  rw [List.getElem?_drop, List.getElem?_take] at hi
  split at hi
  · rw [List.getElem?_drop] at hi
    rw [Nat.add_assoc]; simpa using hi
  · cases hi
theorem run_firstCells {b off sz n : Nat} {a : Addr} {len cap : Nat} {ws : List Value} (ha : a = ⟨b, off, none⟩) (hn : n * sz ≤ ws.length) (hc : ∀ i y, ws[i]? = some y → w.cell? ⟨b, off + i, none⟩ = some y) :
    (Builtin.firstCells sz n (.slice (some a) len cap)).run C.P w = .ok ⟨ws.take (n * sz)⟩ w := by
  subst ha
  have := run_loadCells_at (C := C) (w := w) (b := b) (off := off) (us := ws.take (n * sz)) (fun i y hi => hc i y (by
    rw [List.getElem?_take] at hi
    split at hi
    · exact hi
    · cases hi))
  rw [List.length_take, Nat.min_eq_left hn] at this
  exact this
theorem elems_ok (s : Sim C g U h w) {x : AV} {u : Value} {sz : Nat} {xs : List AV} (hx : VRel g x u) (e : elems x h sz = some xs) :
    ∃ a cap ws, u = .slice a xs.length cap ∧ xs.length ≤ cap ∧ VRels g (flat xs) ws ∧ allCells (flat xs) = true ∧ (∀ e ∈ xs, e.cells.length = sz) ∧
      ∀ (w' : World) (n : Nat), (∀ b o y, b < w.heap.size → w.cell? ⟨b, o, none⟩ = some y → w'.cell? ⟨b, o, none⟩ = some y) → n ≤ xs.length → (Builtin.firstCells sz n u).run C.P w' = .ok ⟨ws.take (n * sz)⟩ w' := by
  have fin : ∀ (a : Option Addr) (cap : Nat), u = .slice a xs.length cap → xs.length ≤ cap → sized sz xs = true →
      (xs = [] ∨ ∃ sz b off, a = some ⟨b, off, none⟩ ∧ (∀ e ∈ xs, e.cells.length = sz) ∧ allCells (flat xs) = true ∧ CRel g b off (flat xs)) →
      ∃ a cap ws, u = .slice a xs.length cap ∧ xs.length ≤ cap ∧ VRels g (flat xs) ws ∧ allCells (flat xs) = true ∧ (∀ e ∈ xs, e.cells.length = sz) ∧
      ∀ (w' : World) (n : Nat), (∀ b o y, b < w.heap.size → w.cell? ⟨b, o, none⟩ = some y → w'.cell? ⟨b, o, none⟩ = some y) → n ≤ xs.length → (Builtin.firstCells sz n u).run C.P w' = .ok ⟨ws.take (n * sz)⟩ w' := by
    intro a cap hu hcap hsz hcase
    rcases hcase with rfl | ⟨sz', b, off, rfl, hs, ha, hr⟩
    · refine ⟨a, cap, [], hu, hcap, .nil, rfl, fun e he => by simp at he, fun w' n _ hn => ?_⟩
      have : n = 0 := by simpa using hn
      subst this
      rw [hu]
      cases a with
      | none => simp [Builtin.firstCells]
      | some a => simp [Builtin.firstCells, loadCells, loadCellsFrom]
    · by_cases hne : xs = []
      · subst hne
        refine ⟨_, cap, [], hu, hcap, .nil, rfl, fun e he => by simp at he, fun w' n _ hn => ?_⟩
        have : n = 0 := by simpa using hn
        subst this
        rw [hu]
        simp [Builtin.firstCells, loadCells, loadCellsFrom]
      · have := sized_of hsz hs hne
        subst this
        obtain ⟨ws, hv, hF⟩ := hr.vals
        refine ⟨_, cap, ws, hu, hcap, hv, ha, hs, fun w' n hw hn => ?_⟩
        rw [hu]
        refine run_firstCells rfl ?_ fun i y hi => hw _ _ _ (s.frz_lt (hF i y hi)) (s.frz _ _ _ (hF i y hi))
        rw [← hv.length, flat_length hs]
        exact Nat.mul_le_mul_right _ hn
  cases x <;> first | (cases e; done) | skip
  case nils =>
    cases e
    refine ⟨none, 0, [], hx.nils_inv, Nat.le_refl _, .nil, rfl, fun e he => by simp at he, fun w' n _ hn => ?_⟩
    rw [hx.nils_inv]
    simp [Builtin.firstCells]
  case lst es =>
    obtain ⟨hc, e⟩ := cond_some (c := sized sz es) e
    cases e
    obtain ⟨a, cap, hu, hcap, hcase⟩ := hx.lst_inv
    exact fin a cap hu hcap hc hcase
  case clip es =>
    obtain ⟨hc, e⟩ := cond_some (c := sized sz es) e
    cases e
    obtain ⟨a, hu, hcase⟩ := hx.clip_inv
    exact fin a _ hu (Nat.le_refl _) hc hcase
  case row k gn sz' off m =>
    obtain ⟨hc, e⟩ := cond_some (c := Nat.beq sz' sz) e
    have hc := beq_eq hc
    subst hc
    obtain ⟨r, hr, e⟩ := bindO_eq e
    rw [drp_eq] at e
    obtain ⟨l, a, hl, hs, hle, hu, ha⟩ := hx.row_inv
    obtain ⟨r1, r2, r3, r4⟩ := rowAt_ok s hl hr
    obtain ⟨q1, q2, us, t', q3, q4, q5, q6, q7, q8, q9⟩ := r4
    have hoff : Nat.mul off sz' = off * sz' := rfl
    rw [hoff] at e
    have ch := chunk_abs e (allCells_drop q7 _)
    have hm : xs.length = m := ch.len
    have hcle := ch.le
    rcases ha with rfl | ⟨rfl, _⟩
    · refine ⟨_, l.cap - off, (((us.toList.drop l.base).take r.2.1.length).drop (off * sz')).take (m * sz'), by rw [hm]; exact hu, by omega, ?_, ?_, ch.size, fun w' n hw hn => ?_⟩
      · rw [ch.flat]; exact (q6.drop _).take _
      · rw [ch.flat]; exact allCells_take (allCells_drop q7 _) _
      · rw [hu]
        have hlen : (((us.toList.drop l.base).take r.2.1.length).drop (off * sz')).length = (r.2.1.drop (off * sz')).length := by rw [← (q6.drop (off * sz')).length]
        have hnm : n * sz' ≤ m * sz' := Nat.mul_le_mul_right _ (by omega)
        refine run_firstCells rfl ?_ fun i y hi => ?_
        · rw [List.length_take, hlen]; omega
        · refine hw _ _ _ (Array.getElem?_eq_some_iff.1 q3).1 (row_cells (cs := r.2.1) (off := off * sz') q3 i y ?_)
          rw [List.getElem?_take] at hi
          split at hi
          · exact hi
          · cases hi
    · have : xs = [] := List.length_eq_zero_iff.1 hm
      subst this
      refine ⟨a, l.cap - off, [], hu, Nat.zero_le _, .nil, rfl, ch.size, fun w' n _ hn => ?_⟩
      have : n = 0 := by simpa using hn
      subst this
      rw [hu]
      cases a with
      | none => simp [Builtin.firstCells]
      | some a => simp [Builtin.firstCells, loadCells, loadCellsFrom]
theorem growBy_le (n : Nat) : ∀ (r c : Nat), Builtin.growBy n r c ≤ max c (n + n / 4 + 193)
  | 0, c => Nat.le_max_left _ _
  | r + 1, c => by
    unfold Builtin.growBy
    split
    · exact Nat.le_max_left _ _
    · have := growBy_le n r (c + (c + 768) / 4)
      omega
theorem nextslicecap_le {need cap : Nat} (h : cap < need) : Builtin.nextslicecap need cap ≤ 2 * need + 1000 := by
  unfold Builtin.nextslicecap
  split
  · omega
  · split
    · omega
    · have := growBy_le need 4 cap
      omega
theorem need_ok {n m bytes : Nat} (e : need n m bytes = true) : (2 * (n + m) + 1000) * bytes ≤ 140737488355328 ∧ n + m ≤ 9223372036854775807 := by
  obtain ⟨h1, h2⟩ := and_eq e
  exact ⟨ble_le h1, ble_le h2⟩
theorem zeroCells_eq (z : Array Value) (n : Nat) : Builtin.zeroCells z n = (Array.range (n * z.size)).map fun i => z[i % z.size]! := rfl
end
end Go.AG
