/- AbsGo: the walk of the machine: the end of a call (no condition). -/
import Derived.Test.YtnacljdablhbgaaGreatAg
namespace Go.AG
def stM (b : Frame) (tmps : Array Value) (ds : List Deferred) (todo : List Item) (md : FrameMode) : Frame := { b with tmps := tmps, defers := ds, todo := todo, mode := md }
inductive MRel (g : Gh) : Md → FrameMode → Prop
  | ret : MRel g .returning .returning
  | pan {v : AV} {pv : Value} (h : VRel g v pv) : MRel g (.panicking v) (.panicking [ent pv false])
theorem MRel.mono {g g' : Gh} (x : Ext g g') {m : Md} {md : FrameMode} (h : MRel g m md) : MRel g' m md := by
  cases h with
  | ret => exact .ret
  | pan h => exact .pan (h.mono x)
section
variable {C : Cx} {b : Frame} {K : KK} {nt : Nat} {k todo : List Item} {g g1 : Gh} {U U1 : Nat → Option (List AV)} {h h1 h' : AH} {fr fr' : AF} {w w1 : World} {tmps : Array Value} {ds : List Deferred} {md : FrameMode} {cs : List Frame}
theorem st_collected {P : Program} {bl : Nat} {as : Array Value} {calls : List Deferred} (hm : md ≠ .run) (hr : (Instr.takeDeferred bl).run P w = .ok calls w1) :
    step P (lone (stM b tmps ({ target := .collected bl, args := as } :: ds) todo md) cs w) = .next (lone (stM b tmps (calls ++ ds) todo md) cs w1) := by
  refine step_lone_go ?_
  cases md with
  | run => exact absurd rfl hm
  | returning => simp [stepG, stM, unwind, hr]
  | panicking ch => simp [stepG, stM, unwind, hr]
theorem st_deferred {P : Program} {f f' : FuncId} {cap as as' : Array Value} (hm : md ≠ .run) (hr : (invoke (.fn (.func f) cap) as).run P w = .ok (.enter f' as') w) :
    step P (lone (stM b tmps ({ target := .fn (.func f) cap, args := as } :: ds) todo md) cs w) = .next (lone (Frame.enter P f' as' .deferred) (stM b tmps ds todo md :: cs) w) := by
  refine step_lone_go ?_
  cases md with
  | run => exact absurd rfl hm
  | returning => simp [stepG, stM, unwind, callDeferred, hr]
  | panicking ch => simp [stepG, stM, unwind, callDeferred, hr]
theorem st_return {P : Program} {F : Func} {u : Value} {rc : RC} (hF : P.funcs[b.fn]? = some F) (hr : (results F tmps).run P w = .ok u w) (hk : RcOk g K b.kind rc) (hK : K.cs = K.c0 :: K.rest) :
    step P (lone (stM b tmps [] todo .returning) (csAt K rc) w) = .next (lone (backF K u rc) K.rest w) := by
  refine step_lone_go ?_
  cases rc with
  | no => have hk : b.kind = .normal := hk; simp [stepG, stM, unwind, hF, hr, csAt, backF, doReturn, hk, hK]
  | ret => have hk : b.kind = .deferred := hk; simp [stepG, stM, unwind, hF, hr, csAt, backF, doReturn, hk]
  | pend v => have hk : b.kind = .deferred := hk.1; simp [stepG, stM, unwind, hF, hr, csAt, backF, doReturn, hk, ent]
  | done => have hk : b.kind = .deferred := hk; simp [stepG, stM, unwind, hF, hr, csAt, backF, doReturn, hk, ent]
theorem catches_no {P : Program} (fr : Frame) (hn : noCall fr.todo) : fr.catches P = false := by
  unfold Frame.catches
  split
  · rename_i h; rw [h] at hn; exact hn.elim
  · rfl
theorem st_raise {P : Program} {ch : List PanicEntry} {c : Frame} (hn : noCall todo) : step P (lone (stM b tmps [] todo (.panicking ch)) (c :: cs) w) = .next (lone (c.raise ch) cs w) := by
  refine step_lone_go ?_
  have := catches_no (P := P) (stM b tmps [] todo (.panicking ch)) hn
  simp only [stM] at this
  simp [stepG, stM, unwind, this]
theorem st_leave {P : Program} (hr : b.roundOf = none) : step P (lone (stF b tmps ds []) cs w) = .next (lone (stM b tmps ds [] .returning) cs w) :=
  step_lone_go (by simp [stepG, stepG.exec, stF, stM, hr])
theorem st_leaveRet {P : Program} (hr : b.roundOf = none) : step P (lone (stF b tmps ds (.code .ret :: k)) cs w) = .next (lone (stM b tmps ds (.code .ret :: k) .returning) cs w) :=
  step_lone_go (by simp [stepG, stepG.exec, stF, stM, hr])
theorem run_take {bl : Nat} (e : w.heap[bl]? = some (.deferred (some []))) : (Instr.takeDeferred bl).run C.P w = .ok [] (setBlk w bl (.deferred none)) := by
  have e1 := run_getObj (C := C) e (by intros; simp)
  have e2 := run_setObj (C := C) (ob' := .deferred none) e (by intros; simp)
  simp [Instr.takeDeferred, e1, e2]
theorem defs_sim {call : CallF} (hcall : CallOk C call) : ∀ (l : List DF) {m m' : Md} {h h' : AH} {g : Gh} {U : Nat → Option (List AV)} {w : World} {ds : List Deferred} {md : FrameMode},
    evDefs l call m h = some (m', h') → Sim C g U h w → DRel g l ds → MRel g m md →
    ∃ g' U' w' md', Ext g g' ∧ UExt h.next U U' ∧ Sim C g' U' h' w' ∧ Low h h' ∧ MRel g' m' md' ∧ Steps C.P (lone (stM b tmps ds todo md) cs w) (lone (stM b tmps [] todo md') cs w')
  | [], m, m', h, h', g, U, w, ds, md, q, s, d, hm => by
    cases q; cases d
    exact ⟨g, U, w, md, .refl g, .refl _ U, s, .refl _, hm, .refl _ _⟩
  | .mark j :: l, m, m', h, h', g, U, w, ds, md, q, s, d, hm => by
    obtain ⟨p, q1, q⟩ := bindO_eq (show bindO (evDef (.mark j) call m h) _ = _ from q)
    obtain ⟨o, hg, q1⟩ := bindO_eq (show bindO (h.get j) _ = _ from q1)
    obtain ⟨t, ht, q1⟩ := bindO_eq q1
    obtain ⟨htt, q1⟩ := cond_none q1
    subst htt
    cases q1
    cases o <;> first | (cases ht; done) | skip
    cases ht
    cases d with
    | @mark _ lc _ ds0 hρ d =>
      obtain ⟨lc', h1, _, h2⟩ := s.obj j _ hg (s.born hρ)
      have h1 : g.ρ j 0 = some lc' := h1
      rw [hρ] at h1; cases h1
      have h2 : w.heap[lc.block]? = some (.deferred (some [])) := h2
      have hlt : lc.block < w.heap.size := (Array.getElem?_eq_some_iff.1 h2).1
      have s1 : Sim C g U (h.set j (.dfd true)) (setBlk w lc.block (.deferred none)) := s.put hg (s.born hρ) hρ rfl (setBlk_same hlt) (fun i v x => by
        have := s.frz _ _ _ x
        unfold World.cell? at this
        simp [h2] at this)
      have hrun : md ≠ .run := by cases hm <;> simp
      obtain ⟨g', U', w', md', a1, a2, a3, a4, a5, a6⟩ := defs_sim hcall l q s1 d hm
      refine ⟨g', U', w', md', a1, a2, a3, (Low.set _ _ _).trans a4, a5, .head (st_collected hrun (run_take h2)) a6⟩
  | .call f as :: l, m, m', h, h', g, U, w, ds, md, q, s, d, hm => by
    obtain ⟨p, q1, qq⟩ := bindO_eq (show bindO (evDef (.call f as) call m h) _ = _ from q)
    clear q
    have qq : evDefs l call p.1 p.2 = some (m', h') := qq
    obtain ⟨⟨out, rc', h1⟩, q0, q1⟩ := bindO_eq (show bindO (call f as (rcOf m) h) _ = _ from q1)
    cases d with
    | @fn fi a b' _ x y us _ ds0 ha hb hs d =>
      obtain ⟨pv, hpv⟩ : ∃ pv, (∀ v, m = .panicking v → VRel g v pv ∧ md = .panicking [ent pv false]) := by
        cases hm with
        | ret => exact ⟨.nilIface, fun v e => by cases e⟩
        | pan h => exact ⟨_, fun v e => by cases e; exact ⟨h, rfl⟩⟩
      have hrc0 : RcOk g ⟨stM b tmps ds0 todo md, cs, pv, stM b tmps ds0 todo md :: cs⟩ .deferred (rcOf m) := by
        cases m with
        | returning => rfl
        | panicking v => exact ⟨rfl, (hpv v rfl).1⟩
      have hcs : csAt ⟨stM b tmps ds0 todo md, cs, pv, stM b tmps ds0 todo md :: cs⟩ (rcOf m) = stM b tmps ds0 todo md :: cs := by
        cases m with
        | returning => cases hm; rfl
        | panicking v => rw [(hpv v rfl).2]; rfl
      obtain ⟨d', fr0, hd, hent, g', U', w', hx, hu, hs', hl, hrc, hland⟩ :=
        hcall _ _ _ _ _ _ _ q0 g U w _ _ ⟨stM b tmps ds0 todo md, cs, pv, stM b tmps ds0 todo md :: cs⟩ .deferred s (.fn ha hb) hs hrc0 rfl
      have hd' := hd w
      rw [ofValue_fn (C := C) (.fn ha hb) rfl w] at hd'
      cases hd'
      have hrun : md ≠ .run := by cases hm <;> simp
      rw [hcs] at hland
      have h0 : Steps C.P (lone (stM b tmps ({ target := .fn (.func fi) ⟨y⟩, args := ⟨x ++ us⟩ } :: ds0) todo md) cs w) (lone fr0 (stM b tmps ds0 todo md :: cs) w) := by
        rcases hent with ⟨ff, as', h1, rfl⟩ | ⟨hk, _⟩
        · exact .one (st_deferred hrun h1)
        · cases hk
      cases out with
      | pan v => cases q1
      | ret v =>
        obtain ⟨u, hv, hst⟩ := hland
        have key : ∃ md1, MRel g' p.1 md1 ∧ p.2 = h1 ∧ backF ⟨stM b tmps ds0 todo md, cs, pv, stM b tmps ds0 todo md :: cs⟩ u rc' = stM b tmps ds0 todo md1 := by
          have q1 : defRet rc' m h1 = some p := q1
          cases rc' with
          | no => cases q1
          | ret => cases m with
            | returning => cases q1; exact ⟨.returning, .ret, rfl, rfl⟩
            | panicking v => cases q1
          | done => cases m with
            | returning => cases q1
            | panicking v => cases q1; exact ⟨.returning, .ret, rfl, rfl⟩
          | pend v0 => cases m with
            | returning => cases q1
            | panicking v => cases q1; exact ⟨.panicking [ent pv false], .pan ((hpv v rfl).1.mono hx), rfl, rfl⟩
        obtain ⟨md1, hm1, hp2, hbk⟩ := key
        rw [hbk] at hst
        rw [hp2] at qq
        obtain ⟨g2, U2, w2, md2, a1, a2, a3, a4, a5, a6⟩ := defs_sim hcall l qq hs' (d.mono hx) hm1
        exact ⟨g2, U2, w2, md2, hx.trans a1, hu.trans a2 hl.next, a3, hl.trans a4, a5, (h0.trans hst).trans a6⟩
def rdV (tmps : Array Value) : ResultVar → Sem Value
  | .tmp t => pure (tmps.getD t undef)
  | .cell a t => do loadVar t (← asAddr (tmps.getD a undef))
theorem res1_ok {tm : Tm} (s : Sim C g U h w) (ht : TRel g tm tmps) {r : ResultVar} {ar : ARes} {v : AV} (hc : cRes C.T r = some ar) (q : evRes1 ar tm h = some v) :
    ∃ u, (rdV tmps r).run C.P w = .ok u w ∧ VRel g v u := by
  cases r with
  | tmp t => cases hc; cases q; exact ⟨tmps.getD t undef, by simp [rdV], ht t⟩
  | cell a t =>
    obtain ⟨n, h1, hc⟩ := bindO_eq (show bindO (szT C.T t) _ = _ from hc)
    obtain ⟨_, hc⟩ := cond_some hc
    cases hc
    obtain ⟨ad, y, e1, e2, e3⟩ := load_run s h1 (ht a) q
    exact ⟨y, by show ((do loadVar t (← asAddr (tmps.getD a undef)) : Sem Value)).run C.P w = _; rw [e1]; simp [asAddr, e2], e3⟩
end
theorem mapL_eq (f : AV → AV) (l : List AV) : mapL f l = l.map f := by
  induction l with
  | nil => rfl
  | cons a l ih => show f a :: mapL f l = _; rw [ih]; rfl
theorem frz_succ (n : Nat) (h : AH) (base : Nat) (v : AV) : frz (n + 1) h base v = frz1 v h base (frz n h base) := rfl
theorem frzRow_cases (h : AH) (v : AV) (k gn sz off m : Nat) (f : AV → AV) : frzRow h v k gn sz off m f = v ∨
    ∃ agg cs fz es, h.get k = some (.row gn sz agg cs fz) ∧ chunk agg sz m (drp (Nat.mul off sz) cs) = some es ∧ frzRow h v k gn sz off m f = .lst (es.map f) := by
  unfold frzRow
  cases e : h.get k with
  | none => exact .inl rfl
  | some o =>
    cases o <;> first | exact .inl rfl | skip
    case row g1 sz1 agg cs fz =>
      show (cond (and (Nat.beq gn g1) (Nat.beq sz sz1)) _ v = v) ∨ _
      cases hc : and (Nat.beq gn g1) (Nat.beq sz sz1) with
      | false => exact .inl rfl
      | true =>
        obtain ⟨h1, h2⟩ := and_eq hc
        have h1 := beq_eq h1
        have h2 := beq_eq h2
        subst h1 h2
        cases hk : chunk agg sz m (drp (Nat.mul off sz) cs) with
        | none => exact .inl rfl
        | some es =>
          refine .inr ⟨agg, cs, fz, es, rfl, hk, ?_⟩
          show cond (and (Nat.beq gn gn) (Nat.beq sz sz)) (Option.casesOn (chunk agg sz m (drp (Nat.mul off sz) cs)) v fun es => AV.lst (mapL f es)) v = _
          rw [hc, hk]
          exact congrArg AV.lst (mapL_eq f es)
theorem frz_cell (n : Nat) (h : AH) (base : Nat) (v : AV) : (frz n h base v).isCell = v.isCell := by
  cases n with
  | zero => rfl
  | succ n =>
    rw [frz_succ]
    cases v <;> first | rfl | skip
    case row k gn sz off m =>
      show AV.isCell (cond (Nat.ble base k) (frzRow h (.row k gn sz off m) k gn sz off m (frz n h base)) (.row k gn sz off m)) = true
      cases Nat.ble base k with
      | false => rfl
      | true => rcases frzRow_cases h (.row k gn sz off m) k gn sz off m (frz n h base) with e | ⟨_, _, _, _, _, _, e⟩ <;> (show AV.isCell (frzRow _ _ _ _ _ _ _ _) = true; rw [e]; rfl)
theorem frz_agg (n : Nat) (h : AH) (base : Nat) (v : AV) : (frz n h base v).isAgg = v.isAgg := by
  cases n with
  | zero => rfl
  | succ n =>
    rw [frz_succ]
    cases v <;> first | rfl | skip
    case row k gn sz off m =>
      show AV.isAgg (cond (Nat.ble base k) (frzRow h (.row k gn sz off m) k gn sz off m (frz n h base)) (.row k gn sz off m)) = false
      cases Nat.ble base k with
      | false => rfl
      | true => rcases frzRow_cases h (.row k gn sz off m) k gn sz off m (frz n h base) with e | ⟨_, _, _, _, _, _, e⟩ <;> (show AV.isAgg (frzRow _ _ _ _ _ _ _ _) = false; rw [e]; rfl)
section
variable {C : Cx} {b : Frame} {K : KK} {g g' : Gh} {U : Nat → Option (List AV)} {h h' : AH} {w : World} {tm : Tm} {tmps : Array Value}
theorem VRels.map {f : AV → AV} (hf : ∀ v u, VRel g v u → VRel g' (f v) u) : ∀ {l : List AV} {us : List Value}, VRels g l us → VRels g' (l.map f) us
  | _, _, .nil => .nil
  | _, _, .cons h t => .cons (hf _ _ h) (VRels.map hf t)
theorem allCells_map {f : AV → AV} (hf : ∀ v, (f v).isCell = v.isCell) (l : List AV) : allCells (l.map f) = allCells l := by
  induction l with
  | nil => rfl
  | cons a l ih => rw [List.map_cons, allCells_cons, allCells_cons, hf, ih]
theorem VRels.split : ∀ (a : List AV) {b : List AV} {us : List Value}, VRels g (a ++ b) us → ∃ x y, us = x ++ y ∧ VRels g a x ∧ VRels g b y
  | [], b, us, h => ⟨[], us, rfl, .nil, h⟩
  | a :: l, b, us, h => by
    cases h with
    | cons h t => obtain ⟨x, y, rfl, h1, h2⟩ := VRels.split l t; exact ⟨_ :: x, y, rfl, .cons h h1, h2⟩
theorem flat_map {f : AV → AV} (hf : ∀ v u, VRel g v u → VRel g' (f v) u) (hc : ∀ v, (f v).isCell = v.isCell) (hg : ∀ v, (f v).isAgg = v.isAgg) : ∀ {es : List AV} {ws : List Value}, allCells (flat es) = true → VRels g (flat es) ws →
    VRels g' (flat (es.map f)) ws ∧ allCells (flat (es.map f)) = true ∧ ∀ e ∈ es, (f e).cells.length = e.cells.length
  | [], ws, _, h => ⟨by cases h; exact .nil, rfl, fun e he => by simp at he⟩
  | e :: es, ws, ha, h => by
    rw [flat_cons] at ha h
    rw [allCells_append] at ha
    simp only [Bool.and_eq_true] at ha
    obtain ⟨x, y, rfl, h1, h2⟩ := VRels.split _ h
    obtain ⟨r1, r2, r3⟩ := flat_map hf hc hg (es := es) ha.2 h2
    have key : VRels g' (f e).cells x ∧ allCells (f e).cells = true ∧ (f e).cells.length = e.cells.length := by
      cases hga : e.isAgg with
      | true =>
        have hga' := hg e
        cases e <;> first | (cases hga; done) | skip
        case agg cs =>
          have h1 : VRels g cs x := h1
          have this : VRel g' (f (.agg cs)) (.agg ⟨x⟩) := hf _ _ (VRel.agg ha.1 h1)
          generalize f (.agg cs) = z at this hga'
          cases z <;> first | (cases hga'; done) | skip
          case agg cs' =>
            obtain ⟨us, h3, h4, h5⟩ := this.agg_inv
            cases h5
            exact ⟨h4, h3, by show cs'.length = cs.length; rw [h4.length, h1.length]⟩
      | false =>
        have he : e.cells = [e] := cells_one hga
        rw [he] at h1 ha
        have hec : e.isCell = true := by have := ha.1; rw [allCells_cons] at this; simp at this; exact this.1
        have hfc : (f e).isCell = true := by rw [hc]; exact hec
        have hfa : (f e).isAgg = false := by cases hq : f e <;> first | rfl | (rw [hq] at hfc; cases hfc)
        rw [cells_one hfa, he]
        cases h1 with
        | cons h3 t =>
          cases t
          exact ⟨.cons (hf _ _ h3) .nil, by rw [allCells_cons, hfc]; rfl, rfl⟩
    rw [List.map_cons, flat_cons]
    refine ⟨key.1.append r1, by rw [allCells_append, key.2.1, r2]; rfl, fun e' he' => ?_⟩
    cases he' with
    | head => exact key.2.2
    | tail _ he' => exact r3 e' he'
theorem frz_rel (s : Sim C g U h w) (base : Nat) : ∀ (n : Nat) {v : AV} {u : Value}, VRel g v u → VRel (g.leave h base w) (frz n h base v) u
  | 0, v, u, hv => hv.mono (s.leave_ext base)
  | n + 1, v, u, hv => by
    have ih : ∀ v u, VRel g v u → VRel (g.leave h base w) (frz n h base v) u := fun v u => frz_rel s base n
    rw [frz_succ]
    cases v <;> first | exact hv.mono (s.leave_ext base) | skip
    case agg cs =>
      obtain ⟨us, h1, h2, rfl⟩ := hv.agg_inv
      show VRel _ (.agg (mapL (frz n h base) cs)) _
      rw [mapL_eq]
      exact .agg (by rw [allCells_map (frz_cell n h base)]; exact h1) (h2.map ih)
    case tup cs =>
      obtain ⟨us, h2, rfl⟩ := hv.tup_inv
      show VRel _ (.tup (mapL (frz n h base) cs)) _
      rw [mapL_eq]
      exact .tup (h2.map ih)
    case row k gn sz off m =>
      show VRel _ (cond (Nat.ble base k) (frzRow h (.row k gn sz off m) k gn sz off m (frz n h base)) (.row k gn sz off m)) _
      cases hb : Nat.ble base k with
      | false => exact hv.mono (s.leave_ext base)
      | true =>
        have hb := ble_le hb
        show VRel _ (frzRow h (.row k gn sz off m) k gn sz off m (frz n h base)) _
        rcases frzRow_cases h (.row k gn sz off m) k gn sz off m (frz n h base) with e | ⟨agg, cs, fz, es, hg, hch, e⟩
        · rw [e]; exact hv.mono (s.leave_ext base)
        · rw [e]
          obtain ⟨l, a, hl, hs, hle, hu, ha⟩ := hv.row_inv
          obtain ⟨l', r1, r2, q1, q2, us, t', q3, q4, q5, q6, q7, q8, q9⟩ := s.obj k _ hg (s.born hl)
          have r1 : g.ρ k gn = some l' := r1
          rw [hl] at r1; cases r1
          rw [drp_eq] at hch
          have hoff : Nat.mul off sz = off * sz := rfl
          rw [hoff] at hch
          have ch := chunk_abs hch (allCells_drop q7 _)
          have hm : es.length = m := ch.len
          have hfl : VRels g (flat es) ((((us.toList.drop l.base).take cs.length).drop (off * sz)).take (m * sz)) := by rw [ch.flat]; exact (q6.drop _).take _
          have hfa : allCells (flat es) = true := by rw [ch.flat]; exact allCells_take (allCells_drop q7 _) _
          obtain ⟨m1, m2, m3⟩ := flat_map ih (frz_cell n h base) (frz_agg n h base) hfa hfl
          rcases ha with rfl | ⟨rfl, _⟩
          · rw [hu]
            refine .lst (sz := sz) (fun e he => ?_) m2 (by rw [List.length_map]; exact hm.symm) (by rw [List.length_map]; omega) (CRel.mk m1 fun i y hi => ?_)
            · obtain ⟨e', he', rfl⟩ := List.mem_map.1 he
              rw [m3 e' he']; exact ch.size e' he'
            · have hno : ¬ owned g h base l.block := by
                rintro (hlt | ⟨k', o', l2, hk', hg', hl2, hbl⟩)
                · omega
                exact s.sep k k' _ o' l l2 (by omega) hg hg' hl hl2 hbl.symm
              rw [Gh.leave_free hno]
              refine row_cells (cs := cs) (off := off * sz) q3 i y ?_
              rw [List.getElem?_take] at hi
              split at hi
              · exact hi
              · cases hi
          · have : es = [] := List.length_eq_zero_iff.1 hm
            subst this
            rw [hu]
            exact .lst0
theorem evRes_cons (r : ARes) (l : List ARes) (tm : Tm) (h : AH) : evRes (r :: l) tm h = bindO (evRes1 r tm h) fun v => bindO (evRes l tm h) fun vs => some (v :: vs) := rfl
theorem res_ok (s : Sim C g U h w) (ht : TRel g tm tmps) : ∀ {l : List ResultVar} {al : List ARes} {vs : List AV}, mapO (cRes C.T) l = some al → evRes al tm h = some vs →
    ∃ us, (l.mapM (rdV tmps)).run C.P w = .ok us w ∧ VRels g vs us
  | [], al, vs, e, q => by cases e; cases q; exact ⟨[], by simp, .nil⟩
  | r :: l, al, vs, e, q => by
    obtain ⟨ar, al', h1, h2, rfl⟩ := mapO_cons_some e
    rw [evRes_cons] at q
    obtain ⟨v, q1, q⟩ := bindO_eq q
    obtain ⟨vs', q2, q⟩ := bindO_eq q
    cases q
    obtain ⟨u, a1, a2⟩ := res1_ok s ht h1 q1
    obtain ⟨us, b1, b2⟩ := res_ok s ht h2 q2
    exact ⟨u :: us, by simp [List.mapM_cons, a1, b1], .cons a2 b2⟩
theorem results_ok (s : Sim C g U h w) (ht : TRel g tm tmps) {F : Func} {al : List ARes} {vs : List AV} (e : mapO (cRes C.T) F.results.toList = some al) (q : evRes al tm h = some vs) :
    ∃ u, (results F tmps).run C.P w = .ok u w ∧ VRel g (one vs) u := by
  obtain ⟨us, h1, h2⟩ := res_ok s ht e q
  have hr : (results F tmps).run C.P w = .ok (if h : (⟨us⟩ : Array Value).size = 1 then (⟨us⟩ : Array Value)[0] else .tuple ⟨us⟩) w := by
    have : results F tmps = (do let vs ← F.results.mapM (rdV tmps); pure (if h : vs.size = 1 then vs[0] else .tuple vs)) := by
      unfold results
      congr
    rw [this, Array.mapM_eq_mapM_toList]
    simp [h1]
  cases h2 with
  | nil => exact ⟨_, hr, .tup .nil⟩
  | cons a t => cases t with
    | nil => exact ⟨_, hr, a⟩
    | cons b t => exact ⟨_, hr, .tup (.cons a (.cons b t))⟩
end
structure EnvOk (C : Cx) (E : Env) : Prop where
  ok : ∀ f fn, E.cf f = some fn → ∃ F, C.P.funcs[f]? = some F ∧ cFunc C.P C.T C.keep F = some fn ∧ (F.name == "runtime.NumGoroutine") = false
section
variable {C : Cx} {E : Env} {b : Frame} {K : KK} {g g' : Gh} {U : Nat → Option (List AV)} {h h0 h' : AH} {w : World} {tm : Tm} {tmps : Array Value} {todo : List Item} {ds : List Deferred} {md : FrameMode}
theorem lowered_next (p : Bool) (h : AH) : (lowered p h).next = h.next := by cases p <;> rfl
theorem Sim.lower (s : Sim C g U h w) (n : Nat) : Sim C g U ⟨h.next, n, h.objs⟩ w :=
  ⟨s.frz, s.obj, s.lt, s.unb, s.rlt, s.sep, s.old, s.sz, s.tape, s.os, s.output⟩
theorem Sim.lowered (s : Sim C g U h w) (p : Bool) : Sim C g U (lowered p h) w := by
  cases p with
  | false => exact s
  | true => exact s.lower _
theorem low_back {p : Bool} (l : Low (lowered p h0) h) : Low h0 (lowBack p h0 h) := by
  cases p with
  | false => exact l
  | true =>
    refine ⟨l.next, ?_, fun k h1 h2 => ?_⟩
    · show minN h.low h0.low ≤ h0.low
      rw [minN_eq]; exact Nat.min_le_right _ _
    · have h2 : k < minN h.low h0.low := h2
      rw [minN_eq] at h2
      exact l.get k h1 (Nat.lt_of_lt_of_le h2 (Nat.min_le_left _ _))
theorem Sim.lowBack (s : Sim C g U h w) (p : Bool) (h0 : AH) : Sim C g U (lowBack p h0 h) w := by
  cases p with
  | false => exact s
  | true => exact s.lower _
theorem fin_sim {call : CallF} (hcall : CallOk C call) {F : Func} {fn : AFunc} {p : Bool} {fr : AF} {m : Md} {nt : Nat} {out : AOut} {rc' : RC} {g0 : Gh} {U0 : Nat → Option (List AV)} {kind : CallKind} (hk : b.kind = kind)
    (hF : C.P.funcs[b.fn]? = some F) (hres : mapO (cRes C.T) F.results.toList = some fn.results) (q : evFin call p h0 fn fr m h = some (out, rc', h')) (s0 : ∀ k o, h0.get k = some o → k < h0.next)
    (x0 : Ext g0 g) (u0 : UExt h0.next U0 U) (l0 : Low (lowered p h0) h) (s : Sim C g U h w) (f : FR g b K nt fr tmps ds) (hm : MRel g m md) (hn : noCall todo) (hK : K.cs = K.c0 :: K.rest) :
    ∃ g' U' w', Ext g0 g' ∧ UExt h0.next U0 U' ∧ Sim C g' U' h' w' ∧ Low h0 h' ∧ RcOk g' K kind rc' ∧ Lands C.P K kind rc' (lone (stM b tmps ds todo md) (csAt K fr.cx.rc) w) g' w' out := by
  subst hk
  obtain ⟨⟨m1, h1⟩, q1, q⟩ := bindO_eq (show bindO (evDefs fr.cx.dfs call m h) _ = _ from q)
  obtain ⟨g1, U1, w1, md1, x1, u1, s1, l1, hm1, st1⟩ := defs_sim (b := b) (tmps := tmps) (todo := todo) (cs := csAt K fr.cx.rc) hcall _ q1 s f.hd hm
  have lall : Low (lowered p h0) h1 := l0.trans l1
  have uall : UExt h0.next U0 U1 := u0.trans u1 (by have := l0.next; rw [lowered_next] at this; exact this)
  have f1 := f.mono x1
  cases hm1 with
  | pan hv =>
    cases q
    refine ⟨g1, U1, w1, x0.trans x1, uall, s1.lowBack p h0, low_back lall, f1.hr, _, hv, fun hkn => ?_⟩
    have hrc := f1.hr
    rw [hkn] at hrc
    have := normal_rc hrc
    rw [this] at st1 ⊢
    have st1 : Steps C.P _ (lone _ K.cs w1) := st1
    rw [hK] at st1
    exact st1.trans (.one (st_raise hn))
  | ret =>
    obtain ⟨vs, q2, q⟩ := bindO_eq (show bindO (evRes fn.results fr.tm h1) _ = _ from q)
    obtain ⟨u, hr, hv⟩ := results_ok s1 f1.ht hres q2
    have st2 := st1.trans (.one (st_return hF hr f1.hr hK))
    have same : some (AOut.ret (one vs), fr.cx.rc, lowBack p h0 h1) = some (out, rc', h') → ∃ g' U' w', Ext g0 g' ∧ UExt h0.next U0 U' ∧ Sim C g' U' h' w' ∧ Low h0 h' ∧ RcOk g' K b.kind rc' ∧ Lands C.P K b.kind rc' (lone (stM b tmps ds todo md) (csAt K fr.cx.rc) w) g' w' out := by
      intro q
      cases q
      exact ⟨g1, U1, w1, x0.trans x1, uall, s1.lowBack p h0, low_back lall, f1.hr, u, hv, st2⟩
    cases p with
    | false => exact same q
    | true =>
      have q : cond (Nat.ble h0.next h1.low) (some (AOut.ret (frz 4 h1 h0.next (one vs)), fr.cx.rc, (⟨h1.next, h0.low, h0.objs⟩ : AH))) (some (AOut.ret (one vs), fr.cx.rc, (⟨h1.next, minN h1.low h0.low, h1.objs⟩ : AH))) = some (out, rc', h') := q
      cases hc : Nat.ble h0.next h1.low with
      | false => rw [hc] at q; exact same q
      | true =>
        rw [hc] at q
        have hc := ble_le hc
        cases q
        have hsame : ∀ k, k < h0.next → h1.get k = h0.get k := fun k hk => lall.get k hk (Nat.lt_of_lt_of_le hk hc)
        have hnx : h0.next ≤ h1.next := lall.next
        refine ⟨g1.leave h1 h0.next w1, _, w1, (x0.trans x1).trans (s1.leave_ext _), ?_, s1.leave hnx h0.low s0 hsame, ⟨hnx, Nat.le_refl _, fun _ _ _ => rfl⟩, f1.hr.mono (s1.leave_ext _), u, frz_rel s1 _ 4 hv, st2⟩
        exact ⟨fun k hk => by show (if k < h0.next then U1 k else none) = U0 k; rw [if_pos hk]; exact uall.keep k hk⟩
theorem start_rel {as : List AV} {us : List Value} (h : VRels g as us) (n : Nat) : TRel g (startTm as) ((⟨us⟩ : Array Value) ++ Array.replicate n undef) := by
  intro i
  have e1 : nth (startTm as) i = (as[i]?).getD (.tup []) := by
    unfold nth startTm
    rw [Tr.get_ofList]
    cases as[i]? <;> rfl
  rw [e1, Array.getD_eq_getD_getElem?]
  by_cases hi : i < us.length
  · have e2 : ((⟨us⟩ : Array Value) ++ Array.replicate n undef)[i]? = us[i]? := by
      rw [Array.getElem?_append_left (by simpa using hi)]; simp
    rw [e2]
    have hl := h.length
    obtain ⟨y, hy, hr⟩ := h.get (List.getElem?_eq_getElem (show i < as.length by omega))
    rw [hy, List.getElem?_eq_getElem (show i < as.length by omega)]
    exact hr
  · have hl := h.length
    rw [List.getElem?_eq_none (by omega)]
    have e2 : (((⟨us⟩ : Array Value) ++ Array.replicate n undef)[i]?).getD undef = undef := by
      rw [Array.getElem?_append_right (by simpa using hi)]
      simp only [Array.getElem?_replicate]
      split <;> rfl
    rw [e2]
    exact .tup .nil
theorem fn_sim {call : CallF} (hcall : CallOk C call) (hdraw : DrawOk C call) (hE : EnvOk C E) {n : Nat} {f : FuncId} {as : List AV} {us : List Value} {rc rc' : RC} {out : AOut} {kind : CallKind}
    (q : evFn E call n f as rc h = some (out, rc', h')) (s : Sim C g U h w) (ha : VRels g as us) (hr : RcOk g K kind rc) (hK : K.cs = K.c0 :: K.rest) :
    (callFunc f ⟨us⟩).run C.P w = .ok (.enter f ⟨us⟩) w ∧ ∃ g' U' w', Ext g g' ∧ UExt h.next U U' ∧ Sim C g' U' h' w' ∧ Low h h' ∧ RcOk g' K kind rc' ∧
      Lands C.P K kind rc' (lone (Frame.enter C.P f ⟨us⟩ kind) (csAt K rc) w) g' w' out := by
  obtain ⟨fn, q1, q⟩ := bindO_eq (show bindO (E.cf f) _ = _ from q)
  obtain ⟨F, hF, hc, hname⟩ := hE.ok f fn q1
  obtain ⟨body, hb, hc⟩ := bindO_eq (show bindO F.body _ = _ from hc)
  obtain ⟨ac, hac, hc⟩ := bindO_eq (show bindO (cCode body C.P C.T C.keep F.ntmps) _ = _ from hc)
  obtain ⟨rs, hrs, hc⟩ := bindO_eq hc
  cases hc
  have hcf : (callFunc f ⟨us⟩).run C.P w = .ok (.enter f ⟨us⟩) w := by
    have hn2 : ¬ F.name = "runtime.NumGoroutine" := by intro hq; rw [hq] at hname; simp at hname
    simp [callFunc, hF, hn2, hb]
  refine ⟨hcf, ?_⟩
  obtain ⟨⟨e, fr', h1⟩, q2, q⟩ := bindO_eq q
  have hent : Frame.enter C.P f ⟨us⟩ kind = stF (Frame.enter C.P f ⟨us⟩ kind) ((⟨us⟩ : Array Value) ++ Array.replicate (F.ntmps - us.length) undef) [] [.code body] := by
    simp [Frame.enter, stF, hF, hb]
  have hfr : FR g (Frame.enter C.P f ⟨us⟩ kind) K F.ntmps ⟨startTm as, ⟨[], rc, none, f⟩⟩ ((⟨us⟩ : Array Value) ++ Array.replicate (F.ntmps - us.length) undef) [] := by
    refine ⟨start_rel ha _, .nil, hr, ?_, rfl, .none⟩
    simp; omega
  have G := code_sim hcall hdraw n body ac F.ntmps hac (k := []) q2 (s.lowered _) hfr
  rw [← hent] at G
  obtain ⟨g1, U1, w1, tmps1, ds1, x1, u1, s1, l1, f1, o1⟩ := G
  rw [lowered_next] at u1
  have hfn : C.P.funcs[(Frame.enter C.P f ⟨us⟩ kind).fn]? = some F := hF
  have go : ∀ (m : Md) (md : FrameMode) (todo : List Item), MRel g1 m md → noCall todo → evFin call (E.pure f) h ⟨F.ntmps, rs, ac⟩ fr' m h1 = some (out, rc', h') →
      Steps C.P (lone (Frame.enter C.P f ⟨us⟩ kind) (csAt K rc) w) (lone (stM (Frame.enter C.P f ⟨us⟩ kind) tmps1 ds1 todo md) (csAt K fr'.cx.rc) w1) →
      ∃ g' U' w', Ext g g' ∧ UExt h.next U U' ∧ Sim C g' U' h' w' ∧ Low h h' ∧ RcOk g' K kind rc' ∧ Lands C.P K kind rc' (lone (Frame.enter C.P f ⟨us⟩ kind) (csAt K rc) w) g' w' out := by
    intro m md todo hm hn q st
    obtain ⟨g2, U2, w2, a1, a2, a3, a4, a5, a6⟩ := fin_sim (b := Frame.enter C.P f ⟨us⟩ kind) hcall rfl hfn hrs q s.lt x1 u1 l1 s1 f1 hm hn hK
    refine ⟨g2, U2, w2, a1, a2, a3, a4, a5, ?_⟩
    cases out with
    | ret v => obtain ⟨u, b1, b2⟩ := a6; exact ⟨u, b1, st.trans b2⟩
    | pan v => obtain ⟨u, b1, b2⟩ := a6; exact ⟨u, b1, fun hk => st.trans (b2 hk)⟩
  cases e with
  | exit id => cases q
  | normal => exact go .returning .returning [] .ret trivial q (o1.trans (.one (st_leave rfl)))
  | ret =>
    obtain ⟨k1, o1⟩ := o1
    exact go .returning .returning (.code .ret :: k1) .ret trivial q (o1.trans (.one (st_leaveRet rfl)))
  | panic v =>
    obtain ⟨k1, pv, hn, hv, o1⟩ := o1
    exact go (.panicking v) _ k1 (.pan hv) hn q o1
end
section
variable {C : Cx} {E : Env} {b : Frame} {K : KK} {g g' : Gh} {U : Nat → Option (List AV)} {h h0 h' : AH} {w w1 : World} {tm : Tm} {tmps : Array Value} {k : List Item} {ds : List Deferred} {cs : List Frame} {c : Frame} {l : Nat} {v : Value}
theorem st_roundEnd {P : Program} (hro : b.roundOf = some l) (hk : b.kind = .normal) (hr : (Instr.endRound l none).run P w = .ok v w1) :
    step P (lone (stF b tmps ds []) (c :: cs) w) = .next (lone (c.finish v) cs w1) :=
  step_lone_go (by simp [stepG, stepG.exec, stF, hro, hr, doReturn, hk])
theorem st_roundRet {P : Program} (hro : b.roundOf = some l) (hk : b.kind = .normal) (hr : (Instr.endRound l (some .ret)).run P w = .ok v w1) :
    step P (lone (stF b tmps ds (.code .ret :: k)) (c :: cs) w) = .next (lone (c.finish v) cs w1) :=
  step_lone_go (by simp [stepG, stepG.exec, stF, hro, hr, doReturn, hk])
theorem st_roundExit {P : Program} {id : Nat} (hro : b.roundOf = some l) (hk : b.kind = .normal) (he : exitTo id k = none) (hr : (Instr.endRound l (some (.exit id))).run P w = .ok v w1) :
    step P (lone (stF b tmps ds (.code (.exit id) :: k)) (c :: cs) w) = .next (lone (c.finish v) cs w1) :=
  step_lone_go (by simp [stepG, stepG.exec, stF, hro, hr, doReturn, hk, he])
theorem st_begin {P : Program} (hro : b.roundOf = some l) (hr : (Instr.beginRound l).run P w = .ok () w1) :
    step P (lone (stF b tmps ds (.beginRound :: k)) cs w) = .next (lone (stF b tmps ds k) cs w1) :=
  step_lone_go (by simp [stepG, stepG.exec, stF, hro, stepG.apply, hr, Frame.finish])
theorem putAll_cons (p : Nat) (ps : List Nat) (a : AV) (as : List AV) (tm : Tm) : putAll (p :: ps) (a :: as) tm = putAll ps as (tm.put p a) := rfl
theorem putAll_rel {nt : Nat} : ∀ (ps : List Nat) {as : List AV} {us : List Value} {tm : Tm} {tmps : Array Value}, ps.length = as.length → VRels g as us → backOk nt ps = true → nt ≤ tmps.size → TRel g tm tmps →
    TRel g (putAll ps as tm) ((ps.zip us).foldl (fun tmps (p : Nat × Value) => tmps.setIfInBounds p.1 p.2) tmps) ∧ nt ≤ ((ps.zip us).foldl (fun tmps (p : Nat × Value) => tmps.setIfInBounds p.1 p.2) tmps).size
  | [], as, us, tm, tmps, hl, ha, hb, hn, ht => by simp; exact ⟨ht, hn⟩
  | p :: ps, as, us, tm, tmps, hl, ha, hb, hn, ht => by
    cases ha with
    | nil => simp at hl
    | @cons a u as us h t =>
      obtain ⟨h1, h2⟩ := and_eq (show and (Nat.blt p nt) (backOk nt ps) = true from hb)
      rw [putAll_cons]
      have ht' : TRel g (tm.put p a) (tmps.setIfInBounds p u) := TRel.put (d := some p) ht h1 hn h
      have := putAll_rel ps (as := as) (us := us) (tm := tm.put p a) (tmps := tmps.setIfInBounds p u) (by simpa using hl) t h2 (by simpa using hn) ht'
      simpa using this
theorem run_yield {L : Loop} {us : List Value} (e : w.heap[l]? = some (.loop L)) (hn : us.length = L.params.size) :
    (Instr.yield l ⟨us⟩).run C.P w = .ok (.round l L.fn ((L.params.toList.zip us).foldl (fun tmps (p : Nat × Value) => tmps.setIfInBounds p.1 p.2) L.tmps) L.assign L.body) w := by
  have e1 := run_getLoop (C := C) e
  have e2 : (L.params.zip (⟨us⟩ : Array Value)).foldl (fun tmps (p : Nat × Value) => tmps.setIfInBounds p.1 p.2) L.tmps = (L.params.toList.zip us).foldl (fun tmps (p : Nat × Value) => tmps.setIfInBounds p.1 p.2) L.tmps := by
    rw [← Array.foldl_toList]; simp
  have hsz : (L.params.zip (⟨us⟩ : Array Value)).size = L.params.size := by simp [hn]
  simp [Instr.yield, e1, hn]
  rw [← e2, hsz]
theorem loop_at (s : Sim C g U h w) {j : Nat} {lc : Loc} {st : LoopState} {pend : Option AEx} {tm0 : Tm} {ps : List Nat} {as bd : ACode} {f : FuncId} (hl : g.ρ j 0 = some lc) (hg : h.get j = some (.loop st pend tm0 ps as bd f)) :
    ∃ L, w.heap[lc.block]? = some (.loop L) ∧ LoopAt C g st pend tm0 ps as bd f L := by
  obtain ⟨lc', h1, _, L0, h2, hL⟩ := s.obj j _ hg (s.born hl)
  have h1 : g.ρ j 0 = some lc' := h1
  rw [hl] at h1; cases h1
  exact ⟨L0, h2, hL⟩
theorem loop_put (s : Sim C g U h w) {j : Nat} {lc : Loc} {st st' : LoopState} {pend pend' : Option AEx} {tm0 : Tm} {ps : List Nat} {as bd : ACode} {f : FuncId} {L : Loop} {pd : Option Code} (hl : g.ρ j 0 = some lc)
    (hg : h.get j = some (.loop st pend tm0 ps as bd f)) (e : w.heap[lc.block]? = some (.loop L)) (hL : LoopAt C g st pend tm0 ps as bd f L) (hp : PRel pend' pd) :
    Sim C g U (h.set j (.loop st' pend' tm0 ps as bd f)) (setBlk w lc.block (.loop { L with state := st', pending := pd })) := by
  have hlt : lc.block < w.heap.size := (Array.getElem?_eq_some_iff.1 e).1
  refine s.put hg (s.born hl) hl rfl ⟨_, setBlk_same hlt, ?_⟩ (fun i v x => ?_)
  · exact ⟨rfl, hp, hL.htm, hL.hps, hL.hfn, hL.hcode⟩
  · have := s.frz _ _ _ x
    unfold World.cell? at this
    simp [e] at this
theorem run_begin {L : Loop} (e : w.heap[l]? = some (.loop L)) (hs : L.state = .ready) : (Instr.beginRound l).run C.P w = .ok () (setBlk w l (.loop { L with state := .busy })) := by
  have e1 := run_getLoop (C := C) e
  have e2 := run_setObj (C := C) (ob' := .loop { L with state := .busy }) e (by intros; simp)
  simp [Instr.beginRound, e1, e2, hs]
theorem run_endRound {L : Loop} (e : w.heap[l]? = some (.loop L)) (jump : Option Code) :
    (Instr.endRound l jump).run C.P w = .ok (.bool jump.isNone) (setBlk w l (.loop { L with state := if jump.isNone then .ready else .done, pending := jump })) := by
  have e1 := run_getLoop (C := C) e
  have e2 := run_setObj (C := C) (ob' := .loop { L with state := if jump.isNone then .ready else .done, pending := jump }) e (by intros; simp)
  cases jump <;> (simp at e2; simp [Instr.endRound, e1, e2])
theorem yldSet_some {j : Nat} {st' : LoopState} {pend' : Option AEx} (q : yldSet h j st' pend' = some h') : ∃ st pend tm0 ps as bd f, h.get j = some (.loop st pend tm0 ps as bd f) ∧ h' = h.set j (.loop st' pend' tm0 ps as bd f) := by
  obtain ⟨o, hg, q⟩ := bindO_eq (show bindO (h.get j) _ = _ from q)
  cases o with
  | loop st pend tm0 ps as bd f => cases q; exact ⟨_, _, _, _, _, _, _, hg, rfl⟩
  | _ => cases q
theorem yld_sim {call : CallF} (hcall : CallOk C call) (hdraw : DrawOk C call) {n j : Nat} {lc : Loc} {args : List AV} {us : List Value} {out : AOut} {rc' : RC} (q : evYld call n j args h = some (out, rc', h'))
    (s : Sim C g U h w) (hl : g.ρ j 0 = some lc) (ha : VRels g args us) (hK : K.cs = K.c0 :: K.rest) :
    ∃ ff ts x y, (Instr.yield lc.block ⟨us⟩).run C.P w = .ok (.round lc.block ff ts x y) w ∧ ∃ g' U' w', Ext g g' ∧ UExt h.next U U' ∧ Sim C g' U' h' w' ∧ Low h h' ∧ RcOk g' K .normal rc' ∧
      Lands C.P K .normal rc' (lone (Frame.round lc.block ff ts x y .normal) (csAt K .no) w) g' w' out := by
  obtain ⟨o, hg, q⟩ := bindO_eq (show bindO (h.get j) _ = _ from q)
  cases o with
  | loop st pend tm0 ps as bd f =>
    obtain ⟨hlen, q⟩ := cond_some (show cond (Nat.beq (len args) (len ps)) (yldBody call n j bd (evCode as call n ⟨putAll ps args tm0, ⟨[], .no, some j, f⟩⟩ h)) none = some (out, rc', h') from q)
    have hlen := beq_eq hlen
    rw [len_eq, len_eq] at hlen
    obtain ⟨L, e, hL⟩ := loop_at s hl hg
    obtain ⟨nt, hnt, hca, hcb, hbk⟩ := hL.hcode
    have hps := hL.hps
    have hul : us.length = L.params.size := by rw [← ha.length, hlen, ← hps]; simp
    obtain ⟨ht, hn⟩ := putAll_rel (nt := nt) ps (as := args) (us := us) (tm := tm0) (tmps := L.tmps) hlen.symm ha hbk hnt hL.htm
    refine ⟨_, _, _, _, run_yield e hul, ?_⟩
    rw [hps]
    generalize (ps.zip us).foldl (fun tmps (p : Nat × Value) => tmps.setIfInBounds p.1 p.2) L.tmps = ts at ht hn
    obtain ⟨b, hb⟩ : ∃ b, b = Frame.round lc.block L.fn ts L.assign L.body .normal := ⟨_, rfl⟩
    have hst : Frame.round lc.block L.fn ts L.assign L.body .normal = stF b ts [] (.code L.assign :: [.beginRound, .code L.body]) := by subst hb; rfl
    have hro : b.roundOf = some lc.block := by subst hb; rfl
    have hkd : b.kind = .normal := by subst hb; rfl
    rw [hst]
    have hfr : FR g b K nt ⟨putAll ps args tm0, ⟨[], .no, some j, f⟩⟩ ts [] := ⟨ht, .nil, hkd, hn, by subst hb; exact hL.hfn.symm, by rw [hro]; exact .some hl⟩
    obtain ⟨⟨e1, fr1, h1⟩, q1, q⟩ := bindO_eq (show bindO (evCode as call n ⟨putAll ps args tm0, ⟨[], .no, some j, f⟩⟩ h) _ = _ from q)
    obtain ⟨hnorm, q⟩ := cond_some (show cond (isNormal e1) _ none = _ from q)
    cases e1 <;> first | (cases hnorm; done) | skip
    obtain ⟨g1, U1, w1, t1, d1, x1, u1, s1, l1, f1, o1⟩ := code_sim hcall hdraw n L.assign as nt hca (k := [.beginRound, .code L.body]) q1 s hfr
    obtain ⟨h2, q2, q⟩ := bindO_eq q
    obtain ⟨o2, hg2, q2⟩ := bindO_eq (show bindO (h1.get j) _ = _ from q2)
    cases o2 with
    | loop st2 pend2 tm2 ps2 as2 bd2 f2 =>
      obtain ⟨hrd, q2⟩ := cond_some (show cond (isReady st2) (some (h1.set j (.loop .busy pend2 tm2 ps2 as2 bd2 f2))) none = some h2 from q2)
      cases q2
      have hl1 := x1.ρ _ _ _ hl
      obtain ⟨L2, e2, hL2⟩ := loop_at s1 hl1 hg2
      have hst2 : L2.state = .ready := by rw [hL2.hst]; cases st2 <;> first | rfl | cases hrd
      have s2 : Sim C g1 U1 (h1.set j (.loop .busy pend2 tm2 ps2 as2 bd2 f2)) (setBlk w1 lc.block (.loop { L2 with state := .busy })) := loop_put s1 hl1 hg2 e2 hL2 hL2.hpend
      have o2 := Steps.trans (show Steps C.P _ _ from o1) (.one (st_begin hro (run_begin (C := C) e2 hst2)))
      obtain ⟨⟨e3, fr3, h3⟩, q3, q⟩ := bindO_eq q
      obtain ⟨hnil, q⟩ := cond_some (show cond (nilL fr3.cx.dfs) (yldEx e3 j h3) none = _ from q)
      obtain ⟨g3, U3, w3, t3, d3, x3, u3, s3, l3, f3, o3⟩ := code_sim hcall hdraw n L.body bd nt hcb (k := []) q3 s2 f1
      have xx := x1.trans x3
      have ll : Low h h3 := (l1.trans (Low.set _ _ _)).trans l3
      have uu : UExt h.next U U3 := u1.trans u3 (by rw [AH.next_set]; exact l1.next)
      have hl3 := xx.ρ _ _ _ hl
      have hrc3 : fr3.cx.rc = .no := normal_rc (by have := f3.hr; rw [hkd] at this; exact this)
      have fin : ∀ (jump : Option Code) (pd : Option AEx), PRel pd jump → yldRet jump.isNone (yldSet h3 j (if jump.isNone then .ready else .done) pd) = some (out, rc', h') →
          (∀ v w', (Instr.endRound lc.block jump).run C.P w3 = .ok v w' → Steps C.P (lone (stF b ts [] (.code L.assign :: [.beginRound, .code L.body])) (csAt K .no) w) (lone (K.c0.finish v) K.rest w')) →
          ∃ g' U' w', Ext g g' ∧ UExt h.next U U' ∧ Sim C g' U' h' w' ∧ Low h h' ∧ RcOk g' K .normal rc' ∧ Lands C.P K .normal rc' (lone (stF b ts [] (.code L.assign :: [.beginRound, .code L.body])) (csAt K .no) w) g' w' out := by
        intro jump pd hp q hs
        obtain ⟨h4, q4, q⟩ := bindO_eq (show bindO (yldSet h3 j (if jump.isNone then .ready else .done) pd) _ = _ from q)
        cases q
        obtain ⟨st4, pend4, tm4, ps4, as4, bd4, f4, hg4, rfl⟩ := yldSet_some q4
        obtain ⟨L4, e4, hL4⟩ := loop_at s3 hl3 hg4
        have hrun := run_endRound (C := C) e4 jump
        exact ⟨g3, U3, _, xx, uu, loop_put s3 hl3 hg4 e4 hL4 hp, ll.trans (Low.set _ _ _), rfl, _, .bool _, hs _ _ hrun⟩
      cases e3 with
      | normal =>
        refine fin none none .none q fun v w' hr => ?_
        have o3 : Steps C.P _ (lone (stF b t3 d3 []) (csAt K fr3.cx.rc) w3) := o3
        rw [hrc3, show csAt K .no = K.c0 :: K.rest from hK] at o3
        exact o2.trans (o3.trans (.one (st_roundEnd hro hkd hr)))
      | ret =>
        refine fin (some .ret) (some .ret) .ret q fun v w' hr => ?_
        obtain ⟨k1, o3⟩ := o3
        rw [hrc3, show csAt K .no = K.c0 :: K.rest from hK] at o3
        exact o2.trans (o3.trans (.one (st_roundRet hro hkd hr)))
      | exit id =>
        refine fin (some (.exit id)) (some (.exit id)) (.exit id) q fun v w' hr => ?_
        obtain ⟨k1, hk1, o3⟩ := o3
        rw [hrc3, show csAt K .no = K.c0 :: K.rest from hK] at o3
        exact o2.trans (o3.trans (.one (st_roundExit hro hkd hk1 hr)))
      | panic v =>
        cases q
        obtain ⟨k1, pv, hnc, hv, o3⟩ := o3
        rw [hrc3, show csAt K .no = K.c0 :: K.rest from hK] at o3
        have hds : d3 = [] := by
          have hd := f3.hd
          cases hdf : fr3.cx.dfs with
          | nil => rw [hdf] at hd; cases hd; rfl
          | cons a t => rw [hdf] at hnil; cases hnil
        subst hds
        refine ⟨g3, U3, w3, xx, uu, s3, ll, rfl, pv, hv, fun _ => ?_⟩
        exact o2.trans (o3.trans (.one (st_raise hnc)))
    | _ => cases q2
  | _ => cases q
theorem call_ok (hE : EnvOk C E) (hD : ∀ call, CallOk C call → DrawOk C call) : ∀ n, CallOk C (evCall E n)
  | 0 => by intro f args rc h out rc' h' q; cases q
  | n + 1 => by
    have hcall := call_ok hE hD n
    have hdraw := hD _ hcall
    intro f args rc h out rc' h' q g U w fv us K kind s hf ha hr hK
    replace q : evVal f E (evCall E n) n args rc h = some (out, rc', h') := q
    cases f <;> first | (cases q; done) | skip
    case fn fi first caps =>
      obtain ⟨x, y, hx, hy, rfl⟩ := hf.fn_inv
      have q : evFn E (evCall E n) n fi (app first (app args caps)) rc h = some (out, rc', h') := q
      rw [app_eq, app_eq] at q
      obtain ⟨h1, h2⟩ := fn_sim (K := K) hcall hdraw hE q s (hx.append (ha.append hy)) hr hK
      refine ⟨_, Frame.enter C.P fi ⟨x ++ (us ++ y)⟩ kind, fun w => ofValue_fn (C := C) (.fn hx hy) rfl w, .inl ⟨fi, ⟨x ++ (us ++ y)⟩, ?_, rfl⟩, h2⟩
      have : (⟨x ++ us⟩ : Array Value) ++ (⟨y⟩ : Array Value) = ⟨x ++ (us ++ y)⟩ := by apply Array.ext'; simp
      show (callFunc fi ((⟨x ++ us⟩ : Array Value) ++ (⟨y⟩ : Array Value))).run C.P w = _
      rw [this]; exact h1
    case yld j =>
      obtain ⟨lc, hl, rfl⟩ := hf.yld_inv
      obtain ⟨hrc, q⟩ := cond_some (show cond (isNo rc) (evYld (evCall E n) n j args h) none = some (out, rc', h') from q)
      cases rc <;> first | (cases hrc; done) | skip
      have hk : kind = .normal := hr
      subst hk
      obtain ⟨ff, ts, xx, yy, h1, h2⟩ := yld_sim (K := K) hcall hdraw q s hl ha hK
      refine ⟨{ target := .fn (.yield lc.block) #[], args := ⟨us⟩ }, Frame.round lc.block ff ts xx yy .normal, fun w => by simp [Deferred.ofValue], .inr ⟨rfl, lc.block, ff, ts, xx, yy, ?_, rfl⟩, h2⟩
      show (Instr.yield lc.block ⟨us⟩).run C.P w = _
      exact h1
end
end Go.AG
