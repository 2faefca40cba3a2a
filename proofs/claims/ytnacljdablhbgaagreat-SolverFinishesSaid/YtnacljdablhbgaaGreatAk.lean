/- AbsGo: from the evaluator to a contract of the kit's (no condition beside what is said of the table of functions). -/
import Derived.Test.YtnacljdablhbgaaGreatAj
import Derived.Calls
namespace Go.AG
section
variable {C : Cx} {E : Env} {b : Frame} {K : KK} {g g' : Gh} {U : Nat → Option (List AV)} {h h0 h' : AH} {w : World} {tm : Tm} {tmps : Array Value} {todo : List Item} {ds : List Deferred} {md : FrameMode}
theorem fin_top {call : CallF} (hcall : CallOk C call) {F : Func} {fn : AFunc} {p : Bool} {fr : AF} {m : Md} {nt : Nat} {v : AV} {rc' : RC} {g0 : Gh} {U0 : Nat → Option (List AV)}
    (hres : mapO (cRes C.T) F.results.toList = some fn.results) (q : evFin call p h0 fn fr m h = some (.ret v, rc', h')) (s0 : ∀ k o, h0.get k = some o → k < h0.next)
    (x0 : Ext g0 g) (u0 : UExt h0.next U0 U) (l0 : Low (lowered p h0) h) (s : Sim C g U h w) (f : FR g b K nt fr tmps ds) (hm : MRel g m md) :
    ∃ g' U' w' u, Ext g0 g' ∧ UExt h0.next U0 U' ∧ Sim C g' U' h' w' ∧ VRel g' v u ∧ (results F tmps).run C.P w' = .ok u w' ∧
      Steps C.P (lone (stM b tmps ds todo md) (csAt K fr.cx.rc) w) (lone (stM b tmps [] todo .returning) (csAt K fr.cx.rc) w') := by
  obtain ⟨⟨m1, h1⟩, q1, q⟩ := bindO_eq (show bindO (evDefs fr.cx.dfs call m h) _ = _ from q)
  obtain ⟨g1, U1, w1, md1, x1, u1, s1, l1, hm1, st1⟩ := defs_sim (b := b) (tmps := tmps) (todo := todo) (cs := csAt K fr.cx.rc) hcall _ q1 s f.hd hm
  have lall : Low (lowered p h0) h1 := l0.trans l1
  have uall : UExt h0.next U0 U1 := u0.trans u1 (by have := l0.next; rw [lowered_next] at this; exact this)
  have f1 := f.mono x1
  cases hm1 with
  | pan hv => cases q
  | ret =>
    obtain ⟨vs, q2, q⟩ := bindO_eq (show bindO (evRes fn.results fr.tm h1) _ = _ from q)
    obtain ⟨u, hr, hv⟩ := results_ok s1 f1.ht hres q2
    have same : some (AOut.ret (one vs), fr.cx.rc, lowBack p h0 h1) = some (AOut.ret v, rc', h') → ∃ g' U' w' u, Ext g0 g' ∧ UExt h0.next U0 U' ∧ Sim C g' U' h' w' ∧ VRel g' v u ∧ (results F tmps).run C.P w' = .ok u w' ∧
      Steps C.P (lone (stM b tmps ds todo md) (csAt K fr.cx.rc) w) (lone (stM b tmps [] todo .returning) (csAt K fr.cx.rc) w') := by
      intro q
      cases q
      exact ⟨g1, U1, w1, u, x0.trans x1, uall, s1.lowBack p h0, hv, hr, st1⟩
    cases p with
    | false => exact same q
    | true =>
      have q : cond (Nat.ble h0.next h1.low) (some (AOut.ret (frz 4 h1 h0.next (one vs)), fr.cx.rc, (⟨h1.next, h0.low, h0.objs⟩ : AH))) (some (AOut.ret (one vs), fr.cx.rc, (⟨h1.next, minN h1.low h0.low, h1.objs⟩ : AH))) = some (AOut.ret v, rc', h') := q
      cases hc : Nat.ble h0.next h1.low with
      | false => rw [hc] at q; exact same q
      | true =>
        rw [hc] at q
        have hc := ble_le hc
        cases q
        have hsame : ∀ k, k < h0.next → h1.get k = h0.get k := fun k hk => lall.get k hk (Nat.lt_of_lt_of_le hk hc)
        have hnx : h0.next ≤ h1.next := lall.next
        refine ⟨g1.leave h1 h0.next w1, _, w1, u, (x0.trans x1).trans (s1.leave_ext _), ?_, s1.leave hnx h0.low s0 hsame, frz_rel s1 _ 4 hv, hr, st1⟩
        exact ⟨fun k hk => by show (if k < h0.next then U1 k else none) = U0 k; rw [if_pos hk]; exact uall.keep k hk⟩
theorem calls_of_fn {call : CallF} (hcall : CallOk C call) (hE : EnvOk C E) {n : Nat} {f : FuncId} {as : List AV} {us : List Value} {v : AV} {rc' : RC} (q : evFn E call n f as .no h = some (.ret v, rc', h'))
    (s : Sim C g U h w) (ha : VRels g as us) : Calls C.P f ⟨us⟩ w fun e w' => ∃ u g' U', e = .returned u ∧ Ext g g' ∧ VRel g' v u ∧ Sim C g' U' h' w' := by
  intro cs
  have hdraw := draw_ok hcall
  obtain ⟨fn, q1, q⟩ := bindO_eq (show bindO (E.cf f) _ = _ from q)
  obtain ⟨F, hF, hc, hname⟩ := hE.ok f fn q1
  obtain ⟨body, hb, hc⟩ := bindO_eq (show bindO F.body _ = _ from hc)
  obtain ⟨ac, hac, hc⟩ := bindO_eq (show bindO (cCode body C.P C.T C.keep F.ntmps) _ = _ from hc)
  obtain ⟨rs, hrs, hc⟩ := bindO_eq hc
  cases hc
  obtain ⟨⟨e, fr', h1⟩, q2, q⟩ := bindO_eq q
  obtain ⟨K, hK⟩ : ∃ K : KK, K = ⟨default, [], .nilIface, cs⟩ := ⟨_, rfl⟩
  have hent : Frame.enter C.P f ⟨us⟩ .normal = stF (Frame.enter C.P f ⟨us⟩ .normal) ((⟨us⟩ : Array Value) ++ Array.replicate (F.ntmps - us.length) undef) [] [.code body] := by
    simp [Frame.enter, stF, hF, hb]
  have hfr : FR g (Frame.enter C.P f ⟨us⟩ .normal) K F.ntmps ⟨startTm as, ⟨[], .no, none, f⟩⟩ ((⟨us⟩ : Array Value) ++ Array.replicate (F.ntmps - us.length) undef) [] := by
    refine ⟨start_rel ha _, .nil, rfl, ?_, rfl, .none⟩
    simp; omega
  have G := code_sim hcall hdraw n body ac F.ntmps hac (k := []) q2 (s.lowered _) hfr
  rw [← hent] at G
  obtain ⟨g1, U1, w1, tmps1, ds1, x1, u1, s1, l1, f1, o1⟩ := G
  rw [lowered_next] at u1
  have hrc : fr'.cx.rc = .no := normal_rc f1.hr
  have hcs : csAt K .no = cs := by rw [hK]; rfl
  have go : ∀ (m : Md) (md : FrameMode) (todo : List Item), MRel g1 m md → evFin call (E.pure f) h ⟨F.ntmps, rs, ac⟩ fr' m h1 = some (.ret v, rc', h') →
      Steps C.P (lone (Frame.enter C.P f ⟨us⟩ .normal) (csAt K .no) w) (lone (stM (Frame.enter C.P f ⟨us⟩ .normal) tmps1 ds1 todo md) (csAt K fr'.cx.rc) w1) →
      ∃ e w' fr, (∃ u g' U', e = .returned u ∧ Ext g g' ∧ VRel g' v u ∧ Sim C g' U' h' w') ∧ Comes C.P (lone (Frame.enter C.P f ⟨us⟩ .normal) cs w) (lone fr cs w') e ∧ fr.fn = f ∧ fr.leaving C.P w' e := by
    intro m md todo hm q st
    obtain ⟨g2, U2, w2, u, a1, a2, a3, a4, a5, a6⟩ := fin_top (b := Frame.enter C.P f ⟨us⟩ .normal) (todo := todo) hcall hrs q s.lt x1 u1 l1 s1 f1 hm
    have st2 := st.trans a6
    rw [hrc, hcs] at st2
    exact ⟨.returned u, w2, _, ⟨u, g2, U2, rfl, a1, a4, a3⟩, st2, rfl, rfl, rfl, rfl, F, hF, a5⟩
  cases e with
  | exit id => cases q
  | normal => exact go .returning .returning [] .ret q (o1.trans (.one (st_leave rfl)))
  | ret =>
    obtain ⟨k1, o1⟩ := o1
    exact go .returning .returning (.code .ret :: k1) .ret q (o1.trans (.one (st_leaveRet rfl)))
  | panic pv =>
    obtain ⟨k1, pv, hn, hv, o1⟩ := o1
    exact go (.panicking _) _ k1 (.pan hv) q o1
end
noncomputable def startG (w : World) : Gh := { F := fun b o => w.cell? ⟨b, o, none⟩, ρ := fun _ _ => none, w0 := w }
def emptyH : AH := ⟨0, 0, .lf⟩
theorem start_sim (C : Cx) (w : World) : Sim C (startG w) (fun _ => none) emptyH w where
  frz _ _ _ e := e
  obj k o e := by cases e
  lt k o e := by cases e
  unb k z e := by cases e
  rlt k n l e := by cases e
  sep k k' o o' l l' _ e := by cases e
  old _ _ := rfl
  sz := Nat.le_refl _
  tape := rfl
  os := rfl
  output := rfl
noncomputable section
def typesOf (P : Program) : Tr TypeInfo := Tr.ofList P.types.toList
def funcsOf (P : Program) : Tr Func := Tr.ofList P.funcs.toList
def cfOf (P : Program) (T : Tr TypeInfo) (FT : Tr Func) (keep : TypeId → Bool) (f : FuncId) : Option AFunc := bindO (FT.get f) fun F => cFunc P T keep F
def envOf (P : Program) (keep : TypeId → Bool) (pure : FuncId → Bool) : Env := { cf := cfOf P (typesOf P) (funcsOf P) keep, pure := pure }
def namesOk (P : Program) : Bool := P.funcs.toList.all fun F => !(F.name == "runtime.NumGoroutine")
end
theorem types_ok (P : Program) : ∀ t i, (typesOf P).get t = some i → P.info? t = some i := by
  intro t i h
  unfold typesOf at h
  rw [Tr.get_ofList] at h
  have h : P.types[t]? = some i := by simpa using h
  show Tables.info? _ t = some i
  unfold Tables.info?
  rw [if_pos (show t < P.types.size from (Array.getElem?_eq_some_iff.1 h).1)]
  exact h
noncomputable def cxOf (P : Program) (keep : TypeId → Bool) (h : P.follows .mixedOrders = true) : Cx := { P := P, T := typesOf P, keep := keep, ok := types_ok P, mixed := h }
theorem env_ok (P : Program) (keep : TypeId → Bool) (pure : FuncId → Bool) (h : P.follows .mixedOrders = true) (hn : namesOk P = true) : EnvOk (cxOf P keep h) (envOf P keep pure) := by
  refine ⟨fun f fn e => ?_⟩
  obtain ⟨F, h1, h2⟩ := bindO_eq (show bindO ((funcsOf P).get f) _ = _ from e)
  unfold funcsOf at h1
  rw [Tr.get_ofList] at h1
  refine ⟨F, show P.funcs[f]? = some F by simpa using h1, h2, ?_⟩
  have := List.all_eq_true.1 hn F (List.mem_of_getElem? h1)
  simpa using this
mutual
def AV.free : AV → Bool
  | .ptr _ _ _ => false
  | .row _ _ _ _ _ => false
  | .map _ => false
  | .yld _ => false
  | .any => false
  | .vptr v => v.free
  | .lst es => AV.frees es
  | .clip es => AV.frees es
  | .fn _ a b => AV.frees a && AV.frees b
  | .ifc _ v => v.free
  | .agg cs => AV.frees cs
  | .tup vs => AV.frees vs
  | _ => true
def AV.frees : List AV → Bool
  | [] => true
  | a :: l => a.free && AV.frees l
end
theorem frees_iff (l : List AV) : AV.frees l = true ↔ ∀ a ∈ l, a.free = true := by
  induction l with
  | nil => simp [AV.frees]
  | cons a l ih => simp [AV.frees, ih]
theorem free_cells {v : AV} (h : v.free = true) : ∀ c ∈ v.cells, c.free = true := by
  intro c hc
  cases v <;> first | (simp [AV.free] at h; done) | skip
  case agg cs => exact (frees_iff cs).1 (by simpa [AV.free] using h) c hc
  all_goals (simp [AV.cells] at hc; subst hc; exact h)
theorem free_flat {es : List AV} (h : AV.frees es = true) : ∀ c ∈ flat es, c.free = true := by
  induction es with
  | nil => intro c hc; simp [flat_nil] at hc
  | cons e es ih =>
    simp only [AV.frees, Bool.and_eq_true] at h
    intro c hc
    rw [flat_cons, List.mem_append] at hc
    rcases hc with hc | hc
    · exact free_cells h.1 c hc
    · exact ih h.2 c hc
mutual
theorem VRel.local {g g' : Gh} (hF : ∀ b o v, g.F b o = some v → g'.F b o = some v) : ∀ {a : AV} {u : Value}, VRel g a u → a.free = true → VRel g' a u
  | _, _, .bool b, _ => .bool b
  | _, _, .int k n, _ => .int k n
  | _, _, .str s, _ => .str s
  | _, _, .nilp, _ => .nilp
  | _, _, .ptr h, hf => by cases hf
  | _, _, .vptr hc h, hf => .vptr hc (CRel.local hF h (free_cells (by simpa [AV.free] using hf)))
  | _, _, .nils, _ => .nils
  | _, _, .lst hs ha hn hl h, hf => .lst hs ha hn hl (CRel.local hF h (free_flat (by simpa [AV.free] using hf)))
  | _, _, .lst0, _ => .lst0
  | _, _, .clip hs ha hn hl h, hf => .clip hs ha hn hl (CRel.local hF h (free_flat (by simpa [AV.free] using hf)))
  | _, _, .clip0, _ => .clip0
  | _, _, .row h hs hl, hf => by cases hf
  | _, _, .row0 h hs hl, hf => by cases hf
  | _, _, .nilm, _ => .nilm
  | _, _, .map h, hf => by cases hf
  | _, _, .fn h h', hf => by
    simp only [AV.free, Bool.and_eq_true] at hf
    exact .fn (VRels.local hF h ((frees_iff _).1 hf.1)) (VRels.local hF h' ((frees_iff _).1 hf.2))
  | _, _, .yld h, hf => by cases hf
  | _, _, .nilf, _ => .nilf
  | _, _, .ifc h, hf => .ifc (VRel.local hF h (by simpa [AV.free] using hf))
  | _, _, .nili, _ => .nili
  | _, _, .agg hc h, hf => .agg hc (VRels.local hF h ((frees_iff _).1 (by simpa [AV.free] using hf)))
  | _, _, .tup h, hf => .tup (VRels.local hF h ((frees_iff _).1 (by simpa [AV.free] using hf)))
  | _, _, .any u, hf => by cases hf
theorem VRels.local {g g' : Gh} (hF : ∀ b o v, g.F b o = some v → g'.F b o = some v) : ∀ {a : List AV} {u : List Value}, VRels g a u → (∀ c ∈ a, c.free = true) → VRels g' a u
  | _, _, .nil, _ => .nil
  | _, _, .cons h t, hf => .cons (VRel.local hF h (hf _ (by simp))) (VRels.local hF t fun c hc => hf c (by simp [hc]))
theorem CRel.local {g g' : Gh} (hF : ∀ b o v, g.F b o = some v → g'.F b o = some v) : ∀ {b off : Nat} {l : List AV}, CRel g b off l → (∀ c ∈ l, c.free = true) → CRel g' b off l
  | _, _, _, .nil b off, _ => .nil b off
  | _, _, _, .cons hu h t, hf => .cons (hF _ _ _ hu) (VRel.local hF h (hf _ (by simp))) (CRel.local hF t fun c hc => hf c (by simp [hc]))
end
def Gh.void (g : Gh) (w : World) : Gh := { F := g.F, ρ := fun _ _ => none, w0 := w }
theorem Sim.void {C : Cx} {g : Gh} {U : Nat → Option (List AV)} {h : AH} {w : World} (s : Sim C g U h w) : Sim C (g.void w) (fun _ => none) emptyH w where
  frz := s.frz
  obj k o e := by cases e
  lt k o e := by cases e
  unb k z e := by cases e
  rlt k n l e := by cases e
  sep k k' o o' l l' _ e := by cases e
  old _ _ := rfl
  sz := Nat.le_refl _
  tape := rfl
  os := rfl
  output := rfl
open Classical in
noncomputable def Gh.back (g : Gh) (w w' : World) : Gh := { g with F := fun b o => if b < w.heap.size then g.F b o else w'.cell? ⟨b, o, none⟩ }
theorem Sim.back {C : Cx} {g g2 : Gh} {U U2 : Nat → Option (List AV)} {h h2 : AH} {w w' : World} (s : Sim C g U h w) (x : Ext (g.void w) g2) (s2 : Sim C g2 U2 h2 w') :
    Ext g (g.back w w') ∧ Sim C (g.back w w') U h w' ∧ ∀ b o v, g2.F b o = some v → (g.back w w').F b o = some v := by
  have hw0 : g2.w0 = w := x.w0
  have hold : ∀ b, b < w.heap.size → w'.heap[b]? = w.heap[b]? := fun b hb => by have := s2.old b (by rw [hw0]; exact hb); rw [hw0] at this; exact this
  have hsz : w.heap.size ≤ w'.heap.size := by have := s2.sz; rw [hw0] at this; exact this
  have Flow : ∀ b o, b < w.heap.size → (g.back w w').F b o = g.F b o := fun b o hb => by simp only [Gh.back, hb, if_true]
  have Fhigh : ∀ b o, ¬ b < w.heap.size → (g.back w w').F b o = w'.cell? ⟨b, o, none⟩ := fun b o hb => by simp only [Gh.back, hb, if_false]
  have ex : Ext g (g.back w w') := ⟨fun b o v e => by rw [Flow b o (s.frz_lt e)]; exact e, fun _ _ _ e => e, rfl, fun b o v hb e => by rw [Flow b o (Nat.lt_of_lt_of_le hb s.sz)] at e; exact e⟩
  refine ⟨ex, ?_, fun b o v e => ?_⟩
  · constructor
    · intro b o v e
      by_cases hb : b < w.heap.size
      · rw [Flow b o hb] at e
        rw [cell_heap (hold b hb)]; exact s.frz b o v e
      · rw [Fhigh b o hb] at e; exact e
    · intro k o e u
      obtain ⟨l, r1, r2, r3⟩ := s.obj k o e u
      refine ⟨l, r1, r2, r3.keep ex (hold _ r3.block_lt) (fun i v q => ?_) (fun _ _ q => q)⟩
      rw [Flow _ _ r3.block_lt] at q; exact q
    · exact s.lt
    · exact s.unb
    · exact s.rlt
    · exact s.sep
    · intro b hb
      rw [hold b (Nat.lt_of_lt_of_le hb s.sz)]; exact s.old b hb
    · exact Nat.le_trans s.sz hsz
    · rw [s2.tape, hw0]; exact s.tape
    · rw [s2.os, hw0]; exact s.os
    · rw [s2.output, hw0]; exact s.output
  · by_cases hb : b < w.heap.size
    · rw [Flow b o hb]
      exact x.old b o v hb e
    · rw [Fhigh b o hb]; exact s2.frz b o v e
def AOut.free : AOut → Bool
  | .ret v => v.free
  | .pan v => v.free
end Go.AG
