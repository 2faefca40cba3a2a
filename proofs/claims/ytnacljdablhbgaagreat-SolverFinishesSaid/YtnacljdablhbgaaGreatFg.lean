/- SolverFinishes: for all stores the law returns true, and the store reads behind the call as it read before (no condition). -/
import Derived.Test.YtnacljdablhbgaaGreatFf
import Derived.Below
import Derived.WideKeyArgs
namespace Go.Proofs.YtnacljdablhbgaaGreat
open Go.ChangeShapes Go.WideShapes Go.ChangeAt Go.RowKit
theorem rr41 : Tryz.prog.readableRec 41 = true := by kernel_rfl
theorem z41 : 41 < Tryz.prog.types.size := of_decide_eq_true (by kernel_rfl)
theorem same_of {W W' : World} (h : ∀ b, b < W.heap.size → W'.heap[b]? = W.heap[b]?) {p : MemPlace} (hp : p.block < W.heap.size) : W.sameAt W' p := by
  cases p with
  | cell b o => exact World.cell?_of_block (w := W) (h b hp)
  | map b => exact h b hp
theorem kept_of {W W' : World} (h : ∀ b, b < W.heap.size → W'.heap[b]? = W.heap[b]?) (ho : W'.os = W.os) (hu : W'.output = W.output) (may : MemPlace → Prop) : W.keptBut W' may := by
  refine ⟨ho, hu, fun i hi => ?_⟩
  rw [h i hi]
  split <;> simp_all
theorem Wt_of {H : Type} {ts : List TypeId} {ds : List (DataW H)} (h : (DataW.weightsEach Tryz.prog ts ds).all (· ≤ reachBytes) = true) {j : Nat} {t : TypeId} {d : DataW H} (ht : ts[j]? = some t) (hd : ds[j]? = some d) : Wt t d := by
  intro m hm
  have := List.all_eq_true.1 h m (DataW.weights_mem_each ht hd m hm)
  simpa using this
set_option maxRecDepth 100000 in
theorem solverFinishes_lifted (os : Os) (started : os.Started) (H : Type) (enc : TypeId × Value → H) :
    ReturnsInHanded Rows.solverFinishesRow.assume Tryz.checked os 4 .any (Rows.solverFinishesSpec.pre6 enc Tryz.prog Tryz.f4 Rows.solverFinishesRow.domain false) (Rows.solverFinishesSpec.post enc Tryz.prog Tryz.f4 false true false false) := by
  rw [as4]
  refine returnsInHanded_of_change_sized (C := Tryz.checked) Tryz.own started (by kernel_rfl) Tryz.func4
    (ChangeSpec.witness6 (enc := enc) (C := Tryz.checked) false ⟨#[], #[.agg #[.slice none 0 0, .slice none 0 0, .slice none 0 0, .int .i64 0]], []⟩ 8 (by kernel_rfl) (by kernel_rfl) (by kernel_rfl) (by kernel_rfl)) ?_
  intro W base args ds gs before hval0 hW _ hsz0 _
  have hsz : (DataW.weightsEach Tryz.prog (Tryz.f4.params.toList ++ Rows.solverFinishesSpec.plain.varTypes Tryz.prog) (ds ++ gs)).all (· ≤ reachBytes) = true := hsz0
  clear hsz0
  have hval : ∀ (j : Nat) t v, Tryz.f4.params[j]? = some t → args[j]? = some v → Value.okWide Tryz.prog W .any base t v := hval0
  clear hval0
  have hW' := hW
  obtain ⟨p, q, hA0, hV, rfl, _, _⟩ := hW
  have hA : DataW.TrodAll enc Tryz.prog W 0 (fun _ => true) true Tryz.f4.params.toList args.toList ds p := hA0
  clear hA0
  rw [ps4] at hA hsz
  obtain ⟨v0, d0, rfl, rfl, h0⟩ := trodAll_one hA
  obtain ⟨rfl, rfl⟩ := trodVars_none hV
  have hp4 : ∀ j : Nat, Tryz.f4.params[j]? = ([41] : List TypeId)[j]? := fun j => by rw [← ps4, Array.getElem?_toList]
  have w0 : Wt 41 d0 := Wt_of hsz (j := 0) rfl rfl
  obtain ⟨cs, rfl, _⟩ := okWide_struct u41 (hval 0 41 v0 (by rw [hp4]; rfl) rfl)
  obtain ⟨n0, q0⟩ := h0
  obtain ⟨s, hf, ht⟩ := rd_S (n := n0) (x := (d0, p)) q0 w0
  have ht : AG.VRel (AG.startG W) (encS s) (.agg cs) := by
    have ht : AG.VRels (AG.startG W) (encS s).cells cs.toList := ht
    have e : cs = ⟨cs.toList⟩ := by cases cs; rfl
    rw [e]
    exact .agg rfl ht
  have hlt : ∀ x ∈ p, x.block < W.heap.size := fun x hx => by simpa using hW'.lt x (by simpa using hx)
  refine (calls4 s hf W [.agg cs] (.cons ht .nil)).mono fun e W' ⟨he, hb, ho, hu⟩ => ?_
  subst he
  have hr : Tryz.f4.resultTypes = #[4] := rs4
  refine ⟨_, rfl, _, _, _, [], p, [], hW', ?_, ?_, rfl, kept_of hb ho hu _, fun h => by cases h⟩
  · show DataW.TrodAll enc Tryz.prog W' _ _ _ Tryz.f4.resultTypes.toList ((Value.bool true).resultList Tryz.f4.resultTypes.size) [.lit (.bool true)] []
    rw [hr]
    exact trodAll_mk1 (shut_bool u4 true)
  · show DataW.TrodAll enc Tryz.prog W' 0 _ true Tryz.f4.params.toList _ [d0] _
    rw [ps4]
    exact trodAll_mk1 (WideElems.Trod_stays Tryz.laidOut rr41 z41 ⟨n0, q0⟩ (fun x hx => same_of hb (hlt x hx)) (fun x hx => by simpa using hlt x hx))
theorem solverFinishes_holds : Rows.SolverFinishesSaid :=
  OpenClaim.holds_of_wide 4 Tryz.f4 rfl rfl rfl rfl rfl rfl rfl ⟨rfl, rfl, rfl, rfl, rfl⟩ rfl rfl rfl rfl rfl nm4 Tryz.func4 jf
    (of_decide_eq_true (by kernel_rfl)) (by unfold Func.isWrapper; first | (rw [if_pos (by decide +kernel)]; kernel_rfl) | (rw [if_neg (by decide +kernel)]; exact ⟨rfl, rfl⟩))
    (fun os started H enc _ => solverFinishes_lifted os started H enc)
end Go.Proofs.YtnacljdablhbgaaGreat
