/- UnifyInverts: for all lists of numbers and all terms the law returns true, and each argument reads behind the call as it read before (no condition). -/
import Derived.Test.YtnacljdablhbgaaGreatCp
import Derived.Below
import Derived.WideKeyArgs
namespace Go.Proofs.YtnacljdablhbgaaGreat
open Go.ChangeShapes Go.WideShapes Go.ChangeAt Go.RowKit

theorem r22 : Tryz.prog.readableRec 22 = true := by kernel_rfl
theorem r26' : Tryz.prog.readableRec 26 = true := by kernel_rfl
theorem z22 : 22 < Tryz.prog.types.size := of_decide_eq_true (by kernel_rfl)
theorem z26 : 26 < Tryz.prog.types.size := of_decide_eq_true (by kernel_rfl)

theorem same_of {W W' : World} (h : ∀ b, b < W.heap.size → W'.heap[b]? = W.heap[b]?) {p : MemPlace} (hp : p.block < W.heap.size) : W.sameAt W' p := by
  cases p with
  | cell b o => exact World.cell?_of_block (w := W) (h b hp)
  | map b => exact h b hp

theorem kept_of {W W' : World} (h : ∀ b, b < W.heap.size → W'.heap[b]? = W.heap[b]?) (ho : W'.os = W.os) (hu : W'.output = W.output) (may : MemPlace → Prop) : W.keptBut W' may := by
  refine ⟨ho, hu, fun i hi => ?_⟩
  rw [h i hi]
  split <;> simp_all

theorem Wt_of {H : Type} {ts : List TypeId} {ds : List (DataW H)} (h : (DataW.weightsEach Tryz.prog ts ds).all (· ≤ reachBytes) = true) {j : Nat} {t : TypeId} {d : DataW H} (ht : ts[j]? = some t) (hd : ds[j]? = some d) : Wt t d := by
  intro m hm
  have := List.all_eq_true.1 h m (DataW.weights_mem_each ht hd m hm)
  simpa using this

set_option maxRecDepth 100000 in
theorem unifyInverts_lifted (os : Os) (started : os.Started) (H : Type) (enc : TypeId × Value → H) :
    ReturnsInHanded Rows.unifyInvertsRow.assume Tryz.checked os 3 .any (Rows.unifyInvertsSpec.pre6 enc Tryz.prog Tryz.f3 Rows.unifyInvertsRow.domain false) (Rows.unifyInvertsSpec.post enc Tryz.prog Tryz.f3 false true false false) := by
  rw [as3]
  refine returnsInHanded_of_change_sized (C := Tryz.checked) Tryz.own started (by kernel_rfl) Tryz.func3
    (ChangeSpec.witness6 (enc := enc) (C := Tryz.checked) false ⟨#[], #[.slice none 0 0, .agg #[.int .i64 0, .int .i64 0, .string ⟨#[]⟩, .slice none 0 0, .slice none 0 0]], []⟩ 8 (by kernel_rfl) (by kernel_rfl) (by kernel_rfl) (by kernel_rfl)) ?_
  intro W base args ds gs before hval0 hW _ hsz0 _
  have hsz : (DataW.weightsEach Tryz.prog (Tryz.f3.params.toList ++ Rows.unifyInvertsSpec.plain.varTypes Tryz.prog) (ds ++ gs)).all (· ≤ reachBytes) = true := hsz0
  clear hsz0
  have hval : ∀ (j : Nat) t v, Tryz.f3.params[j]? = some t → args[j]? = some v → Value.okWide Tryz.prog W .any base t v := hval0
  clear hval0
  have hW' := hW
  obtain ⟨p, q, hA0, hV, rfl, _, _⟩ := hW
  have hA : DataW.TrodAll enc Tryz.prog W 0 (fun _ => true) true Tryz.f3.params.toList args.toList ds p := hA0
  clear hA0
  rw [ps3] at hA hsz
  obtain ⟨v0, v1, d0, d1, p0, p1, rfl, rfl, rfl, h0, h1⟩ := trodAll_two hA
  obtain ⟨rfl, rfl⟩ := trodVars_none hV
  have hp3 : ∀ j : Nat, Tryz.f3.params[j]? = ([22, 26] : List TypeId)[j]? := fun j => by rw [← ps3, Array.getElem?_toList]
  have w0 : Wt 22 d0 := Wt_of hsz (j := 0) rfl rfl
  have w1 : Wt 26 d1 := Wt_of hsz (j := 1) rfl rfl
  obtain ⟨a0, len, cap, rfl⟩ := okWide_slice u22 (hval 0 22 v0 (by rw [hp3]; rfl) rfl)
  obtain ⟨cs, rfl, _⟩ := okWide_struct u26 (hval 1 26 v1 (by rw [hp3]; rfl) rfl)
  obtain ⟨n0, q0⟩ := h0
  obtain ⟨n1, q1⟩ := h1
  obtain ⟨vars, v, ev, hv⟩ := rd_Z (x := (d0, p0)) q0 w0
  obtain ⟨t, hf, ht⟩ := rd_T n1 (x := (d1, p1)) q1 w1
  have ev : [Value.slice a0 len cap] = [v] := ev
  have ev : Value.slice a0 len cap = v := by injection ev
  subst ev
  have ht : AG.VRel (AG.startG W) (AG.enc t) (.agg cs) := by
    obtain ⟨k, i, nm, ls, ks⟩ := t
    have ht : AG.VRels (AG.startG W) (AG.enc (.mk k i nm ls ks)).cells cs.toList := ht
    rw [AG.enc_eq] at ht ⊢
    have e : cs = ⟨cs.toList⟩ := by cases cs; rfl
    rw [e]
    exact .agg rfl ht
  have hlt : ∀ x ∈ p0 ++ p1, x.block < W.heap.size := fun x hx => by simpa using hW'.lt x (by simpa using hx)
  refine (calls3 vars t hf W [.slice a0 len cap, .agg cs] (.cons hv (.cons ht .nil))).mono fun e W' ⟨he, hb, ho, hu⟩ => ?_
  subst he
  have hr : Tryz.f3.resultTypes = #[4] := rs3
  refine ⟨_, rfl, _, _, _, [], p0 ++ (p1 ++ []), [], hW', ?_, ?_, rfl, kept_of hb ho hu _, fun h => by cases h⟩
  · show DataW.TrodAll enc Tryz.prog W' _ _ _ Tryz.f3.resultTypes.toList ((Value.bool true).resultList Tryz.f3.resultTypes.size) [.lit (.bool true)] []
    rw [hr]
    exact trodAll_mk1 (shut_bool u4 true)
  · show DataW.TrodAll enc Tryz.prog W' 0 _ true Tryz.f3.params.toList _ [d0, d1] _
    rw [ps3]
    refine trodAll_mk2 (WideElems.Trod_stays Tryz.laidOut r22 z22 ⟨n0, q0⟩ (fun x hx => same_of hb (hlt x (by simp [hx]))) (fun x hx => by simpa using hlt x (by simp [hx]))) ?_
    rw [List.append_nil]
    exact WideElems.Trod_stays Tryz.laidOut r26' z26 ⟨n1, q1⟩ (fun x hx => same_of hb (hlt x (by simp [hx]))) (fun x hx => by simpa using hlt x (by simp [hx]))

theorem unifyInverts_holds : Rows.UnifyInvertsSaid :=
  OpenClaim.holds_of_wide 3 Tryz.f3 rfl rfl rfl rfl rfl rfl rfl ⟨rfl, rfl, rfl, rfl, rfl⟩ rfl rfl rfl rfl rfl (by kernel_rfl) Tryz.func3 (by kernel_rfl)
    (of_decide_eq_true (by kernel_rfl)) (by unfold Func.isWrapper; first | (rw [if_pos (by decide +kernel)]; kernel_rfl) | (rw [if_neg (by decide +kernel)]; exact ⟨rfl, rfl⟩))
    (fun os started H enc _ => unifyInverts_lifted os started H enc)

end Go.Proofs.YtnacljdablhbgaaGreat
