/- UnifyInverts: slices.Sort at []int as an oracle (no condition). -/
import Derived.Test.YtnacljdablhbgaaGreatBb
import Derived.Test.YtnacljdablhbgaaGreatCa
import Derived.Shelf.Slices.In.SortNone
namespace Go.AG

theorem Sim.wider {C : Cx} {g : Gh} {U : Nat → Option (List AV)} {h : AH} {w w' : World} (s : Sim C g U h w) (hh : ∀ b, b < w.heap.size → w'.heap[b]? = w.heap[b]?) (hs : w.heap.size ≤ w'.heap.size)
    (ht : w'.tape = w.tape) (ho : w'.os = w.os) (hu : w'.output = w.output) : Sim C g U h w' := by
  constructor
  · intro b o v e
    rw [cell_heap (hh b (s.frz_lt e))]; exact s.frz b o v e
  · intro k o e u
    obtain ⟨l, r1, r2, r3⟩ := s.obj k o e u
    exact ⟨l, r1, r2, r3.keep (.refl g) (hh _ r3.block_lt) (fun _ _ q => q) (fun _ _ q => q)⟩
  · exact s.lt
  · exact s.unb
  · exact s.rlt
  · exact s.sep
  · intro b hb
    rw [hh b (Nat.lt_of_lt_of_le hb s.sz)]; exact s.old b hb
  · exact Nat.le_trans s.sz hs
  · rw [ht]; exact s.tape
  · rw [ho]; exact s.os
  · rw [hu]; exact s.output

end Go.AG
namespace Go.Proofs.YtnacljdablhbgaaGreat
open Go.AG

def sorted (zs : List Int) : List Int := zs.mergeSort fun x y => decide (x ≤ y)

theorem VRels.of_get {g : Gh} : ∀ {l : List AV} {us : List Value}, l.length = us.length → (∀ (i : Nat) x, l[i]? = some x → ∃ y, us[i]? = some y ∧ VRel g x y) → VRels g l us
  | [], [], _, _ => .nil
  | [], _ :: _, h, _ => by simp at h
  | _ :: _, [], h, _ => by simp at h
  | a :: l, u :: us, h, hv => by
    obtain ⟨y, hy, hr⟩ := hv 0 a rfl
    simp at hy
    subst hy
    exact .cons hr (VRels.of_get (by simpa using h) fun i x hx => by
      obtain ⟨y, hy, hr⟩ := hv (i + 1) x (by simpa using hx)
      exact ⟨y, by simpa using hy, hr⟩)

open Classical in
noncomputable def sortCall : CallF := fun f a rc h => match f, a, rc with
  | .fn 82 [] [], [.nils], .no => some (.ret (.tup []), .no, h)
  | .fn 82 [] [], [.row k g 1 0 n], .no =>
    if n = 0 then some (.ret (.tup []), .no, h)
    else if hx : ∃ zs : List Int, h.get k = some (.row g 1 false (zs.map AG.encI) 0) ∧ zs.length = n ∧ n < 4611686018427387904 then some (.ret (.tup []), .no, h.set k (.row g 1 false ((sorted hx.choose).map AG.encI) 0))
    else none
  | _, _, _ => none

theorem enter82 (args : Array Value) (w : World) : (callFunc 82 args).run Tryz.prog w = .ok (.enter 82 args) w := enters_of (f := 82) lays189.f189 (by kernel_rfl) rfl args w

theorem land82 {us : Array Value} {w : World} {c0 : Frame} {rest : List Frame} {Rr : World → Prop} (hc : Calls Tryz.prog 82 us w fun e w1 => e = .returned (.tuple #[]) ∧ Rr w1) :
    ∃ w1, Rr w1 ∧ Steps Tryz.prog (lone (Frame.enter Tryz.prog 82 us .normal) (c0 :: rest) w) (lone (c0.finish (.tuple #[])) rest w1) := by
  obtain ⟨e, w', fr, ⟨rfl, hR⟩, hcomes, hfn, hleave⟩ := hc (c0 :: rest)
  exact ⟨w', hR, Steps.trans hcomes (.one (step_leave_returned hleave))⟩

theorem sort_ok : CallOk CI sortCall := by
  intro f args rc h out rc' h' q g U w fv us K kind s hf ha hr hK
  have fin : ∀ (u : Value) (Rr : World → Prop), us = [u] → f = .fn 82 [] [] → rc = .no → Calls Tryz.prog 82 #[u] w (fun e w1 => e = .returned (.tuple #[]) ∧ Rr w1) → out = .ret (.tup []) → rc' = .no →
      (∀ w1, Rr w1 → Sim CI g U h' w1) → Low h h' →
      ∃ d fr0, (∀ w, (Deferred.ofValue fv ⟨us⟩).run CI.P w = .ok d w) ∧ AG.Enters CI.P d kind w fr0 ∧ ∃ g' U' w', Ext g g' ∧ UExt h.next U U' ∧ Sim CI g' U' h' w' ∧ Low h h' ∧ RcOk g' K kind rc' ∧ Lands CI.P K kind rc' (lone fr0 (csAt K rc) w) g' w' out := by
    rintro u Rr rfl rfl rfl hc rfl rfl hS hL
    obtain ⟨x, y, hx, hy, rfl⟩ := hf.fn_inv
    cases hx; cases hy
    have hk : kind = .normal := hr
    subst hk
    obtain ⟨w1, hR, hst⟩ := land82 (c0 := K.c0) (rest := K.rest) hc
    refine ⟨{ target := .fn (.func 82) ⟨[]⟩, args := ⟨[u]⟩ }, Frame.enter CI.P 82 ⟨[u]⟩ .normal, fun w => by simp [Deferred.ofValue], .inl ⟨82, ⟨[u]⟩, ?_, rfl⟩, g, U, w1, .refl g, .refl _ _, hS w1 hR, hL, hr, .tuple #[], .tup .nil, ?_⟩
    · have : (⟨[u]⟩ : Array Value) ++ (⟨[]⟩ : Array Value) = ⟨[u]⟩ := by apply Array.ext'; simp
      show (callFunc 82 ((⟨[u]⟩ : Array Value) ++ (⟨[]⟩ : Array Value))).run CI.P w = _
      rw [this]; exact enter82 _ w
    · show Steps CI.P (lone _ K.cs w) _
      rw [hK]; exact hst
  unfold sortCall at q
  split at q
  · cases q
    cases ha with
    | @cons _ u _ _ hu ht =>
      cases ht
      have := hu.nils_inv
      subst this
      exact fin _ (fun w1 => w1 = w) rfl rfl rfl (Any.slices_Sort_int_none lays189 none 0 w) rfl rfl (fun w1 e => by subst e; exact s) (.refl _)
  · rename_i k gn n
    cases ha with
    | @cons _ u _ _ hu ht =>
      cases ht
      split at q
      · rename_i hn
        cases q
        subst hn
        have : ∃ p c, u = Value.slice p 0 c := by
          cases hu with
          | row h1 h2 h3 => exact ⟨_, _, rfl⟩
          | row0 h1 h2 h3 => exact ⟨_, _, rfl⟩
        obtain ⟨p, c, rfl⟩ := this
        exact fin _ (fun w1 => w1 = w) rfl rfl rfl (Any.slices_Sort_int_none lays189 p c w) rfl rfl (fun w1 e => by subst e; exact s) (.refl _)
      · rename_i hn
        split at q
        · rename_i hx
          cases q
          obtain ⟨e0, e1, e2⟩ := hx.choose_spec
          generalize hx.choose = zs at e0 e1 e2 fin ⊢
          have hl : ∃ l, g.ρ k gn = some l ∧ l.sz = 1 ∧ n ≤ l.cap ∧ u = Value.slice (some ⟨l.block, l.base + 0 * 1, none⟩) n (l.cap - 0) := by
            cases hu with
            | row h1 h2 h3 => exact ⟨_, h1, h2, by omega, rfl⟩
            | row0 h1 h2 h3 => exact absurd rfl hn
          obtain ⟨l, hρ, hsz, hcap, rfl⟩ := hl
          subst e1
          have hU := s.live hρ
          obtain ⟨l', r1, r2, r3⟩ := s.obj k _ e0 hU
          have r1 : g.ρ k gn = some l' := r1
          rw [hρ] at r1; cases r1
          obtain ⟨hs, hp, vs, t, e4, q1, q2, hvs, hcs, hF, hr2⟩ := r3
          have hlt : l.block < w.heap.size := (Array.getElem?_eq_some_iff.1 e4).1
          have hcell : ∀ j, j < zs.length → vs[l.base + j]? = some (.int .i64 (zs[j]!)) := by
            intro j hj
            obtain ⟨y, hy, hv⟩ := hvs.get (i := j) (x := AG.encI (zs[j]!)) (by rw [List.getElem?_map, List.getElem?_eq_getElem hj]; simp [hj])
            rw [List.getElem?_take, if_pos (by simpa using hj), List.getElem?_drop] at hy
            cases hv
            simpa using hy
          have hH : Go.Sort.Holds (Value.int .i64) w l.block (l.base + 0 * 1) zs.toArray := by
            intro j hj
            have hj : j < zs.length := by simpa using hj
            refine ⟨?_, by simp [World.frozen?, e4]⟩
            rw [cell_of_row _ _ _ vs t (0, 0) e4, show l.base + 0 * 1 + j = l.base + j by omega, hcell j hj]
            simp
          refine fin _ (fun w1 => ∃ n os, w1 = Go.Sort.grow (Go.Sort.putRow (Value.int .i64) (Go.Sort.ahead w n) l.block (l.base + 0 * 1) (sorted zs).toArray) os) rfl rfl rfl (sort82 l.block (l.base + 0 * 1) (l.cap - 0) zs w hH hlt e2) rfl rfl ?_ ?_
          · rintro w1 ⟨n, os, rfl⟩
            have hlen : (sorted zs).length = zs.length := by unfold sorted; rw [List.length_mergeSort]
            have hb0 : l.base + 0 * 1 = l.base := by omega
            rw [hb0]
            -- the row in its block
            have ew : Go.Sort.putRow (Value.int .i64) (Go.Sort.ahead w n) l.block l.base (sorted zs).toArray = setBlk (Go.Sort.ahead w n) l.block (.cells (Go.Sort.putCells (Value.int .i64) l.base (sorted zs).toArray vs) t (0, 0)) := by
              unfold Go.Sort.putRow Go.Sort.mapBlock setBlk
              have e5 : (Go.Sort.ahead w n).heap[l.block]? = some (.cells vs t (0, 0)) := e4
              congr 1
              apply Array.ext_getElem?
              intro i
              rw [Array.getElem?_modify]
              by_cases hi : l.block = i
              · subst hi
                rw [if_pos rfl, e5, Array.getElem?_setIfInBounds_self_of_lt (show l.block < (Go.Sort.ahead w n).heap.size from hlt)]
                rfl
              · rw [if_neg hi, Array.getElem?_setIfInBounds_ne hi]
            have s1 : Sim CI g U h (Go.Sort.ahead w n) := s.wider (fun _ _ => rfl) (Nat.le_refl _) rfl rfl rfl
            have hput : ∀ i : Nat, (Go.Sort.putCells (Value.int .i64) l.base (sorted zs).toArray vs)[i]? = if l.base ≤ i ∧ i < l.base + zs.length then some (.int .i64 ((sorted zs)[i - l.base]!)) else vs[i]? := by
              intro i
              unfold Go.Sort.putCells
              rw [Array.getElem?_mapIdx]
              by_cases hi : l.base ≤ i ∧ i < l.base + zs.length
              · rw [if_pos hi]
                have hiv : i < vs.size := by
                  have e9 : l.base + l.cap * 1 ≤ vs.size := q1
                  omega
                rw [Array.getElem?_eq_getElem hiv]
                simp [hi, hlen]
              · rw [if_neg hi]
                cases hv : vs[i]? with
                | none => rfl
                | some x => simp [hi, hlen]
            have hsize : (Go.Sort.putCells (Value.int .i64) l.base (sorted zs).toArray vs).size = vs.size := by simp [Go.Sort.putCells]
            have s2 : Sim CI g U (h.set k (.row gn 1 false ((sorted zs).map AG.encI) 0)) (setBlk (Go.Sort.ahead w n) l.block (.cells (Go.Sort.putCells (Value.int .i64) l.base (sorted zs).toArray vs) t (0, 0))) := by
              have hlt' : l.block < (Go.Sort.ahead w n).heap.size := hlt
              refine s1.put e0 hU hρ rfl ⟨hs, hp, _, t, setBlk_same hlt', by rw [hsize]; exact q1, by rw [List.length_map, hlen]; rw [List.length_map] at q2; exact q2, ?_, ?_, hF, hr2⟩ (fun i y q => ?_)
              · refine VRels.of_get (by simp [hlen, hsize]; have e9 : l.base + l.cap * 1 ≤ vs.size := q1; omega) (fun i x hx => ?_)
                rw [List.getElem?_map] at hx
                have hi : i < zs.length := by
                  rcases Nat.lt_or_ge i zs.length with c | c
                  · exact c
                  · rw [List.getElem?_eq_none (by omega)] at hx; cases hx
                rw [List.getElem?_eq_getElem (by omega)] at hx
                cases hx
                refine ⟨.int .i64 ((sorted zs)[i]'(by omega)), ?_, .int _ _⟩
                rw [List.getElem?_take, if_pos (by simpa [hlen] using hi), List.getElem?_drop, Array.getElem?_toList, hput, if_pos (by omega), Nat.add_sub_cancel_left]
                simp [hlen, hi]
              · rw [allCells_iff]
                intro a ha
                obtain ⟨z, _, rfl⟩ := List.mem_map.1 ha
                rfl
              · have hi := hF i y q
                rw [cell_of_row _ _ _ _ t (0, 0) (setBlk_same hlt'), hput, if_neg (by omega)]
                have := s.frz _ _ _ q
                rw [cell_of_row _ _ _ vs t (0, 0) e4] at this
                exact this
            rw [ew]
            refine s2.wider (fun b hb => ?_) (by simp [Go.Sort.grow]) rfl rfl rfl
            show (_ ++ os)[b]? = _
            exact Array.getElem?_append_left hb
          · refine ⟨by rw [next_set]; exact Nat.le_refl _, by rw [low_set]; exact minN_le_r _ _, fun k' h1 h2 => ?_⟩
            rw [low_set] at h2
            have := minN_le k h.low
            exact get_set_o (by omega)
        · cases q
  · cases q

end Go.Proofs.YtnacljdablhbgaaGreat
