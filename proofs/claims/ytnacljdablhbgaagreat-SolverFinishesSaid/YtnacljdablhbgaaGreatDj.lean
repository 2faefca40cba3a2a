/- SolverFinishes: what a visit raises grows (no condition). -/
import Derived.Test.YtnacljdablhbgaaGreatDi
namespace Go.Proofs.YtnacljdablhbgaaGreat
open Go.AG
structure LeL (a b : LL) : Prop where
  pt : ∀ i o, pOf a.vars i = some o → ∃ o', pOf b.vars i = some o' ∧ o ≤ o'
  bt : btV a ≤ btV b
theorem LeL.refl (a : LL) : LeL a a := ⟨fun _i o h => ⟨o, h, Int.le_refl _⟩, Int.le_refl _⟩
theorem LeL.trans {a b c : LL} (h : LeL a b) (k : LeL b c) : LeL a c :=
  ⟨fun i o e => by
    obtain ⟨o', e', h1⟩ := h.pt i o e
    obtain ⟨o'', e'', h2⟩ := k.pt i o' e'
    exact ⟨o'', e'', by omega⟩, Int.le_trans h.bt k.bt⟩
theorem LeL.left {a b : LL} (ha : VL a) (hb : VL b) : LeL a (joinR a b) :=
  ⟨fun i o e => by
    have : pOf (joinR a b).vars i = mxo (pOf a.vars i) (pOf b.vars i) := pOf_merge ha.srt hb.srt i
    rw [this, e]
    cases pOf b.vars i with
    | none => exact ⟨o, rfl, Int.le_refl _⟩
    | some p => exact ⟨max o p, rfl, by omega⟩, by rw [joinR_bt a b ha.c0 hb.c0]; omega⟩
theorem LeL.right {a b : LL} (ha : VL a) (hb : VL b) : LeL b (joinR a b) :=
  ⟨fun i o e => by
    have : pOf (joinR a b).vars i = mxo (pOf a.vars i) (pOf b.vars i) := pOf_merge ha.srt hb.srt i
    rw [this, e]
    cases pOf a.vars i with
    | none => exact ⟨o, rfl, Int.le_refl _⟩
    | some p => exact ⟨max p o, rfl, by omega⟩, by rw [joinR_bt a b ha.c0 hb.c0]; omega⟩
theorem rep_le {vals : List LL} (hv : ∀ y ∈ vals, VL y) : ∀ (vs : List LV) {out r : LL}, (∀ x ∈ vs, Rng x) → VL out → vs.foldl (repOne vals) (some out) = some r →
    LeL out r ∧ VL r ∧ ∀ x ∈ vs, ∀ y, x.idx < 0 → -1 - x.idx < (vals.length : Int) → vals[(-1 - x.idx).toNat]? = some y → (plusR y x.plus).2 = 0 ∧ LeL (plusR y x.plus).1 r
  | [], out, r, _, ho, e => by cases e; exact ⟨.refl _, ho, by simp⟩
  | x :: vs, out, r, hx, ho, e => by
    rw [List.foldl_cons] at e
    cases h1 : repOne vals (some out) x with
    | none => rw [h1, rep_none] at e; cases e
    | some o =>
      rw [h1] at e
      have hr := hx x (by simp)
      have key : ∃ p, o = joinR out p ∧ VL p ∧ ∀ y, x.idx < 0 → -1 - x.idx < (vals.length : Int) → vals[(-1 - x.idx).toNat]? = some y → (plusR y x.plus).2 = 0 ∧ p = (plusR y x.plus).1 := by
        unfold repOne at h1
        simp only at h1
        by_cases hm : x.idx < 0 ∧ -1 - x.idx < (vals.length : Int)
        · rw [if_pos hm] at h1
          obtain ⟨y, hy⟩ : ∃ y, vals[(-1 - x.idx).toNat]? = some y := ⟨_, List.getElem?_eq_getElem (by omega)⟩
          rw [hy] at h1
          simp only at h1
          by_cases he : (plusR y x.plus).2 = 0
          · rw [if_pos he] at h1
            cases h1
            refine ⟨_, rfl, (plusR_VL (hv y (List.mem_of_getElem? hy)) hr.2.2.1 he).1, fun z _ _ hz => ?_⟩
            rw [hy] at hz; cases hz; exact ⟨he, rfl⟩
          · rw [if_neg he] at h1; cases h1
        · rw [if_neg hm] at h1
          cases h1
          exact ⟨_, rfl, one_VL hr, fun y a b _ => absurd ⟨a, b⟩ hm⟩
      obtain ⟨p, rfl, vp, hp⟩ := key
      obtain ⟨k1, k2, k3⟩ := rep_le hv vs (fun y hy => hx y (by simp [hy])) (joinR_VL ho vp) e
      refine ⟨(LeL.left ho vp).trans k1, k2, fun z hz y a b c => ?_⟩
      rcases List.mem_cons.1 hz with rfl | hz
      · obtain ⟨q1, rfl⟩ := hp y a b c
        exact ⟨q1, (LeL.right ho vp).trans k1⟩
      · exact k3 z hz y a b c
theorem bot_bt {l : LL} (h : 0 ≤ l.c) : botV l = btV l := by
  obtain ⟨h1, h2, h3, h4⟩ := mostF l.vars l.c
  have e : botV l = l.vars.foldl (fun m x => max m x.plus) l.c := rfl
  rw [← e] at h1 h2 h3 h4
  have m1 : mostV l.vars ≤ botV l := most_le (by omega) h2
  have m2 := most_0 l.vars
  unfold btV
  rcases h4 with h4 | ⟨x, hx, h4⟩
  · omega
  · have := most_ge hx
    omega
def wO : Option Int → Nat
  | none => 0
  | some p => p.toNat + 1
def wL (l : LL) : Nat := (btV l).toNat + (wO (pOf l.vars 0) + wO (pOf l.vars 1) + wO (pOf l.vars 2) + wO (pOf l.vars 3) + wO (pOf l.vars 4) + wO (pOf l.vars 5) + wO (pOf l.vars 6) + wO (pOf l.vars 7))
theorem wO_le {a b : Option Int} (h : ∀ o, a = some o → ∃ o', b = some o' ∧ o ≤ o') : wO a ≤ wO b := by
  cases a with
  | none => exact Nat.zero_le _
  | some o => obtain ⟨o', rfl, h⟩ := h o rfl; show o.toNat + 1 ≤ o'.toNat + 1; omega
theorem wL_max {l : LL} (h : VL l) : wL l ≤ 908 := by
  have hb : btV l ≤ 100 := by
    have := h.c1
    have : mostV l.vars ≤ 100 := most_le (by omega) fun x hx => (h.all x hx).2.2.2
    unfold btV; omega
  have k : ∀ i, wO (pOf l.vars i) ≤ 101 := by
    intro i
    cases hp : pOf l.vars i with
    | none => show 0 ≤ 101; omega
    | some p =>
      obtain ⟨y, hy, _, e⟩ := pOf_mem hp
      have := (h.all y hy).2.2.2
      show p.toNat + 1 ≤ 101
      omega
  have k0 := k 0; have k1 := k 1; have k2 := k 2; have k3 := k 3; have k4 := k 4; have k5 := k 5; have k6 := k 6; have k7 := k 7
  unfold wL; omega
theorem wL_eq {a b : LL} (h : LeL a b) (a0 : ∀ x ∈ a.vars, 0 ≤ x.plus) (b0 : 0 ≤ btV a) (e : wL b ≤ wL a) : btV b = btV a ∧ ∀ i, 0 ≤ i → i ≤ 7 → pOf b.vars i = pOf a.vars i := by
  have hb := h.bt
  have k := fun i => wO_le (h.pt i)
  have k0 := k 0; have k1 := k 1; have k2 := k 2; have k3 := k 3; have k4 := k 4; have k5 := k 5; have k6 := k 6; have k7 := k 7
  have hbn : (btV a).toNat ≤ (btV b).toNat := by omega
  unfold wL at e
  have eq : ∀ i, wO (pOf b.vars i) = wO (pOf a.vars i) → pOf b.vars i = pOf a.vars i := by
    intro i hw
    cases ha : pOf a.vars i with
    | none =>
      rw [ha] at hw
      cases hbb : pOf b.vars i with
      | none => rfl
      | some p => rw [hbb] at hw; simp [wO] at hw
    | some o =>
      obtain ⟨o', e1, e2⟩ := h.pt i o ha
      rw [ha, e1] at hw
      simp only [wO] at hw
      obtain ⟨y, hy, _, ey⟩ := pOf_mem ha
      have := a0 y hy
      rw [e1]; congr 1; omega
  refine ⟨by omega, fun i i0 i7 => eq i ?_⟩
  have : i = 0 ∨ i = 1 ∨ i = 2 ∨ i = 3 ∨ i = 4 ∨ i = 5 ∨ i = 6 ∨ i = 7 := by omega
  rcases this with rfl | rfl | rfl | rfl | rfl | rfl | rfl | rfl <;> omega
theorem pOf_up (n i : Int) : ∀ vs : List LV, pOf (upV vs n) i = (pOf vs i).map (· + n)
  | [] => rfl
  | x :: vs => by
    show pOf (⟨x.idx, x.plus + n⟩ :: upV vs n) i = _
    rw [pOf, pOf, pOf_up n i vs]
    by_cases h : i = x.idx
    · rw [if_pos h, if_pos h]; rfl
    · rw [if_neg h, if_neg h]
theorem bt_up {y : LL} {k : Int} (hy : VL y) (k0 : 0 ≤ k) (he : (plusR y k).2 = 0) : btV y + k ≤ btV (plusR y k).1 := by
  obtain ⟨_, p2, _, _⟩ := plusR_VL hy k0 he
  have h1 := most_up k0 hy
  have h2 : btV (plusR y k).1 = max (pcR y k) (mostV (upV y.vars k)) := by rw [p2]; rfl
  have c0 := hy.c0
  rw [h2, ← h1]
  unfold btV
  rcases most_cases y.vars with h | ⟨x, hx, h⟩
  · omega
  · have : x.plus + k ≤ mostV (upV y.vars k) := most_ge (x := ⟨x.idx, x.plus + k⟩) (List.mem_map.2 ⟨x, hx, rfl⟩)
    omega
theorem raise_strict {high p y : LL} {vals : List LL} (hh : VL high) (hv : ∀ y ∈ vals, Pm y) (hp : Pm p) (hp1 : p.vars.length ≤ 1) (hp2 : p.vars = [] ∨ p.c = 0) (h0 : (repR high vals).2 = 0) (hleq : ¬ leqB p (repR high vals).1 = true)
    (h3 : ¬ (pivR high.vars).1 < 0) (hy : vals[(pivR high.vars).1.toNat]? = some y) : wL y < wL (joinR y (lowR p (pivR high.vars).2)) := by
  have hvv : ∀ y ∈ vals, VL y := fun y h => (hv y h).vl
  have py := hv y (List.mem_of_getElem? hy)
  cases hn : lastNeg high.vars with
  | none => rw [show pivR high.vars = (-1, 0) by unfold pivR; rw [hn]] at h3; exact absurd (by decide) h3
  | some x =>
    have ep : pivR high.vars = (-1 - x.idx, x.plus) := by unfold pivR; rw [hn]
    rw [ep] at h3 hy ⊢
    simp only at h3 hy ⊢
    obtain ⟨hx1, hx2⟩ := lastNeg_some hn
    obtain ⟨_, _, k0, k1⟩ := hh.all x hx1
    cases hr : repS high vals with
    | none => rw [show repR high vals = (⟨0, []⟩, 15) by unfold repR; rw [hr]] at h0; cases h0
    | some r =>
      have er : (repR high vals).1 = r := by unfold repR; rw [hr]
      rw [er] at hleq
      have hlt : (-1 - x.idx).toNat < vals.length := (List.getElem?_eq_some_iff.1 hy).1
      obtain ⟨_, vr, hin⟩ := rep_le (out := ⟨high.c, []⟩) (r := r) hvv high.vars hh.all (VL.mk' hh.c0 hh.c1 (by simp) (by unfold Srt; simp) (by simp)) hr
      obtain ⟨he, hle⟩ := hin x hx1 y hx2 (by omega) hy
      have pl := low_Pm hp k0
      have lz := LeL.left py.vl pl.vl
      rcases Nat.lt_or_ge (wL y) (wL (joinR y (lowR p x.plus))) with h | h
      · exact h
      exfalso
      have byy : 0 ≤ btV y := by have := most_0 y.vars; unfold btV; omega
      obtain ⟨e1, e2⟩ := wL_eq lz (fun z hz => (py.vl.all z hz).2.2.1) byy h
      refine hleq ?_
      have hb := bt_up py.vl k0 he
      have hb2 := hle.bt
      have bb := bot_bt vr.c0
      rw [joinR_bt y _ py.vl.c0 pl.vl.c0] at e1
      unfold leqB
      cases hpv : p.vars with
      | nil =>
        have el : lowR p x.plus = ⟨max 0 (p.c - x.plus), []⟩ := by unfold lowR; rw [hpv]
        rw [el] at e1
        have h9 : btV ⟨max 0 (p.c - x.plus), []⟩ = max (max 0 (p.c - x.plus)) 0 := rfl
        rw [h9] at e1
        rw [show decide (botV r < p.c) = false from decide_eq_false (by omega)]
        rfl
      | cons z l =>
        have hl : l = [] := by
          rw [hpv] at hp1
          cases l with
          | nil => rfl
          | cons a b => simp at hp1
        subst hl
        have hpc : p.c = 0 := by
          rcases hp2 with h | h
          · rw [hpv] at h; cases h
          · exact h
        have hzm : z ∈ p.vars := by rw [hpv]; simp
        have el : lowR p x.plus = ⟨0, [⟨z.idx, max 0 (z.plus - x.plus)⟩]⟩ := by unfold lowR; rw [hpv]
        have h0r : 0 ≤ botV r := by have := most_0 r.vars; rw [bb]; unfold btV; omega
        rw [show decide (botV r < p.c) = false from decide_eq_false (by omega)]
        have hz7 := (hp.vl.all z hzm).2.1
        have hz0 := hp.par z hzm
        have e3 := e2 z.idx hz0 hz7
        have e4 : pOf (joinR y (lowR p x.plus)).vars z.idx = mxo (pOf y.vars z.idx) (pOf (lowR p x.plus).vars z.idx) := pOf_merge py.vl.srt pl.vl.srt z.idx
        rw [e4, el] at e3
        have e5 : pOf [⟨z.idx, max 0 (z.plus - x.plus)⟩] z.idx = some (max 0 (z.plus - x.plus)) := by rw [pOf, if_pos rfl]
        rw [show (LL.mk 0 [⟨z.idx, max 0 (z.plus - x.plus)⟩]).vars = [⟨z.idx, max 0 (z.plus - x.plus)⟩] from rfl, e5] at e3
        cases hq : pOf y.vars z.idx with
        | none => rw [hq] at e3; cases e3
        | some w =>
          rw [hq] at e3
          have e3 : max w (max 0 (z.plus - x.plus)) = w := by simpa [mxo] using e3
          obtain ⟨_, p2, _, _⟩ := plusR_VL py.vl k0 he
          have e6 : pOf (plusR y x.plus).1.vars z.idx = some (w + x.plus) := by rw [p2]; show pOf (upV y.vars x.plus) z.idx = _; rw [pOf_up, hq]; rfl
          obtain ⟨o', e7, e8⟩ := hle.pt _ _ e6
          obtain ⟨u, hu, hu1, hu2⟩ := pOf_mem e7
          have : (r.vars.any (hasB z)) = true := List.any_eq_true.2 ⟨u, hu, by
            unfold hasB
            rw [decide_eq_true hu1, decide_eq_true (by omega)]; rfl⟩
          simp only [List.all_cons, List.all_nil, this, Bool.not_false, Bool.and_self]
def wS (vals : List LL) : Nat := (vals.map wL).sum
theorem wS_set : ∀ {vals : List LL} {i : Nat} {y z : LL}, vals[i]? = some y → wL y < wL z → wS vals < wS (vals.set i z)
  | [], i, y, z, h, _ => by simp at h
  | v :: vals, 0, y, z, h, hw => by
    have h : v = y := by simpa using h
    subst h
    simp only [wS, List.set_cons_zero, List.map_cons, List.sum_cons]; omega
  | v :: vals, i + 1, y, z, h, hw => by
    have := wS_set (vals := vals) (i := i) (by simpa using h) hw
    simp only [wS, List.set_cons_succ, List.map_cons, List.sum_cons] at *; omega
theorem wS_max : ∀ {vals : List LL}, (∀ y ∈ vals, Pm y) → wS vals ≤ 908 * vals.length
  | [], _ => by simp [wS]
  | v :: vals, h => by
    have h1 := wS_max (vals := vals) fun y hy => h y (by simp [hy])
    have h2 := wL_max (h v (by simp)).vl
    simp only [wS, List.map_cons, List.sum_cons, List.length_cons] at *; omega
theorem parts_form {l : LL} : ∀ p ∈ partsR l, p.vars = [] ∨ p.c = 0 := by
  intro p hp
  unfold partsR at hp
  rcases List.mem_append.1 hp with hp | hp
  · split at hp
    · simp at hp; subst hp; exact .inl rfl
    · simp at hp
  · obtain ⟨x, _, rfl⟩ := List.mem_map.1 hp; exact .inr rfl
def Grow (vals : List LL) (ch : Bool) (r : List LL × Bool) : Prop := (∀ y ∈ r.1, Pm y) ∧ r.1.length = vals.length ∧ ((r.1 = vals ∧ r.2 = ch) ∨ (r.2 = true ∧ wS vals < wS r.1))
theorem parts_grow {high : LL} (hh : VL high) : ∀ (ps : List LL) {vals : List LL} {ch : Bool} {r : List LL × Bool}, (∀ p ∈ ps, Pm p ∧ p.vars.length ≤ 1 ∧ (p.vars = [] ∨ p.c = 0)) → (∀ y ∈ vals, Pm y) → Sc vals.length high → ps.foldl (stepP high) (some (vals, ch)) = some r → Grow vals ch r
  | [], vals, ch, r, _, hv, _, e => by cases e; exact ⟨hv, rfl, .inl ⟨rfl, rfl⟩⟩
  | p :: ps, vals, ch, r, hp, hv, hs, e => by
    rw [List.foldl_cons] at e
    cases h1 : stepP high (some (vals, ch)) p with
    | none => rw [h1, stepP_none] at e; cases e
    | some q =>
      rw [h1] at e
      obtain ⟨vals1, ch1⟩ := q
      obtain ⟨a1, a2⟩ := stepP_Pm hh hs hv (hp p (by simp)).1 h1
      have a2 : vals1.length = vals.length := a2
      obtain ⟨g1, g2, g3⟩ := parts_grow hh ps (vals := vals1) (ch := ch1) (fun p hq => hp p (by simp [hq])) a1 (by rw [a2]; exact hs) e
      refine ⟨g1, by omega, ?_⟩
      obtain ⟨b1, b2, b3⟩ := hp p (by simp)
      have key : (vals1 = vals ∧ ch1 = ch) ∨ (ch1 = true ∧ wS vals < wS vals1) := by
        unfold stepP at h1
        simp only at h1
        by_cases z1 : (repR high vals).2 = 0
        · rw [if_pos z1] at h1
          by_cases z2 : leqB p (repR high vals).1 = true
          · rw [if_pos z2] at h1; cases h1; exact .inl ⟨rfl, rfl⟩
          · rw [if_neg z2] at h1
            by_cases z3 : (pivR high.vars).1 < 0
            · rw [if_pos z3] at h1; cases h1
            · rw [if_neg z3] at h1
              cases hy : vals[(pivR high.vars).1.toNat]? with
              | none => rw [hy] at h1; cases h1
              | some y =>
                rw [hy] at h1
                cases h1
                exact .inr ⟨rfl, wS_set hy (raise_strict hh hv b1 b2 b3 z1 z2 z3 hy)⟩
        · rw [if_neg z1] at h1; cases h1
      rcases key with ⟨rfl, rfl⟩ | ⟨rfl, k⟩
      · exact g3
      · rcases g3 with ⟨g4, g5⟩ | ⟨g4, g5⟩
        · exact .inr ⟨g5, by rw [g4]; exact k⟩
        · exact .inr ⟨g4, by omega⟩
theorem vis_grow {low high : LL} {vals : List LL} {r : List LL × Bool} (h1 : VL low) (h2 : VL high) (s1 : Sc vals.length low) (s2 : Sc vals.length high) (hv : ∀ y ∈ vals, Pm y) (e : visP low high vals = some r) : Grow vals false r := by
  unfold visP at e
  by_cases h : (repR low vals).2 = 0
  · rw [if_pos h] at e
    have pm := repR_Pm hv h1 s1 h
    exact parts_grow h2 _ (fun p hp => ⟨(parts_Pm pm p hp).1, (parts_Pm pm p hp).2, parts_form p hp⟩) hv s2 e
  · rw [if_neg h] at e; cases e
structure Okb (n : Nat) (b : LL × LL) : Prop where
  v1 : VL b.1
  v2 : VL b.2
  s1 : Sc n b.1
  s2 : Sc n b.2
def stepB (s : Option (List LL × Bool)) (b : LL × LL) : Option (List LL × Bool) := match s with
  | none => none
  | some (vals, again) => match visP b.1 b.2 vals with
    | none => none
    | some (v, ch) => some (v, again || ch)
theorem stepB_none (bs : List (LL × LL)) : bs.foldl stepB none = none := by
  induction bs with
  | nil => rfl
  | cons x l ih => exact ih
def passP (bs : List (LL × LL)) (vals : List LL) : Option (List LL × Bool) := bs.foldl stepB (some (vals, false))
theorem fold_grow : ∀ (bs : List (LL × LL)) {vals : List LL} {ch : Bool} {r : List LL × Bool}, (∀ b ∈ bs, Okb vals.length b) → (∀ y ∈ vals, Pm y) → bs.foldl stepB (some (vals, ch)) = some r → Grow vals ch r
  | [], vals, ch, r, _, hv, e => by cases e; exact ⟨hv, rfl, .inl ⟨rfl, rfl⟩⟩
  | b :: bs, vals, ch, r, hb, hv, e => by
    rw [List.foldl_cons] at e
    obtain ⟨o1, o2, o3, o4⟩ := hb b (by simp)
    cases h1 : visP b.1 b.2 vals with
    | none => rw [show stepB (some (vals, ch)) b = none by unfold stepB; simp only [h1], stepB_none] at e; cases e
    | some q =>
      obtain ⟨v1, c1⟩ := q
      rw [show stepB (some (vals, ch)) b = some (v1, ch || c1) by unfold stepB; simp only [h1]] at e
      obtain ⟨g1, g2, g3⟩ := vis_grow o1 o2 o3 o4 hv h1
      have g2 : v1.length = vals.length := g2
      obtain ⟨k1, k2, k3⟩ := fold_grow bs (vals := v1) (ch := ch || c1) (fun b h => by rw [g2]; exact hb b (by simp [h])) g1 e
      refine ⟨k1, by omega, ?_⟩
      rcases g3 with ⟨h2, h3⟩ | ⟨h2, h3⟩
      · have h2 : v1 = vals := h2
        have h3 : c1 = false := h3
        subst h2 h3
        rw [Bool.or_false] at k3
        exact k3
      · have h2 : c1 = true := h2
        have h3 : wS vals < wS v1 := h3
        subst h2
        rw [Bool.or_true] at k3
        rcases k3 with ⟨k4, k5⟩ | ⟨k4, k5⟩
        · exact .inr ⟨k5, by rw [k4]; exact h3⟩
        · exact .inr ⟨k4, by omega⟩
def iterP (bs : List (LL × LL)) : Nat → List LL → Option (List LL)
  | 0, _ => none
  | n + 1, vals => match passP bs vals with
    | none => none
    | some (v, false) => some v
    | some (v, true) => iterP bs n v
theorem iterP_any {bs : List (LL × LL)} : ∀ (n m : Nat) (vals : List LL), (∀ b ∈ bs, Okb vals.length b) → (∀ y ∈ vals, Pm y) → 908 * vals.length < n + wS vals → 908 * vals.length < m + wS vals → iterP bs n vals = iterP bs m vals
  | 0, m, vals, _, hv, h1, _ => by have := wS_max hv; omega
  | n + 1, 0, vals, _, hv, _, h2 => by have := wS_max hv; omega
  | n + 1, m + 1, vals, hb, hv, h1, h2 => by
    unfold iterP
    cases hp : passP bs vals with
    | none => rfl
    | some r =>
      obtain ⟨v, c⟩ := r
      obtain ⟨g1, g2, g3⟩ := fold_grow bs hb hv hp
      cases c with
      | false => rfl
      | true =>
        have g2 : v.length = vals.length := g2
        rcases g3 with ⟨_, h⟩ | ⟨_, h⟩
        · cases h
        · have h : wS vals < wS v := h
          exact iterP_any n m v (by rw [g2]; exact hb) g1 (by rw [g2]; omega) (by rw [g2]; omega)
def solP (bs : List (LL × LL)) (vals : List LL) : Option (List LL) := iterP bs (908 * vals.length + 1) vals
theorem solP_step {bs : List (LL × LL)} {vals : List LL} (hb : ∀ b ∈ bs, Okb vals.length b) (hv : ∀ y ∈ vals, Pm y) : solP bs vals = match passP bs vals with
    | none => none
    | some (v, false) => some v
    | some (v, true) => solP bs v := by
  have h0 : solP bs vals = iterP bs (908 * vals.length + 1 + 1) vals := iterP_any _ _ _ hb hv (by omega) (by omega)
  rw [h0, iterP]
  cases hp : passP bs vals with
  | none => rfl
  | some r =>
    obtain ⟨v, c⟩ := r
    obtain ⟨g1, g2, g3⟩ := fold_grow bs hb hv hp
    have g2 : v.length = vals.length := g2
    cases c with
    | false => rfl
    | true =>
      show iterP bs (908 * vals.length + 1) v = iterP bs (908 * v.length + 1) v
      rw [g2]
end Go.Proofs.YtnacljdablhbgaaGreat
