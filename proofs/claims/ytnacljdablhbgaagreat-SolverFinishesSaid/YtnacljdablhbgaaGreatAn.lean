/- AbsGo: a slice that a call builds by appending (no condition). -/
import Derived.Test.YtnacljdablhbgaaGreatAm
namespace Go.AG
theorem ble_t {a b : Nat} (h : a ≤ b) : Nat.ble a b = true := Nat.ble_eq_true_of_le h
theorem beq_t (a : Nat) : Nat.beq a a = true := Nat.beq_refl a
def Own (base sz : Nat) (agg : Bool) (h : AH) (v : AV) (out : List AV) : Prop :=
  (∀ x ∈ out, x.cells.length = sz ∧ x.isAgg = agg) ∧ ((v = .nils ∧ out = []) ∨ ∃ k g, v = .row k g sz 0 out.length ∧ h.get k = some (.row g sz agg (flat out) 0) ∧ k < h.next ∧ base ≤ k)
theorem flat_len {sz : Nat} {out : List AV} (h : ∀ x ∈ out, x.cells.length = sz) : (flat out).length = out.length * sz := flat_length h
theorem get_new (h : AH) (x : AObj) (k : Nat) : (h.new x).get k = if k = h.next then some x else h.get k := by
  cases h; exact Tr.get_put _ _ _ _
theorem next_new (h : AH) (x : AObj) : (h.new x).next = h.next + 1 := by cases h; rfl
theorem get_set (h : AH) (j : Nat) (x : AObj) (k : Nat) : (h.set j x).get k = if k = j then some x else h.get k := by
  cases h; exact Tr.get_put _ _ _ _
theorem next_set (h : AH) (j : Nat) (x : AObj) : (h.set j x).next = h.next := by cases h; rfl
theorem get_new_s (h : AH) (x : AObj) : (h.new x).get h.next = some x := by rw [get_new, if_pos rfl]
theorem get_new_o {h : AH} {k : Nat} {x : AObj} (hne : k ≠ h.next) : (h.new x).get k = h.get k := by rw [get_new, if_neg hne]
theorem get_set_s (h : AH) (j : Nat) (x : AObj) : (h.set j x).get j = some x := by rw [get_set, if_pos rfl]
theorem get_set_o {h : AH} {j k : Nat} {x : AObj} (hne : k ≠ j) : (h.set j x).get k = h.get k := by rw [get_set, if_neg hne]
theorem low_new (h : AH) (x : AObj) : (h.new x).low = h.low := by cases h; rfl
theorem low_set (h : AH) (j : Nat) (x : AObj) : (h.set j x).low = minN j h.low := by cases h; rfl
theorem le_minN {b k l : Nat} (h1 : b ≤ k) (h2 : b ≤ l) : b ≤ minN k l := by
  unfold minN
  cases Nat.ble k l with
  | true => exact h1
  | false => exact h2
theorem minN_le_r (a b : Nat) : minN a b ≤ b := by
  unfold minN
  cases hb : Nat.ble a b with
  | true => exact ble_le hb
  | false => exact Nat.le_refl _
theorem own_append {base sz bytes : Nat} {agg : Bool} {h : AH} {v x : AV} {out z : List AV} (o : Own base sz agg h v out) (hb : base ≤ h.next) (hz : z.length = sz) (hx : x.cells.length = sz) (ha : x.isAgg = agg) (hl : x.lies = true)
    (hn : out.length < 100000) (hy : bytes ≤ 1000) :
    ∃ v' h', evAppend h sz agg z bytes v (.clip [x]) = some (v', h') ∧ Own base sz agg h' v' (out ++ [x]) ∧ h.next ≤ h'.next ∧ (∀ k, k < base → h'.get k = h.get k) ∧ (∀ b, b ≤ base → b ≤ h.low → b ≤ h'.low) ∧ h'.low ≤ h.low ∧ (∀ k, k < h.next → (∀ g n, v ≠ .row k g sz 0 n) → h'.get k = h.get k) ∧ (∃ k g, v' = .row k g sz 0 (out.length + 1) ∧ (v = .nils → k = h.next) ∧ (∀ k' g' n', v = .row k' g' sz 0 n' → k = k')) := by
  obtain ⟨o1, o2⟩ := o
  have hall : ∀ y ∈ out ++ [x], y.cells.length = sz ∧ y.isAgg = agg := by
    intro y hy
    rcases List.mem_append.1 hy with h | h
    · exact o1 y h
    · simp at h; subst h; exact ⟨hx, ha⟩
  have e0 : evAppend h sz agg z bytes v (.clip [x]) = appSome v h sz agg bytes [x] := by
    show bindO (cond (and (Nat.beq (len x.cells) sz) true) (some [x]) none) (fun xs => cond (and (allLie xs) (Nat.beq (len z) sz)) _ _) = _
    rw [len_eq, hx, beq_t]
    show cond (and (and x.lies true) (Nat.beq (len z) sz)) _ _ = _
    rw [hl, len_eq, hz, beq_t]; rfl
  have hneed : ∀ m, m < 100000 → need m 1 bytes = true := by
    intro m hm
    show and (Nat.ble ((2 * (m + 1) + 1000) * bytes) 140737488355328) (Nat.ble (m + 1) 9223372036854775807) = true
    rw [ble_t (show m + 1 ≤ 9223372036854775807 by omega), ble_t]
    · rfl
    · calc (2 * (m + 1) + 1000) * bytes ≤ 300000 * 1000 := Nat.mul_le_mul (by omega) hy
        _ ≤ 140737488355328 := by decide
  rw [e0]
  rcases o2 with ⟨rfl, rfl⟩ | ⟨k, g, rfl, hk, hlt, hbk⟩
  · refine ⟨.row h.next 0 sz 0 1, h.new (.row 0 sz agg (flat [x]) 0), ?_, ⟨hall, .inr ⟨h.next, 0, rfl, ?_, ?_, hb⟩⟩, ?_, ?_⟩
    · show cond (need 0 1 bytes) _ _ = _
      rw [hneed 0 (by omega)]; rfl
    · rw [get_new, if_pos rfl]; rfl
    · rw [next_new]; omega
    · rw [next_new]; omega
    · refine ⟨fun k hk => by rw [get_new, if_neg (by omega)], fun b _ hb => by cases h; exact hb, by cases h; exact Nat.le_refl _, fun k hk _ => by rw [get_new, if_neg (by omega)], h.next, 0, rfl, fun _ => rfl, fun _ _ _ e => (by cases e)⟩
  · have hfl := flat_len (fun x hx => (o1 x hx).1)
    refine ⟨.row k (g + 1) sz 0 (out.length + 1), h.set k (.row (g + 1) sz agg (flat (out ++ [x])) 0), ?_, ⟨hall, .inr ⟨k, g + 1, by simp, ?_, ?_, hbk⟩⟩, ?_, ?_⟩
    · have er : rowAt h k g sz = some (agg, flat out, 0) := by
        unfold rowAt
        rw [hk, bindO_some]
        show bindO (some (g, sz, agg, flat out, 0)) _ = _
        rw [bindO_some]
        show cond (and (Nat.beq g g) (Nat.beq sz sz)) _ _ = _
        rw [beq_t, beq_t]; rfl
      show cond (Nat.beq sz sz) (bindO (rowAt h k g sz) _) none = _
      rw [beq_t, er, cond_true, bindO_some]
      show cond (and (sameB agg agg) (and (Nat.ble 0 ((0 + out.length) * sz)) (and (Nat.ble ((0 + out.length) * sz) (len (flat out))) (need out.length 1 bytes))))
        (some (AV.row k (g + 1) sz 0 (out.length + 1), h.set k (.row (g + 1) sz agg (app (tke (out.length * sz) (drp (0 * sz) (flat out))) (flat [x])) (0 - 0 * sz)))) none = _
      have es : sameB agg agg = true := by cases agg <;> rfl
      rw [es, hneed _ hn, len_eq, ble_t (show 0 ≤ (0 + out.length) * sz by omega), ble_t (show (0 + out.length) * sz ≤ (flat out).length by rw [hfl, Nat.zero_add]; exact Nat.le_refl _)]
      simp only [Nat.zero_mul, Nat.sub_self, app_eq, tke_eq, drp_eq, List.drop_zero]
      rw [← hfl, List.take_length, flat_append]; rfl
    · rw [get_set, if_pos rfl]
    · rw [next_set]; exact hlt
    · rw [next_set]; exact Nat.le_refl _
    · have hl2 : (h.set k (.row (g + 1) sz agg (flat (out ++ [x])) 0)).low = minN k h.low := by cases h; rfl
      refine ⟨fun k' hk' => by rw [get_set, if_neg (by omega)], fun b hb hl => ?_, by rw [hl2]; exact minN_le_r _ _, fun k' hk' hne => by rw [get_set, if_neg (fun e => hne g out.length (by rw [e]))], k, g + 1, rfl, fun e => (by cases e), fun _ _ _ e => (by cases e; rfl)⟩
      rw [hl2]; exact le_minN (by omega) hl
theorem chunk_flat {sz : Nat} {agg : Bool} (hs : agg = false → sz = 1) : ∀ {out : List AV}, (∀ x ∈ out, x.cells.length = sz ∧ x.isAgg = agg) → chunk agg sz out.length (flat out) = some out
  | [], _ => rfl
  | x :: l, h => by
    obtain ⟨h1, h2⟩ := h x (by simp)
    have ih := chunk_flat hs (out := l) (fun y hy => h y (by simp [hy]))
    rw [List.length_cons, chunk_succ, flat_cons]
    have eg : grab agg sz 0 (x.cells ++ flat l) = some x := by
      cases agg with
      | true =>
        rw [grab_A _ _ _ (by rw [List.length_append]; omega), List.drop_zero, ← h1, List.take_left' rfl]
        cases x <;> simp [AV.isAgg, AV.cells] at h2 ⊢
      | false =>
        have := hs rfl
        subst this
        rw [grab_1, cells_one h2]; rfl
    rw [eg, bindO_some, drp_eq, ← h1, List.drop_left' rfl, h1, ih]; rfl
theorem own_frzB {base fb sz m : Nat} {agg : Bool} {h : AH} {v : AV} {out : List AV} (o : Own base sz agg h v out) (hfb : fb ≤ base) (hs : agg = false → sz = 1) (hf : ∀ x ∈ out, frz m h fb x = x) :
    (v = .nils ∧ out = [] ∧ frz (m + 1) h fb v = .nils) ∨ frz (m + 1) h fb v = .lst out := by
  obtain ⟨o1, ⟨rfl, rfl⟩ | ⟨k, g, rfl, hk, hlt, hbk⟩⟩ := o
  · exact .inl ⟨rfl, rfl, rfl⟩
  · right
    show cond (Nat.ble fb k) (frzRow h (.row k g sz 0 out.length) k g sz 0 out.length (frz m h fb)) _ = _
    rw [ble_t (by omega), cond_true]
    unfold frzRow
    rw [hk, bindO_some]
    show cond (and (Nat.beq g g) (Nat.beq sz sz)) (@Option.casesOn (List AV) (fun _ => AV) (chunk agg sz out.length (drp (0 * sz) (flat out))) (AV.row k g sz 0 out.length) fun es => AV.lst (mapL (frz m h fb) es)) (AV.row k g sz 0 out.length) = _
    rw [beq_t, beq_t]
    simp only [Nat.zero_mul, drp_eq, List.drop_zero, chunk_flat hs o1, Bool.and_self, cond_true]
    rw [mapL_eq]
    congr 1
    conv => rhs; rw [← List.map_id out]
    exact List.map_congr_left fun x hx => hf x hx
theorem own_keep {base sz : Nat} {agg : Bool} {h h' : AH} {v : AV} {out : List AV} (o : Own base sz agg h v out) (hn : h.next ≤ h'.next) (hg : ∀ k, base ≤ k → k < h.next → h'.get k = h.get k) : Own base sz agg h' v out := by
  obtain ⟨o1, o2⟩ := o
  refine ⟨o1, ?_⟩
  rcases o2 with ⟨rfl, rfl⟩ | ⟨k, g, rfl, hk, hlt, hbk⟩
  · exact .inl ⟨rfl, rfl⟩
  · exact .inr ⟨k, g, rfl, by rw [hg k hbk hlt]; exact hk, by omega, hbk⟩
theorem own_nil (base sz : Nat) (agg : Bool) (h : AH) : Own base sz agg h .nils [] := ⟨by simp, .inl ⟨rfl, rfl⟩⟩
theorem litParts_1 (i : Nat) (x : AX) (tm : Tm) (sz : Nat) : evLitParts [(i, x)] tm sz = [(i * sz, sz, ev x tm)] := (rfl)
theorem lit_int (h : AH) (x : Int) : evLit true false 1 [.int .i64 0] 1 [(0, 1, .int .i64 x)] h = .val (.clip [.int .i64 x]) h := (rfl)
theorem lit_agg2 (h : AH) (a b a' b' : AV) : evLit true true 2 [a', b'] 1 [(0, 2, .agg [a, b])] h = .val (.clip [.agg [a, b]]) h := (rfl)
noncomputable def mix (K : CallF) (E : Env) (N : Nat) : Nat → CallF
  | 0 => K
  | m + 1 => fun f a rc h => match K f a rc h with
    | some r => some r
    | none => evVal f E (mix K E N m) N a rc h
theorem mix_ok {C : Cx} {K : CallF} {E : Env} (hE : EnvOk C E) (hK : CallOk C K) (N : Nat) : ∀ m, CallOk C (mix K E N m)
  | 0 => hK
  | m + 1 => by
    intro f args rc h out rc' h' q
    simp only [mix] at q
    cases hk : K f args rc h with
    | some r =>
      rw [hk] at q
      exact hK f args rc h out rc' h' (by rw [hk]; exact q)
    | none =>
      rw [hk] at q
      exact step_ok hE (mix_ok hE hK N m) N f args rc h out rc' h' q
theorem mix_known {K : CallF} {E : Env} {N : Nat} {f : AV} {a : List AV} {rc : RC} {h : AH} {r : AOut × RC × AH} (e : K f a rc h = some r) : ∀ m, mix K E N m f a rc h = some r
  | 0 => e
  | m + 1 => by simp only [mix, e]
theorem mix_run {K : CallF} {E : Env} {N m : Nat} {f : FuncId} {c a : List AV} {rc : RC} {h : AH} (e : K (.fn f [] c) a rc h = none) : mix K E N (m + 1) (.fn f [] c) a rc h = evFn E (mix K E N m) N f (a ++ c) rc h := by
  simp only [mix, e]
  show evFn E _ N f (app [] (app a c)) rc h = _
  rw [app_eq, app_eq]; rfl
def HQ (h0 : AH) (rs : List ARes) (P : AV → AH → Prop) (e : AEx) (fr : AF) (h1 : AH) : Prop :=
  fr.cx.dfs = [] ∧ fr.cx.rc = .no ∧ (e = .normal ∨ e = .ret) ∧ ∃ vs, evRes rs fr.tm h1 = some vs ∧
    ((h0.next ≤ h1.low ∧ P (frz 4 h1 h0.next (one vs)) ⟨h1.next, h0.low, h0.objs⟩) ∨ (¬ h0.next ≤ h1.low ∧ P (one vs) ⟨h1.next, minN h1.low h0.low, h1.objs⟩))
theorem HQ_keep {h0 : AH} {rs : List ARes} {P : AV → AH → Prop} {tm : Tm} {rnd : Option Nat} {f : FuncId} {h1 : AH} {e : AEx} {vs : List AV} (he : e = .normal ∨ e = .ret) (hl : h0.next ≤ h1.low) (hv : evRes rs tm h1 = some vs) (hP : P (frz 4 h1 h0.next (one vs)) ⟨h1.next, h0.low, h0.objs⟩) :
    HQ h0 rs P e ⟨tm, ⟨[], .no, rnd, f⟩⟩ h1 := ⟨rfl, rfl, he, vs, hv, .inl ⟨hl, hP⟩⟩
theorem HQ_turn {h0 : AH} {rs : List ARes} {P : AV → AH → Prop} {tm : Tm} {rnd : Option Nat} {f : FuncId} {h1 : AH} {e : AEx} {vs : List AV} (he : e = .normal ∨ e = .ret) (hl : ¬ h0.next ≤ h1.low) (hv : evRes rs tm h1 = some vs) (hP : P (one vs) ⟨h1.next, minN h1.low h0.low, h1.objs⟩) :
    HQ h0 rs P e ⟨tm, ⟨[], .no, rnd, f⟩⟩ h1 := ⟨rfl, rfl, he, vs, hv, .inr ⟨hl, hP⟩⟩
theorem minN_le (a b : Nat) : minN a b ≤ a := by
  unfold minN
  cases hb : Nat.ble a b with
  | true => exact Nat.le_refl _
  | false => exact Nat.le_of_lt (ble_false hb)
theorem evFn_H {E : Env} {call : CallF} {n : Nat} {f : FuncId} {as : List AV} {h0 : AH} {P : AV → AH → Prop} {nt : Nat} {rs : List ARes} {body : ACode} (hcf : E.cf f = some ⟨nt, rs, body⟩) (hp : E.pure f = true)
    (hR : R call n [.code body] (HQ h0 rs P) .normal ⟨startTm as, ⟨[], .no, none, f⟩⟩ ⟨h0.next, h0.next, h0.objs⟩) : ∃ v h', evFn E call n f as .no h0 = some (.ret v, .no, h') ∧ P v h' := by
  obtain ⟨e, ⟨tm, ⟨dfs, rc, rnd, fid⟩⟩, h, q, q1, q2, q3, vs, r1, r2⟩ := hR
  replace q1 : dfs = [] := q1
  replace q2 : rc = .no := q2
  subst q1 q2
  have q' : evCode body call n ⟨startTm as, ⟨[], .no, none, f⟩⟩ (lowered (E.pure f) h0) = some (e, ⟨tm, ⟨[], .no, rnd, fid⟩⟩, h) := by rw [hp]; exact q
  have key : bindO (evRes rs tm h) (fun vs => finRet (E.pure f) h0 h .no vs) = letGo h0 h .no (one vs) := by rw [r1, bindO_some, hp]; rfl
  have fin : ∃ v h', letGo h0 h .no (one vs) = some (AOut.ret v, RC.no, h') ∧ P v h' := by
    rcases r2 with ⟨hl, hP⟩ | ⟨hl, hP⟩
    · refine ⟨_, _, ?_, hP⟩
      show cond (Nat.ble h0.next h.low) _ _ = _
      rw [ble_t hl]; rfl
    · refine ⟨_, _, ?_, hP⟩
      show cond (Nat.ble h0.next h.low) _ _ = _
      have : Nat.ble h0.next h.low = false := by
        cases hb : Nat.ble h0.next h.low with
        | false => rfl
        | true => exact absurd (ble_le hb) hl
      rw [this]; rfl
  unfold evFn
  rw [hcf, bindO_some]
  simp only [q', bindO_some]
  obtain ⟨v, h', e1, hP⟩ := fin
  rcases q3 with rfl | rfl
  · exact ⟨v, h', by rw [← e1, ← key]; rfl, hP⟩
  · exact ⟨v, h', by rw [← e1, ← key]; rfl, hP⟩
theorem sized_map {α : Type} {f : α → AV} {sz : Nat} (hf : ∀ x, (f x).cells.length = sz) (l : List α) : sized sz (l.map f) = true := by
  induction l with
  | nil => rfl
  | cons a l ih => rw [List.map_cons, sized_cons, len_eq, hf, beq_t, ih]; rfl
theorem allLie_map {α : Type} {f : α → AV} (hf : ∀ x, (f x).lies = true) (l : List α) : allLie (l.map f) = true := by
  induction l with
  | nil => rfl
  | cons a l ih => rw [List.map_cons, allLie_cons, hf, ih]; rfl
theorem over_app {α : Type} : ∀ (xs cs ds : List α), xs.length = cs.length → over xs (cs ++ ds) = xs ++ ds
  | [], [], ds, _ => rfl
  | x :: xs, c :: cs, ds, h => by
    rw [List.cons_append, over_cons, over_app xs cs ds (by simpa using h)]; rfl
theorem flat_set {sz : Nat} {x : AV} (hx : x.cells.length = sz) : ∀ {out : List AV} {a : Nat}, (∀ y ∈ out, y.cells.length = sz) → a < out.length → setR (a * sz) x.cells (flat out) = flat (out.set a x)
  | y :: l, 0, h, _ => by
    rw [Nat.zero_mul, flat_cons]
    show over x.cells (y.cells ++ flat l) = flat (x :: l)
    rw [over_app _ _ _ (by rw [hx, h y (by simp)]), flat_cons]
  | y :: l, a + 1, h, ha => by
    have ih := flat_set hx (out := l) (a := a) (fun z hz => h z (by simp [hz])) (by simpa using ha)
    rw [flat_cons, List.set_cons_succ, flat_cons, ← ih]
    have hy := h y (by simp)
    have e : (a + 1) * sz = y.cells.length + a * sz := by rw [hy, Nat.succ_mul]; omega
    rw [e]
    generalize y.cells = cs
    generalize flat l = fs
    clear ih e
    induction cs with
    | nil => simp
    | cons c cs ih => rw [List.length_cons, show cs.length + 1 + a * sz = (cs.length + a * sz) + 1 by omega, List.cons_append, setR_cons, ih]; rfl
  | [], _, _, ha => by simp at ha
theorem flat_replicate (z : AV) : ∀ n, flat (List.replicate n z) = repl n z.cells
  | 0 => rfl
  | n + 1 => by rw [List.replicate_succ, flat_cons, flat_replicate z n, repl_succ]
def IQ (rs : List ARes) (P : AV → AH → Prop) (e : AEx) (fr : AF) (h1 : AH) : Prop :=
  fr.cx.dfs = [] ∧ fr.cx.rc = .no ∧ (e = .normal ∨ e = .ret) ∧ ∃ vs, evRes rs fr.tm h1 = some vs ∧ P (one vs) h1
theorem evFn_I {E : Env} {call : CallF} {n : Nat} {f : FuncId} {as : List AV} {h0 : AH} {P : AV → AH → Prop} {nt : Nat} {rs : List ARes} {body : ACode} (hcf : E.cf f = some ⟨nt, rs, body⟩) (hp : E.pure f = false)
    (hR : R call n [.code body] (IQ rs P) .normal ⟨startTm as, ⟨[], .no, none, f⟩⟩ h0) : ∃ v h', evFn E call n f as .no h0 = some (.ret v, .no, h') ∧ P v h' := by
  obtain ⟨e, ⟨tm, ⟨dfs, rc, rnd, fid⟩⟩, h, q, q1, q2, q3, vs, r1, r2⟩ := hR
  replace q1 : dfs = [] := q1
  replace q2 : rc = .no := q2
  subst q1 q2
  have q' : evCode body call n ⟨startTm as, ⟨[], .no, none, f⟩⟩ (lowered (E.pure f) h0) = some (e, ⟨tm, ⟨[], .no, rnd, fid⟩⟩, h) := by rw [hp]; exact q
  have key : bindO (evRes rs tm h) (fun vs => finRet (E.pure f) h0 h .no vs) = some (AOut.ret (one vs), RC.no, h) := by rw [r1, bindO_some, hp]; rfl
  unfold evFn
  rw [hcf, bindO_some]
  simp only [q', bindO_some]
  rcases q3 with rfl | rfl
  · exact ⟨one vs, h, by rw [← key]; rfl, r2⟩
  · exact ⟨one vs, h, by rw [← key]; rfl, r2⟩
theorem tupL_t (l : List AV) : tupL (.tup l) = some l := (rfl)
theorem build_0 (h : AH) (z : List AV) : evBuild h z [] = .val (.agg z) h := (rfl)
theorem parts_nil (tm : Tm) : evParts [] tm = [] := (rfl)
theorem parts_cons (p : Nat × Nat × AX) (l : List (Nat × Nat × AX)) (tm : Tm) : evParts (p :: l) tm = (p.1, p.2.1, ev p.2.2 tm) :: evParts l tm := (rfl)
theorem nilChk_ptr (h : AH) (k g o : Nat) : evNilChk (.ptr k g o) h = .val (.ptr k g o) h := (rfl)
theorem yldBegin_at {h : AH} {l : Nat} {pend : Option AEx} {tm : Tm} {ps : List Nat} {as b : ACode} {f : FuncId} (hl : h.get l = some (.loop .ready pend tm ps as b f)) :
    yldBegin h l = some (h.set l (.loop .busy pend tm ps as b f)) := by
  unfold yldBegin
  rw [hl, bindO_some]; rfl
theorem yldSet_at {h : AH} {l : Nat} {st st' : LoopState} {pend pend' : Option AEx} {tm : Tm} {ps : List Nat} {as b : ACode} {f : FuncId} (hl : h.get l = some (.loop st pend tm ps as b f)) :
    yldSet h l st' pend' = some (h.set l (.loop st' pend' tm ps as b f)) := by
  unfold yldSet
  rw [hl, bindO_some]; rfl
theorem yld_R {call : CallF} {n l : Nat} {args : List AV} {h : AH} {st : LoopState} {pend : Option AEx} {tm : Tm} {ps : List Nat} {as b : ACode} {f : FuncId} {P : AH → Prop} (hl : h.get l = some (.loop st pend tm ps as b f)) (hlen : args.length = ps.length)
    (hR : R call n [.code as] (fun e fr1 h1 => e = .normal ∧ ∃ h2, yldBegin h1 l = some h2 ∧ R call n [.code b] (fun e2 fr2 h3 => e2 = .normal ∧ fr2.cx.dfs = [] ∧ ∃ h4, yldSet h3 l .ready none = some h4 ∧ P h4) .normal fr1 h2) .normal ⟨putAll ps args tm, ⟨[], .no, some l, f⟩⟩ h) :
    ∃ h', evYld call n l args h = some (.ret (.bool true), .no, h') ∧ P h' := by
  obtain ⟨e, fr1, h1, q1, rfl, h2, q2, e2, fr2, h3, q3, rfl, q4, h4, q5, hP⟩ := hR
  refine ⟨h4, ?_, hP⟩
  unfold evYld
  rw [hl, bindO_some]
  show cond (Nat.beq (len args) (len ps)) _ _ = _
  rw [len_eq, len_eq, hlen, beq_t, cond_true]
  unfold yldBody
  rw [q1, bindO_some]
  show bindO (yldBegin h1 l) _ = _
  rw [q2, bindO_some, q3, bindO_some]
  show cond (nilL fr2.cx.dfs) _ _ = _
  rw [q4]
  show yldRet true (yldSet h3 l .ready none) = _
  rw [q5]; rfl
theorem mix_yld {K : CallF} {E : Env} {N m l : Nat} {a : List AV} {h : AH} (e : K (.yld l) a .no h = none) : mix K E N (m + 1) (.yld l) a .no h = evYld (mix K E N m) N l a h := by
  simp only [mix, e]; rfl
theorem R_range {call : CallF} {n : Nat} {k : List It} {Q : AEx → AF → AH → Prop} {f : AX} {ps : List Nat} {as b : ACode} {tm : Tm} {ds : List DF} {rc : RC} {fid : FuncId} {h h2 : AH} {v : AV} {rc' : RC} {st : LoopState} {tm' : Tm} {ps' : List Nat} {as' b' : ACode} {fid' : FuncId}
    (hc : call (ev f tm) [.yld (h.next + 1)] .no ((h.new (.dfd false)).new (.loop .ready none tm ps as b fid)) = some (.ret v, rc', h2)) (hl : h2.get (h.next + 1) = some (.loop st none tm' ps' as' b' fid')) (hb : isBusy st = false)
    (hR : R call n k Q .normal ⟨tm, ⟨.mark h.next :: ds, rc, none, fid⟩⟩ (h2.set (h.next + 1) (.loop .exhausted none tm' ps' as' b' fid'))) :
    R call n (.code (.rangeFunc f ps as b) :: k) Q .normal ⟨tm, ⟨ds, rc, none, fid⟩⟩ h := by
  show WP (bindO (enterA ⟨tm, ⟨ds, rc, none, fid⟩⟩ ps as b h) fun p => bindO (call (ev f tm) [.yld p.1] .no p.2.2) fun q => loopBack q.1 (addDfs p.2.1 ⟨tm, ⟨ds, rc, none, fid⟩⟩) p.1 q.2.2) (R call n k Q)
  have e1 : enterA ⟨tm, ⟨ds, rc, none, fid⟩⟩ ps as b h = some (h.next + 1, [.mark h.next], (h.new (.dfd false)).new (.loop .ready none tm ps as b fid)) := rfl
  rw [e1, bindO_some]
  simp only [hc, bindO_some]
  show WP (loopEnd ⟨tm, ⟨.mark h.next :: ds, rc, none, fid⟩⟩ (h.next + 1) h2) _
  unfold loopEnd
  rw [hl, bindO_some]
  show WP (cond (isBusy st) none (some (.normal, ⟨tm, ⟨.mark h.next :: ds, rc, none, fid⟩⟩, h2.set (h.next + 1) (.loop .exhausted none tm' ps' as' b' fid')))) _
  rw [hb]
  exact WP_some.2 hR
theorem R_range_at {call : CallF} {n : Nat} {k : List It} {Q : AEx → AF → AH → Prop} {f : AX} {ps : List Nat} {as b : ACode} {tm : Tm} {ds : List DF} {rc : RC} {fid : FuncId} {h h2 : AH} {v : AV} {rc' : RC} {st : LoopState} {tm' : Tm} {ps' : List Nat} {as' b' : ACode} {fid' : FuncId} (p q : Nat) (hp : h.next = p) (hq : p + 1 = q)
    (hc : call (ev f tm) [.yld q] .no ((h.new (.dfd false)).new (.loop .ready none tm ps as b fid)) = some (.ret v, rc', h2)) (hl : h2.get q = some (.loop st none tm' ps' as' b' fid')) (hb : isBusy st = false)
    (hR : R call n k Q .normal ⟨tm, ⟨.mark p :: ds, rc, none, fid⟩⟩ (h2.set q (.loop .exhausted none tm' ps' as' b' fid'))) :
    R call n (.code (.rangeFunc f ps as b) :: k) Q .normal ⟨tm, ⟨ds, rc, none, fid⟩⟩ h := by
  subst hp hq
  exact R_range hc hl hb hR
theorem defs_mark {call : CallF} {m : Md} {h : AH} {k : Nat} (hk : h.get k = some (.dfd false)) : evDefs [.mark k] call m h = some (m, h.set k (.dfd true)) := by
  show bindO (bindO (h.get k) fun o => bindO (dfdAt o) fun t => cond t none (some (m, h.set k (.dfd true)))) _ = _
  rw [hk]; rfl
attribute [go_sem] R_draw RD_nil RD_mv RD_pick RD_build RD_litT RD_load RD_store RD_nilChk RD_bin RD_un RD_slice RD_faddr RD_iaddr RD_extract RD_len RD_append RD_call RD_new dE_eq dC_still dC_still0 dC_reads dC_reads0 dC_acts dC_acts0 dS_val dV_val dA_val dA_call dK_ret wants_n wants_s births_n births_c birth_new birth_mv birth_pick birth_build birth_lit birth_load birth_store birth_nilChk birth_bin birth_un birth_slice birth_faddr birth_iaddr birth_extract birth_builtin birth_call ite_lohi ite_01 rdsOk_nil rdsOk_cons rdOk_nil rdOk_cons sameVal_val beq_row beq_int beq_enc beq_lstT List.append_eq List.nil_append List.cons_append Bool.true_or Bool.or_true Bool.false_or Bool.or_false Bool.true_and Bool.and_true Bool.false_and Bool.and_false Bool.not_not R_nil R_skip R_seq R_region R_scope R_exit R_ret R_block R_cond sB_true sB_false R_code_exit R_code_ret R_out_normal R_out_ret R_out_same R_out_other R_ops_nil R_op R_opg sG_true sG_false sR_val sR_call sC_ret LQ_normal LQ_exit LQ_ret op_mv' op_pick' op_new' op_box' op_load' op_store' op_bin' op_un' op_lookup' op_mapUp' op_mkMap' op_mkSlice' op_slice' tupL_t nthL_eq op_faddr' op_iaddr' op_strIdx' op_extract' op_len' op_append' op_max' op_call' op_mkFn' op_build' parts_nil parts_cons build_0 op_nilChk' nilChk_ptr op_lit' litParts_1 lit_int lit_agg2 okV_s okH_s okVH_s ev_t ev_c putD_s putD_n nth_same nth_other startTm_1 startTm_2 startTm_3 startTm_5 startTm_6 startTm_nil evs_nil evs_cons pick_b bin_int bin_str int_add int_sub int_eql int_neq int_lss int_leq int_gtr int_geq str_eql str_neq un_not len_str len_nils len_lst len_row want_tt want_ff want_t bindO_some get_new_s get_new_o get_set_s get_set_o new_mk set_mk get_mk setR_zero setR_cons over_cons over_nil next_mk faddr_ptr faddr_vptr1 load_ptr load_vptrI load_vptrL load_vptrA load_enc load_encL load_encV loadAt_box grab_1 grab_A box_agg store_ptr storeAt_box cells_agg cells_int cells_bool cells_lst cells_row lies_agg lies_int lies_bool lies_lst lies_row Tr.get_put_same Tr.get_put_other res_nil res_tmp res_cell one_1 one_2 frz_int frz_bool frz_lst frz_clip frz_nils frz_tupS frz_aggS norm_int norm_bool max2 FQ_ret cond_true cond_false decide_true decide_false Bool.not_true Bool.not_false List.getElem?_cons_zero List.getElem?_cons_succ List.length_cons List.length_nil List.length_map List.map_cons List.map_nil List.drop_zero List.take_succ_cons List.take_zero List.drop_succ_cons Nat.zero_add Nat.add_zero Option.some.injEq exists_eq_left' exists_eq_left AOut.ret.injEq AOut.pan.injEq AV.int.injEq AV.bool.injEq ne_eq not_true_eq_false not_false_eq_true true_and and_true Nat.le_refl eq_self
end Go.AG
