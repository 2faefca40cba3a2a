/- SolverFinishes: one visit of a bound by the reference (no condition). -/
import Derived.Test.YtnacljdablhbgaaGreatDh
namespace Go.Proofs.YtnacljdablhbgaaGreat
open Go.AG
attribute [local go_sem] RD_max RD_lookup birth_lookup build_1i build_2i build_p1
theorem Lv.free {a : AV} {x : LL} (h : Lv a x) : a.free = true := by rw [← norm_free, h.norm]; exact encL_free x
theorem Lv.bq {a : AV} {x : LL} (h : Lv a x) : AV.beq a a = true := beq_free h.free
structure Fv (kV : Nat) (h0 h' : AH) : Prop where
  next : h0.next ≤ h'.next
  keep : ∀ k, k < h0.next → k ≠ kV → h'.get k = h0.get k
  low : ∀ b, b ≤ h0.low → b ≤ kV → b ≤ h'.low
def Vr (kV : Nat) (h0 : AH) (r : Option (List LL × Bool)) (v : AV) (h' : AH) : Prop :=
  Fv kV h0 h' ∧ match r with
    | some (vals, ch) => v = .tup [.bool ch, .int .i64 0] ∧ VS kV vals h'
    | none => v = .tup [.bool false, .int .i64 15]
structure J100 (kV : Nat) (B : List AV) (h0 h : AH) (vals : List LL) : Prop where
  b3 : h.get h0.next = some (.box B)
  vs : VS kV vals h
  keep : ∀ k, k < h0.next → k ≠ kV → h.get k = h0.get k
  kpv : h0.next ≤ h.low → h.get kV = h0.get kV
  low : ∀ b, b ≤ h0.next → b ≤ kV → b ≤ h.low
  next : h0.next < h.next
theorem HQ_vr {kV : Nat} {B : List AV} {h0 h1 : AH} {vals : List LL} (J : J100 kV B h0 h1 vals) (hk : kV < h0.next) {rs : List ARes} {r : Option (List LL × Bool)} {tm : Tm} {rnd : Option Nat} {f : FuncId} {e : AEx} {ws : List AV} (he : e = .normal ∨ e = .ret) (hv : evRes rs tm h1 = some ws)
    (hf : frz 4 h1 h0.next (AG.one ws) = AG.one ws) (hr : match r with | some (vals', ch) => AG.one ws = .tup [.bool ch, .int .i64 0] ∧ vals' = vals | none => AG.one ws = .tup [.bool false, .int .i64 15]) : HQ h0 rs (Vr kV h0 r) e ⟨tm, ⟨[], .no, rnd, f⟩⟩ h1 := by
  obtain ⟨b3, vs, keep, kpv, low, next⟩ := J
  by_cases hl : h0.next ≤ h1.low
  · refine HQ_keep he hl hv ⟨⟨by show h0.next ≤ h1.next; omega, fun k hk _ => rfl, fun b h1 h2 => h1⟩, ?_⟩
    rw [hf]
    cases r with
    | none => exact hr
    | some p =>
      obtain ⟨vals', ch⟩ := p
      obtain ⟨hr1, rfl⟩ := hr
      exact ⟨hr1, vs.mono (Nat.le_refl _) (by show h0.get kV = _; exact (kpv hl).symm)⟩
  · refine HQ_turn he hl hv ⟨⟨by show h0.next ≤ h1.next; omega, fun k h1 h2 => keep k h1 h2, fun b h1 h2 => le_minN (low b (by omega) h2) h1⟩, ?_⟩
    cases r with
    | none => exact hr
    | some p =>
      obtain ⟨vals', ch⟩ := p
      obtain ⟨hr1, rfl⟩ := hr
      exact ⟨hr1, vs.mono (Nat.le_refl _) rfl⟩
def I100 (kV : Nat) (B : List AV) (n : Nat) (high : LL) (ps : List LL) (PA : AV) (vals0 : List LL) (h0 : AH) (j : Nat) (fr : AF) (h : AH) : Prop := ∃ tm m vals ch, m + j = ps.length ∧ fr = ⟨tm, ⟨[], .no, none, 100⟩⟩ ∧ J100 kV B h0 h vals ∧
  (ps.take m).foldl (stepP high) (some (vals0, false)) = some (vals, ch) ∧ (∀ y ∈ vals, Pm y) ∧ vals.length = n ∧
  nth tm 0 = .row kV 0 2 0 n ∧ nth tm 3 = .ptr h0.next 0 0 ∧ nth tm 8 = .bool ch ∧ nth tm 9 = PA ∧ nth tm 10 = .int .i64 (m : Int)
theorem call100 {K : CallF} (hK : Runs K) (hv : KV K) (m0 : Nat) (kV : Nat) (low high : LL) (al ah : AV) (Vl Vh : AV) (vals : List LL) (h : AH) (eal : al = .agg [.int .i64 low.c, Vl]) (eah : ah = .agg [.int .i64 high.c, Vh]) (hal : Lv al low) (hah : Lv ah high) (hs : VS kV vals h)
    (v1 : VL low) (v2 : VL high) (s1 : Sc vals.length low) (s2 : Sc vals.length high) (l1 : low.vars.length ≤ 10) (l2 : high.vars.length ≤ 10) (hp : ∀ y ∈ vals, Pm y) (hn : vals.length ≤ 5000) :
    ∃ v h', evFn EF (cK K (m0 + 6)) 30000 100 [.row kV 0 2 0 vals.length, .agg [.int .i64 low.c, Vl, .int .i64 high.c, Vh]] .no h = some (.ret v, .no, h') ∧ Vr kV h (visP low high vals) v h' := by
  have kV_lt := hs.lt
  subst eal eah
  obtain ⟨_, z1, _, vlc, vll, vlf, _, _⟩ := hal.ex
  cases z1
  obtain ⟨_, z2, _, vhc, vhl, vhf, _, _⟩ := hah.ex
  cases z2
  refine evFn_H cf100 (pureF _) ?_
  unfold b100
  obtain ⟨B, hB⟩ : ∃ B, B = [AV.int .i64 low.c, Vl, .int .i64 high.c, Vh] := ⟨_, rfl⟩
  obtain ⟨ob, hob⟩ : ∃ ob, ob = h.objs.put h.next (.box B) := ⟨_, rfl⟩
  have g3 : ob.get h.next = some (.box B) := by rw [hob, Tr.get_put_same]
  have gk : ∀ k, k < h.next → ob.get k = h.get k := fun k hk => by rw [hob, Tr.get_put_other _ _ (by omega)]; rfl
  obtain ⟨v, nx1, w1, w2, a6, rfl, w3⟩ := c142 hK hv (m0 + 2) _ low (.row kV 0 2 0 vals.length) vals ⟨h.next + 1, h.next, ob⟩ hal (hs.rd.mono (by show h.next ≤ h.next + 1; omega) gk) l1 (by omega) (fun y hy => by have := (hp y hy).len; omega) v1 (fun y hy => (hp y hy).vl)
  have w1 : h.next + 1 ≤ nx1 := w1
  obtain ⟨A6, e6, _, e6c, e6l, _, _, _⟩ := w3.ex
  rw [e6] at w2
  have r1 : ∀ (a b c d : AV) , evBox ⟨h.next, h.next, h.objs⟩ 4 (.agg [a, b, c, d]) = .val (.ptr h.next 0 0) ⟨h.next + 1, h.next, h.objs.put h.next (.box [a, b, c, d])⟩ := fun _ _ _ _ => rfl
  subst hB
  simp only [go_sem, Nat.reduceAdd]
  rw [← hob]
  simp only [go_sem, Nat.reduceEqDiff, Nat.reduceAdd, Nat.reduceLeDiff, reduceCtorEq, s100_14, g3, w2]
  have J0 : ∀ x y lo nx, h.next ≤ lo → nx1 < nx → J100 kV [AV.int .i64 low.c, Vl, .int .i64 high.c, Vh] h ⟨nx, lo, (ob.put nx1 x).put nx1 y⟩ vals := fun x y lo nx hlo hnx =>
    ⟨by rw [get_mk, Tr.get_put_other _ _ (by omega), Tr.get_put_other _ _ (by omega)]; exact g3, hs.mono (by show h.next ≤ nx; omega) (by rw [get_mk, Tr.get_put_other _ _ (by omega), Tr.get_put_other _ _ (by omega)]; exact gk _ (by omega)),
      fun k h1 _ => by rw [get_mk, Tr.get_put_other _ _ (by omega), Tr.get_put_other _ _ (by omega)]; exact gk _ h1, fun _ => by rw [get_mk, Tr.get_put_other _ _ (by omega), Tr.get_put_other _ _ (by omega)]; exact gk _ (by omega), fun b h1 _ => Nat.le_trans h1 hlo, by show h.next < nx; omega⟩
  by_cases he : (repR low vals).2 = 0
  · have hz : decide ((repR low vals).2 = 0) = true := decide_eq_true he
    have pm := repR_Pm hp v1 s1 he
    have n6 : ¬ (nx1 = h.next) := by omega
    have evis : visP low high vals = (partsR (repR low vals).1).foldl (stepP high) (some (vals, false)) := if_pos he
    obtain ⟨ob2, hob2⟩ : ∃ ob2, ob2 = (ob.put nx1 (.box [.int .i64 0, .nils])).put nx1 (.box [.int .i64 (repR low vals).1.c, A6]) := ⟨_, rfl⟩
    have g6 : ob2.get nx1 = some (.box [.int .i64 (repR low vals).1.c, A6]) := by rw [hob2, Tr.get_put_same]
    have w3' := w3
    rw [e6] at w3'
    obtain ⟨v9, nx9, f1, f2, rfl⟩ := c143 hK (m0 + 5) (repR low vals).1 _ ⟨nx1 + 1, minN nx1 h.next, ob2⟩ w3' (by have := pm.len; omega)
    have f1 : nx1 + 1 ≤ nx9 := f1
    have lenp : (partsR (repR low vals).1).length ≤ 9 := by
      have := pm.len
      unfold partsR
      split <;> simp <;> omega
    have hlen : ∀ H, lenOf (.lst (partsA (repR low vals).1)) H 1 = some (partsR (repR low vals).1).length := fun H => by rw [len_lst, partsA_len]
    have JJ := J0 (.box [.int .i64 0, .nils]) (.box [.int .i64 (repR low vals).1.c, A6]) (minN nx1 h.next) nx9 (by (repeat' (first | assumption | exact Nat.le_refl _ | apply le_minN)) <;> omega) (by omega)
    rw [← hob2] at JJ
    rw [evis]
    simp only [go_sem, s100_13, hz]
    rw [← hob2]
    simp only [go_sem, Nat.reduceEqDiff, Nat.reduceAdd, s100_12, s100_11, g6, f2, s100_10]
    refine R_loop (I100 kV [AV.int .i64 low.c, Vl, .int .i64 high.c, Vh] vals.length high (partsR (repR low vals).1) (.lst (partsA (repR low vals).1)) vals h) (partsR (repR low vals).1).length (by omega) ⟨_, 0, vals, false, Nat.zero_add _, rfl, JJ, rfl, hp, rfl, by simp only [go_sem, reduceCtorEq], by simp only [go_sem, Nat.reduceEqDiff], by simp only [go_sem, Nat.reduceEqDiff], by simp only [go_sem, Nat.reduceEqDiff], by simp only [go_sem]; rfl⟩ ?_
    clear JJ g6 f1 f2 hob2
    rintro j fr H ⟨tm, q, vals1, ch, hq, rfl, J, hf, hp1, hl1, t0, t3, t8, t9, t10⟩
    have J' := J
    obtain ⟨j1, j2, j3, j4, j5, j6⟩ := J'
    obtain ⟨nx, lo, ob3⟩ := H
    have j1 : ob3.get h.next = some (.box [AV.int .i64 low.c, Vl, .int .i64 high.c, Vh]) := j1
    have j6 : h.next < nx := j6
    unfold b100_8
    simp only [go_sem, Nat.reduceEqDiff, t9, t10, hlen]
    refine sB_dec (fun hlt => ?_) (fun hge => ?_)
    · have hlt : q < (partsR (repR low vals).1).length := by omega
      obtain ⟨p, hpq⟩ : ∃ p, (partsR (repR low vals).1)[q]? = some p := ⟨_, List.getElem?_eq_getElem hlt⟩
      obtain ⟨pp, ap, hap, hpp⟩ := (parts_RdL (repR low vals).1 0 ⟨0, 0, .lf⟩).get q p hpq
      have hpi := fun H => (hpp H (fun k hk => absurd hk (by omega))).1
      have hpl := fun H => (hpp H (fun k hk => absurd hk (by omega))).2
      obtain ⟨pmp, pml⟩ := parts_Pm pm p (List.mem_of_getElem? hpq)
      have hw2 := wrap_succ q (by omega)
      have hfold : ((partsR (repR low vals).1).take (q + 1)).foldl (stepP high) (some (vals, false)) = stepP high (some (vals1, ch)) p := by rw [take_succ_get hpq, List.foldl_append, hf]; rfl
      have hrest : (partsR (repR low vals).1).foldl (stepP high) (some (vals, false)) = ((partsR (repR low vals).1).drop (q + 1)).foldl (stepP high) (stepP high (some (vals1, ch)) p) := by
        rw [← hfold, ← List.foldl_append, List.take_append_drop]
      rw [← hl1] at t0 s2
      obtain ⟨v, nx1, w1, w2, a11, rfl, w3⟩ := c142 hK hv (m0 + 2) _ high (.row kV 0 2 0 vals1.length) vals1 ⟨nx, lo, ob3⟩ hah (j2.rd) l2 (by omega) (fun y hy => by have := (hp1 y hy).len; omega) v2 (fun y hy => (hp1 y hy).vl)
      have w1 : nx ≤ nx1 := w1
      obtain ⟨A11, e11, _, e11c, e11l, _, _, _⟩ := w3.ex
      rw [e11] at w2
      have w3' := w3
      rw [e11] at w3'
      have jlo : ∀ b, b ≤ h.next → b ≤ kV → b ≤ lo := j5
      have JJ : ∀ lo' ob' nx', nx ≤ nx' → (∀ k, k < nx → ob'.get k = ob3.get k) → (∀ b, b ≤ h.next → b ≤ lo → b ≤ lo') → lo' ≤ lo → J100 kV [AV.int .i64 low.c, Vl, .int .i64 high.c, Vh] h ⟨nx', lo', ob'⟩ vals1 := fun lo' ob' nx' y1 y2 y3 y4 =>
        ⟨(y2 _ j6).trans j1, j2.mono y1 (y2 _ (by omega)), fun k z1 z2 => (y2 k (by omega)).trans (j3 k z1 z2), fun z => (y2 _ (by omega)).trans (j4 (by show h.next ≤ lo; have z : h.next ≤ lo' := z; omega)), fun b z1 z2 => y3 b z1 (jlo b z1 z2), by show h.next < nx'; omega⟩
      by_cases he1 : (repR high vals1).2 = 0
      · have hz1 : decide ((repR high vals1).2 = 0) = true := decide_eq_true he1
        have pmh := repR_Pm hp1 v2 s2 he1
        obtain ⟨ob4, hob4⟩ : ∃ ob4, ob4 = (ob3.put nx1 (.box [.int .i64 0, .nils])).put nx1 (.box [.int .i64 (repR high vals1).1.c, A11]) := ⟨_, rfl⟩
        have k4 : ∀ k, k < nx → ob4.get k = ob3.get k := fun k hk => by rw [hob4, Tr.get_put_other _ _ (by omega), Tr.get_put_other _ _ (by omega)]
        have g11 : ob4.get nx1 = some (.box [.int .i64 (repR high vals1).1.c, A11]) := by rw [hob4, Tr.get_put_same]
        have g3' : ob4.get h.next = some (.box [AV.int .i64 low.c, Vl, .int .i64 high.c, Vh]) := (k4 _ j6).trans j1
        obtain ⟨nx2, x1, x2⟩ := c144 hK hv (m0 + 5) p (repR high vals1).1 ap _ ⟨nx1 + 1, minN nx1 lo, ob4⟩ hap w3' (by omega) (by have := pmh.len; omega) pmp.vl pmh.vl
        have x1 : nx1 + 1 ≤ nx2 := x1
        simp only [go_sem, Nat.reduceEqDiff, Nat.reduceAdd, reduceCtorEq, s100_7, t3, j1, t0, w2, s100_6, hz1]
        rw [← hob4]
        simp only [go_sem, Nat.reduceEqDiff, Nat.reduceAdd, s100_5, t9, t10, hpi, hpl, g11, x2]
        by_cases hleq : leqB p (repR high vals1).1 = true
        · rw [hleq]
          simp only [go_sem, Nat.reduceEqDiff, t10, hw2]
          refine ⟨j - 1, by omega, _, q + 1, vals1, ch, by omega, rfl, JJ _ _ _ (by omega) k4 (fun b z1 z2 => le_minN (by omega) z2) (minN_le_r _ _), ?_, hp1, hl1, by simp only [go_sem, reduceCtorEq, t0, hl1], by simp only [go_sem, Nat.reduceEqDiff, t3], by simp only [go_sem, Nat.reduceEqDiff, t8], by simp only [go_sem, Nat.reduceEqDiff, t9], by simp only [go_sem]⟩
          rw [hfold]
          show (if (repR high vals1).2 = 0 then if leqB p (repR high vals1).1 = true then some (vals1, ch) else _ else none) = _
          rw [if_pos he1, if_pos hleq]
        · have hleq' : leqB p (repR high vals1).1 = false := by
            cases h : leqB p (repR high vals1).1 with
            | true => exact absurd h hleq
            | false => rfl
          rw [hleq']
          obtain ⟨nx3, y1, y2⟩ := c145 hK (m0 + 5) high _ ⟨nx2, minN nx1 lo, ob4⟩ hah (by omega) v2
          have y1 : nx2 ≤ nx3 := y1
          obtain ⟨q1, q2, q3⟩ := piv_of v2 s2
          simp only [go_sem, Nat.reduceEqDiff, Nat.reduceAdd, s100_4, t3, g3', y2, s100_3]
          by_cases hneg : (pivR high.vars).1 < 0
          · have hzn : decide ((pivR high.vars).1 < 0) = true := decide_eq_true hneg
            have hst : stepP high (some (vals1, ch)) p = none := by
              show (if (repR high vals1).2 = 0 then if leqB p (repR high vals1).1 = true then some (vals1, ch) else if (pivR high.vars).1 < 0 then none else _ else none) = _
              rw [if_pos he1, if_neg hleq, if_pos hneg]
            rw [hrest, hst, stepP_none]
            simp only [go_sem, hzn]
            exact HQ_vr (JJ _ _ _ (by omega) k4 (fun b z1 z2 => le_minN (by omega) z2) (minN_le_r _ _)) kV_lt (.inr rfl) (by simp only [go_sem, Nat.reduceEqDiff, r100]; rfl) (by rw [one_2, frz_tupS]; simp only [List.map_cons, List.map_nil, frz_int, frz_bool]) rfl
          · have hzn : decide ((pivR high.vars).1 < 0) = false := decide_eq_false hneg
            obtain ⟨i, hi⟩ : ∃ i : Nat, (pivR high.vars).1 = (i : Int) := ⟨(pivR high.vars).1.toNat, by omega⟩
            have hil : i < vals1.length := by omega
            obtain ⟨y, hy⟩ : ∃ y, vals1[i]? = some y := ⟨_, List.getElem?_eq_getElem hil⟩
            have hst : stepP high (some (vals1, ch)) p = some (vals1.set i (joinR y (lowR p (pivR high.vars).2)), true) := by
              show (if (repR high vals1).2 = 0 then if leqB p (repR high vals1).1 = true then some (vals1, ch) else if (pivR high.vars).1 < 0 then none else (match vals1[(pivR high.vars).1.toNat]? with
                | some y => some (vals1.set (pivR high.vars).1.toNat (joinR y (lowR p (pivR high.vars).2)), true)
                | none => none) else none) = _
              rw [if_pos he1, if_neg hleq, if_neg hneg, hi, Int.toNat_natCast, hy]
            have py := hp1 y (List.mem_of_getElem? hy)
            obtain ⟨ob5, hob5⟩ : ∃ ob5, ob5 = ob4.put nx3 (.box [.int .i64 0, .nils]) := ⟨_, rfl⟩
            have k5 : ∀ k, k < nx → ob5.get k = ob3.get k := fun k hk => by rw [hob5, Tr.get_put_other _ _ (by omega)]; exact k4 k hk
            have vs5 : VS kV vals1 ⟨nx3 + 1, minN nx1 lo, ob5⟩ := j2.mono (by show nx ≤ nx3 + 1; omega) (k5 _ (by omega))
            obtain ⟨py', ay, hay, hpy⟩ := vs5.rd.get i y hy
            have hyi := fun nx' lo' => (hpy ⟨nx', lo', ob5⟩ (fun _ _ => rfl)).1
            have hyl := fun nx' lo' => (hpy ⟨nx', lo', ob5⟩ (fun _ _ => rfl)).2
            have pmc := pmp.vl.c0
            have pmc1 := pmp.vl.c1
            obtain ⟨a66, nx4, b1, b2, b3⟩ := c147 hK (m0 + 5) p (pivR high.vars).2 ap ⟨nx3 + 1, minN nx1 lo, ob5⟩ hap pml ⟨pmc, by omega⟩ (fun x hx => by have := pmp.vl.plus x hx; omega) ⟨q1, by omega⟩
            have b1 : nx3 + 1 ≤ nx4 := b1
            have plow := low_Pm pmp q1
            obtain ⟨v67, nx5, d1, d2, a67, rfl, d3⟩ := c146 hK hv (m0 + 4) y (lowR p (pivR high.vars).2) ay a66 ⟨nx4, minN nx1 lo, ob5⟩ hay b3 (by have := py.len; omega) (by have := plow.len; omega) py.vl plow.vl
            have d1 : nx4 ≤ nx5 := d1
            obtain ⟨A67, e67, _, e67c, e67l, _, _, _⟩ := d3.ex
            have d3' := d3
            rw [e67] at d2 d3'
            have bqy := hay.bq
            have bqp := hap.bq
            have g15' : ob5.get nx3 = some (.box [.int .i64 0, .nils]) := by rw [hob5, Tr.get_put_same]
            obtain ⟨ob6, hob6⟩ : ∃ ob6, ob6 = ob5.put nx3 (.box [.int .i64 (joinR y (lowR p (pivR high.vars).2)).c, A67]) := ⟨_, rfl⟩
            have g15 : ob6.get nx3 = some (.box [.int .i64 (joinR y (lowR p (pivR high.vars).2)).c, A67]) := by rw [hob6, Tr.get_put_same]
            have k6 : ∀ k, k < nx → ob6.get k = ob3.get k := fun k hk => by rw [hob6, Tr.get_put_other _ _ (by omega)]; exact k5 k hk
            have J6 := JJ (minN nx3 (minN nx1 lo)) ob6 nx5 (by omega) k6 (fun b z1 z2 => le_minN (by omega) (le_minN (by omega) z2)) (Nat.le_trans (minN_le_r _ _) (minN_le_r _ _))
            obtain ⟨o, st1, st2⟩ := J6.vs.store hil d3'
            have ria := fun H => row_iaddr (k := kV) (g := 0) hil H
            rw [← hi] at hyi ria
            simp only [go_sem, Nat.reduceEqDiff, reduceCtorEq, hzn, s100_2, t0]
            rw [← hob5]
            simp only [go_sem, Nat.reduceEqDiff, Nat.reduceAdd, Nat.reduceLT, t9, t10, hpi, hpl, hyi, hyl, b2, d2, bqy, g15']
            rw [← hob6]
            simp only [go_sem, Nat.reduceEqDiff, Nat.reduceAdd, reduceCtorEq, s100_1, s100_0, t0, t10, g15, ria, st1, hw2]
            obtain ⟨n1, n2, n3, n4, n5, n6⟩ := J6
            have n1 : ob6.get h.next = some (.box [AV.int .i64 low.c, Vl, .int .i64 high.c, Vh]) := n1
            have n3 : ∀ k, k < h.next → k ≠ kV → ob6.get k = h.get k := n3
            have n5 : ∀ b, b ≤ h.next → b ≤ kV → b ≤ minN nx3 (minN nx1 lo) := n5
            refine ⟨j - 1, by omega, _, q + 1, vals1.set i (joinR y (lowR p (pivR high.vars).2)), true, by omega, rfl, ⟨?_, st2, fun k z1 z2 => ?_, fun z => ?_, fun b z1 z2 => le_minN z2 (n5 b z1 z2), n6⟩, by rw [hfold, hst], fun z hz => ?_, by simp [hl1], by simp only [go_sem, reduceCtorEq, t0, hl1], by simp only [go_sem, Nat.reduceEqDiff, t3], by simp only [go_sem, Nat.reduceEqDiff], by simp only [go_sem, Nat.reduceEqDiff, t9], by simp only [go_sem]⟩
            · rw [get_mk, Tr.get_put_other _ _ (by omega)]; exact n1
            · rw [get_mk, Tr.get_put_other _ _ z2]; exact n3 k z1 z2
            · exfalso
              have z : h.next ≤ minN kV (minN nx3 (minN nx1 lo)) := z
              have : minN kV (minN nx3 (minN nx1 lo)) ≤ kV := minN_le _ _
              omega
            · rcases List.mem_or_eq_of_mem_set hz with hz | hz
              · exact hp1 z hz
              · rw [hz]; exact py.join plow
      · have hz1 : decide ((repR high vals1).2 = 0) = false := decide_eq_false he1
        have hst : stepP high (some (vals1, ch)) p = none := by
          show (if (repR high vals1).2 = 0 then _ else none) = _
          rw [if_neg he1]
        rw [hrest, hst, stepP_none]
        simp only [go_sem, Nat.reduceEqDiff, Nat.reduceAdd, reduceCtorEq, s100_7, t3, j1, t0, w2, s100_6, hz1]
        exact HQ_vr (JJ _ _ _ (by omega) (fun k hk => by rw [Tr.get_put_other _ _ (by omega), Tr.get_put_other _ _ (by omega)]) (fun b z1 z2 => le_minN (by omega) z2) (minN_le_r _ _)) kV_lt (.inr rfl) (by simp only [go_sem, Nat.reduceEqDiff, r100]; rfl) (by rw [one_2, frz_tupS]; simp only [List.map_cons, List.map_nil, frz_int, frz_bool]) rfl
    · have hme : q = (partsR (repR low vals).1).length := by omega
      subst hme
      rw [List.take_length] at hf
      rw [hf]
      simp only [go_sem, Nat.reduceEqDiff, s100_9, t8]
      exact HQ_vr J kV_lt (.inr rfl) (by simp only [go_sem, Nat.reduceEqDiff, r100]; rfl) (by rw [one_2, frz_tupS]; simp only [List.map_cons, List.map_nil, frz_int, frz_bool]) ⟨rfl, rfl⟩
  · have hz : decide ((repR low vals).2 = 0) = false := decide_eq_false he
    have evis : visP low high vals = none := if_neg he
    rw [evis]
    simp only [go_sem, s100_13, hz]
    exact HQ_vr (J0 _ _ _ _ (by (repeat' (first | assumption | exact Nat.le_refl _ | apply le_minN)) <;> omega) (by omega)) kV_lt (.inr rfl) (by simp only [go_sem, Nat.reduceEqDiff, r100]; rfl) (by rw [one_2, frz_tupS]; simp only [List.map_cons, List.map_nil, frz_int, frz_bool]) rfl
theorem c100 {K : CallF} (hK : Runs K) (hv : KV K) (m0 : Nat) (kV : Nat) (low high : LL) (al ah : AV) (Vl Vh : AV) (vals : List LL) (h : AH) (eal : al = .agg [.int .i64 low.c, Vl]) (eah : ah = .agg [.int .i64 high.c, Vh]) (hal : Lv al low) (hah : Lv ah high) (hs : VS kV vals h)
    (v1 : VL low) (v2 : VL high) (s1 : Sc vals.length low) (s2 : Sc vals.length high) (l1 : low.vars.length ≤ 10) (l2 : high.vars.length ≤ 10) (hp : ∀ y ∈ vals, Pm y) (hn : vals.length ≤ 5000) :
    ∃ v h', cK K (m0 + 7) (.fn 100 [] []) [.row kV 0 2 0 vals.length, .agg [.int .i64 low.c, Vl, .int .i64 high.c, Vh]] .no h = some (.ret v, .no, h') ∧ Vr kV h (visP low high vals) v h' := by
  rw [cK_run hK _ 100]
  exact call100 hK hv m0 kV low high al ah Vl Vh vals h eal eah hal hah hs v1 v2 s1 s2 l1 l2 hp hn
end Go.Proofs.YtnacljdablhbgaaGreat
