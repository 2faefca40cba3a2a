/- SolverFinishes: one visit of a bound by the program (no condition). -/
import Derived.Test.YtnacljdablhbgaaGreatDk
namespace Go.Proofs.YtnacljdablhbgaaGreat
open Go.AG
structure C99 (kV n : Nat) (B : List AV) (pk : Nat) (h0 h : AH) : Prop where
  b2 : h.get h0.next = some (.box [.row kV 0 2 0 n])
  b3 : h.get (h0.next + 1) = some (.box B)
  mrk : h.get pk = some (.dfd false)
  keep : ∀ k, k < h0.next → k ≠ kV → h.get k = h0.get k
  kpv : h.get kV = h0.get kV ∨ h.low ≤ kV
  low : kV ≤ h.low
structure S99 (kV n : Nat) (B : List AV) (tm0 : Tm) (p8 pk pl : Nat) (h0 : AH) (vs : List LL) (ch : Bool) (h : AH) : Prop where
  c : C99 kV n B pk h0 h
  b4 : h.get (h0.next + 2) = some (.box [.bool false])
  b5 : h.get (h0.next + 3) = some (.box [.int .i64 0])
  b8 : h.get p8 = some (.box [.bool ch])
  lp : h.get pl = some (.loop .ready none tm0 [26] b99_0 b99_7 99)
  vv : VS kV vs h
  len : vs.length = n
  pm : ∀ y ∈ vs, Pm y
structure D99 (kV n : Nat) (B : List AV) (tm0 : Tm) (pk pl : Nat) (h0 h : AH) : Prop where
  c : C99 kV n B pk h0 h
  b4 : h.get (h0.next + 2) = some (.box [.bool false])
  b5 : h.get (h0.next + 3) = some (.box [.int .i64 15])
  lp : h.get pl = some (.loop .done (some .ret) tm0 [26] b99_0 b99_7 99)
theorem C99.mono {kV n : Nat} {B : List AV} {pk : Nat} {h0 h h' : AH} (c : C99 kV n B pk h0 h) (hk : kV < h0.next) (h3 : h0.next + 4 ≤ pk) (hp : pk < h.next) (hg : ∀ k, k < h.next → h'.get k = h.get k) (hl : kV ≤ h'.low) (hl' : h'.low ≤ h.low) : C99 kV n B pk h0 h' := by
  obtain ⟨b2, b3, mrk, keep, kpv, low⟩ := c
  refine ⟨(hg _ (by omega)).trans b2, (hg _ (by omega)).trans b3, (hg _ hp).trans mrk, fun k h1 h2 => (hg k (by omega)).trans (keep k h1 h2), ?_, hl⟩
  rcases kpv with h | h
  · exact .inl ((hg _ (by omega)).trans h)
  · exact .inr (by omega)
def E99 (l : Nat) (P : Bool → AH → Prop) (e2 : AEx) (fr2 : AF) (h3 : AH) : Prop := fr2.cx.dfs = [] ∧ ((e2 = .normal ∧ ∃ h4, yldSet h3 l .ready none = some h4 ∧ P true h4) ∨ (e2 = .ret ∧ ∃ h4, yldSet h3 l .done (some .ret) = some h4 ∧ P false h4))
def P99 (kV n : Nat) (B : List AV) (tm0 : Tm) (p8 pc pk pl : Nat) (h0 h : AH) (r : Option (List LL × Bool)) (t : Bool) (h' : AH) : Prop := h.next ≤ h'.next ∧ h'.get pc = h.get pc ∧ h'.low < pl + 1 ∧ match r with | some (vs', ch') => t = true ∧ S99 kV n B tm0 p8 pk pl h0 vs' ch' h' | none => t = false ∧ D99 kV n B tm0 pk pl h0 h'
theorem rd99 {K : CallF} (hK : Runs K) (hv : KV K) (hs : KS K) (m0 kV n p8 pc pk pl : Nat) (low high : LL) (Vl Vh : AV) (hah : Lv (.agg [.int .i64 high.c, Vh]) high) (v2 : VL high) (s2 : Sc n high) (l2 : high.vars.length ≤ 10) (hn : n ≤ 5000) (tm0 : Tm) (h0 : AH) (hkV : kV < h0.next)
    (t2 : nth tm0 2 = .ptr h0.next 0 0) (t3 : nth tm0 3 = .ptr (h0.next + 1) 0 0) (t4 : nth tm0 4 = .ptr (h0.next + 2) 0 0) (t5 : nth tm0 5 = .ptr (h0.next + 3) 0 0) (t8 : nth tm0 8 = .ptr p8 0 0) (o1 : h0.next + 4 ≤ p8) (o2 : p8 < pc) (o3 : pc < pk) (o4 : pk < pl)
    (vs : List LL) (ch : Bool) (p : LL) (ap : AV) (h : AH) (J : S99 kV n [.int .i64 low.c, Vl, .int .i64 high.c, Vh] tm0 p8 pk pl h0 vs ch h) (htop : pl + 1 ≤ h.next) (pmp : Pm p) (pml : p.vars.length ≤ 1) (hap : Lv ap p) :
    ∃ t h', cK K (m0 + 11) (.yld pl) [ap] .no h = some (.ret (.bool t), .no, h') ∧ P99 kV n [.int .i64 low.c, Vl, .int .i64 high.c, Vh] tm0 p8 pc pk pl h0 h (stepP high (some (vs, ch)) p) t h' := by
  rw [cK_yld hK]
  obtain ⟨⟨b2, b3, mrk, keep, kpv, low'⟩, b4, b5, b8, lp, vv, len, pm⟩ := J
  obtain ⟨nx, lo, ob⟩ := h
  obtain ⟨Vp, rfl, _, vpc, vpl, vpf, _, _⟩ := hap.ex
  obtain ⟨_, z2, _, vhc, vhl, vhf, _, _⟩ := hah.ex
  cases z2
  have htop : pl + 1 ≤ nx := htop
  have lp : ob.get pl = some (.loop .ready none tm0 [26] b99_0 b99_7 99) := lp
  have m1 : ¬ (pl = nx) := by omega
  refine yld_R2 (P := P99 kV n [.int .i64 low.c, Vl, .int .i64 high.c, Vh] tm0 p8 pc pk pl h0 ⟨nx, lo, ob⟩ (stepP high (some (vs, ch)) p)) lp rfl ?_
  unfold b99_0
  show R _ _ _ _ _ ⟨tm0.put 26 (.agg [.int .i64 p.c, Vp]), _⟩ _
  simp only [go_sem, Nat.reduceEqDiff, Nat.reduceAdd]
  refine ⟨_, yldBegin_at (by simp only [go_sem, m1]; exact lp), ?_⟩
  show R _ _ _ (E99 pl (P99 kV n [.int .i64 low.c, Vl, .int .i64 high.c, Vh] tm0 p8 pc pk pl h0 ⟨nx, lo, ob⟩ (stepP high (some (vs, ch)) p))) _ _ _
  simp only [go_sem]
  obtain ⟨ob2, hob2⟩ : ∃ ob2, ob2 = ((ob.put nx (.box [.int .i64 0, .nils])).put nx (.box [.int .i64 p.c, Vp])).put pl (.loop .busy none tm0 [26] b99_0 b99_7 99) := ⟨_, rfl⟩
  rw [← hob2]
  unfold b99_7
  have gk : ∀ k, k < nx → k ≠ pl → ob2.get k = ob.get k := fun k h1 h2 => by rw [hob2, Tr.get_put_other _ _ h2, Tr.get_put_other _ _ (by omega), Tr.get_put_other _ _ (by omega)]
  have g9 : ob2.get nx = some (.box [.int .i64 p.c, Vp]) := by rw [hob2, Tr.get_put_other _ _ (by omega), Tr.get_put_same]
  have g2 : ob2.get h0.next = some (.box [.row kV 0 2 0 n]) := (gk _ (by omega) (by omega)).trans b2
  have g3 : ob2.get (h0.next + 1) = some (.box [.int .i64 low.c, Vl, .int .i64 high.c, Vh]) := (gk _ (by omega) (by omega)).trans b3
  have nkp : kV ≠ pl := by omega
  have vv2 : ∀ nx' lo' ob', nx ≤ nx' → (∀ k, k < nx → k ≠ pl → ob'.get k = ob.get k) → VS kV vs ⟨nx', lo', ob'⟩ := fun nx' lo' ob' z1 z2 => vv.mono z1 (z2 _ vv.lt nkp)
  have hvv := fun y hy => (pm y hy).vl
  obtain ⟨v, nx1, w1, w2, a11, rfl, w3⟩ := c115 hK hv hs (m0 + 1) _ high (.row kV 0 2 0 vs.length) vs ⟨nx + 1, minN pl (minN nx lo), ob2⟩ hah ((vv2 (nx + 1) (minN pl (minN nx lo)) ob2 (by omega) gk).rd) (by omega) (by omega) (fun y hy => by have := (pm y hy).len; omega) v2 hvv
  rw [(asg_rep v2 hvv).1] at w2 w3
  have w1 : nx + 1 ≤ nx1 := w1
  obtain ⟨A11, e11, _, e11c, e11l, _, _, _⟩ := w3.ex
  rw [e11] at w2
  have w3' := w3
  rw [e11] at w3'
  rw [len] at w2
  obtain ⟨ob3, hob3⟩ : ∃ ob3, ob3 = (ob2.put nx1 (.box [.int .i64 0, .nils])).put nx1 (.box [.int .i64 (repR high vs).1.c, A11]) := ⟨_, rfl⟩
  simp only [go_sem, Nat.reduceEqDiff, Nat.reduceAdd, t2, t3, g2, g3, w2, s99_6]
  rw [← hob3]
  have low' : kV ≤ lo := low'
  have keep : ∀ k, k < h0.next → k ≠ kV → ob.get k = h0.get k := keep
  have kpv : ob.get kV = h0.get kV ∨ lo ≤ kV := kpv
  have b2 : ob.get h0.next = _ := b2
  have b3 : ob.get (h0.next + 1) = _ := b3
  have mrk : ob.get pk = _ := mrk
  have b4 : ob.get (h0.next + 2) = some (.box [.bool false]) := b4
  have b5 : ob.get (h0.next + 3) = some (.box [.int .i64 0]) := b5
  have bad : ∀ (X : ACode) tm nx' lo' ob', nx ≤ nx' → (∀ k, k < nx → k ≠ pl → ob'.get k = ob.get k) → ob'.get pl = some (.loop .busy none tm0 [26] b99_0 b99_7 99) → kV ≤ lo' → lo' ≤ lo → lo' ≤ pl → nth tm 4 = .ptr (h0.next + 2) 0 0 → nth tm 5 = .ptr (h0.next + 3) 0 0 → stepP high (some (vs, ch)) p = none →
      R (cK K (m0 + 10)) 30000 [.code ((ACode.region [⟨none, .store 1 (.t 4) (.c (.bool false)), none⟩, ⟨none, .store 1 (.t 5) (.c (.int .i64 15)), none⟩]).seq .ret), .code X, .out 1]
        (E99 pl (P99 kV n [.int .i64 low.c, Vl, .int .i64 high.c, Vh] tm0 p8 pc pk pl h0 ⟨nx, lo, ob⟩ (stepP high (some (vs, ch)) p))) .normal ⟨tm, ⟨[], .no, some pl, 99⟩⟩ ⟨nx', lo', ob'⟩ := by
    intro X tm nx' lo' ob' z1 z2 z3 z4 z5 z6 u4 u5 hst
    have y4 : ob'.get (h0.next + 2) = some (.box [.bool false]) := (z2 _ (by omega) (by omega)).trans b4
    have y5 : ob'.get (h0.next + 3) = some (.box [.int .i64 0]) := (z2 _ (by omega) (by omega)).trans b5
    have n45 : ¬ (h0.next + 3 = h0.next + 2) := by omega
    simp only [go_sem, u4, u5, y4, y5, n45]
    refine ⟨rfl, .inr ⟨rfl, _, yldSet_at (by rw [get_mk, Tr.get_put_other _ _ (by omega), Tr.get_put_other _ _ (by omega)]; exact z3), ?_⟩⟩
    rw [hst]
    have gg : ∀ k, k < nx → k ≠ pl → k ≠ h0.next + 2 → k ≠ h0.next + 3 → ((((ob'.put (h0.next + 2) (.box [.bool false])).put (h0.next + 3) (.box [.int .i64 15])).put pl (.loop .done (some .ret) tm0 [26] b99_0 b99_7 99))).get k = ob.get k := fun k q1 q2 q3 q4 => by
      rw [Tr.get_put_other _ _ q2, Tr.get_put_other _ _ q4, Tr.get_put_other _ _ q3]; exact z2 k q1 q2
    have lw : ∀ a b, kV ≤ a → kV ≤ b → kV ≤ minN pl (minN a (minN b lo')) := fun a b h1 h2 => by have := le_minN h1 (le_minN h2 z4); exact le_minN (by omega) this
    refine ⟨z1, gg _ (by omega) (by omega) (by omega) (by omega), ?_, rfl, ⟨(gg _ (by omega) (by omega) (by omega) (by omega)).trans b2, (gg _ (by omega) (by omega) (by omega) (by omega)).trans b3, (gg _ (by omega) (by omega) (by omega) (by omega)).trans mrk, fun k q1 q2 => (gg k (by omega) (by omega) (by omega) (by omega)).trans (keep k q1 q2), ?_, lw _ _ (by omega) (by omega)⟩, ?_, ?_, ?_⟩
    · exact Nat.lt_succ_of_le (minN_le _ _)
    · rcases kpv with q | q
      · exact .inl ((gg _ (by omega) (by omega) (by omega) (by omega)).trans q)
      · exact .inr (Nat.le_trans (minN_le_r _ _) (Nat.le_trans (minN_le_r _ _) (Nat.le_trans (minN_le_r _ _) (Nat.le_trans z5 q))))
    · simp only [go_sem]
      rw [Tr.get_put_other _ _ (by omega), Tr.get_put_other _ _ (by omega), Tr.get_put_same]
    · simp only [go_sem]
      rw [Tr.get_put_other _ _ (by omega), Tr.get_put_same]
    · simp only [go_sem]
  have n9 : ¬ (nx = nx1) := by omega
  have gk3 : ∀ k, k < nx → k ≠ pl → ob3.get k = ob.get k := fun k q1 q2 => by rw [hob3, Tr.get_put_other _ _ (by omega), Tr.get_put_other _ _ (by omega)]; exact gk k q1 q2
  have gl2 : ob2.get pl = some (.loop .busy none tm0 [26] b99_0 b99_7 99) := by rw [hob2, Tr.get_put_same]
  have gl3 : ob3.get pl = some (.loop .busy none tm0 [26] b99_0 b99_7 99) := by rw [hob3, Tr.get_put_other _ _ (by omega), Tr.get_put_other _ _ (by omega)]; exact gl2
  have g9' : ob3.get nx = some (.box [.int .i64 p.c, Vp]) := by rw [hob3, Tr.get_put_other _ _ (by omega), Tr.get_put_other _ _ (by omega)]; exact g9
  have g10 : ob3.get nx1 = some (.box [.int .i64 (repR high vs).1.c, A11]) := by rw [hob3, Tr.get_put_same]
  have hplt : pl < nx := by omega
  by_cases he : (repR high vs).2 = 0
  · have hz : decide ((repR high vs).2 = 0) = true := decide_eq_true he
    have pmh := repR_Pm pm v2 (by rw [len]; exact s2) he
    obtain ⟨nx2, x1, x2⟩ := c138 hK hv (m0 + 6) p (repR high vs).1 _ _ ⟨nx1 + 1, minN nx1 (minN pl (minN nx lo)), ob3⟩ hap w3' (by omega) (by have := pmh.len; omega) pmp.vl pmh.vl
    have x1 : nx1 + 1 ≤ nx2 := x1
    simp only [go_sem, Nat.reduceEqDiff, Nat.reduceAdd, hz, s99_5, g9', g10, x2]
    cases hleq : leqB p (repR high vs).1 with
    | true =>
      have hst : stepP high (some (vs, ch)) p = some (vs, ch) := by
        show (if (repR high vs).2 = 0 then if leqB p (repR high vs).1 = true then some (vs, ch) else _ else none) = _
        rw [if_pos he, if_pos hleq]
      rw [hst]
      simp only [go_sem]
      refine ⟨rfl, .inl ⟨rfl, _, yldSet_at gl3, ?_⟩⟩
      have gg : ∀ k, k < nx → k ≠ pl → (ob3.put pl (.loop .ready none tm0 [26] b99_0 b99_7 99)).get k = ob.get k := fun k q1 q2 => by rw [Tr.get_put_other _ _ q2]; exact gk3 k q1 q2
      have lw : kV ≤ minN pl (minN nx1 (minN pl (minN nx lo))) := le_minN (by omega) (le_minN (by omega) (le_minN (by omega) (le_minN (by omega) low')))
      refine ⟨by show nx ≤ nx2; omega, gg _ (by omega) (by omega), Nat.lt_succ_of_le (minN_le _ _), rfl, ⟨(gg _ (by omega) (by omega)).trans b2, (gg _ (by omega) (by omega)).trans b3, (gg _ (by omega) (by omega)).trans mrk, fun k q1 q2 => (gg k (by omega) (by omega)).trans (keep k q1 q2), ?_, lw⟩, (gg _ (by omega) (by omega)).trans b4, (gg _ (by omega) (by omega)).trans b5, (gg _ (by omega) (by omega)).trans b8, by simp only [go_sem], vv2 _ _ _ (by omega) gg, len, pm⟩
      rcases kpv with q | q
      · exact .inl ((gg _ (by omega) (by omega)).trans q)
      · exact .inr (Nat.le_trans (minN_le_r _ _) (Nat.le_trans (minN_le_r _ _) (Nat.le_trans (minN_le_r _ _) (Nat.le_trans (minN_le_r _ _) q))))
    | false =>
      obtain ⟨nx3, y1, y2⟩ := c139 hK (m0 + 9) high _ ⟨nx2, minN nx1 (minN pl (minN nx lo)), ob3⟩ hah (by omega) v2
      have y1 : nx2 ≤ nx3 := y1
      obtain ⟨q1, q2, q3⟩ := piv_of v2 s2
      have g3' : ob3.get (h0.next + 1) = some (.box [.int .i64 low.c, Vl, .int .i64 high.c, Vh]) := (gk3 _ (by omega) (by omega)).trans b3
      simp only [go_sem, Nat.reduceEqDiff, Nat.reduceAdd, s99_4, t3, g3', y2, s99_3]
      by_cases hneg : (pivR high.vars).1 < 0
      · have hzn : decide ((pivR high.vars).1 < 0) = true := decide_eq_true hneg
        have hst : stepP high (some (vs, ch)) p = none := by
          show (if (repR high vs).2 = 0 then if leqB p (repR high vs).1 = true then some (vs, ch) else if (pivR high.vars).1 < 0 then none else _ else none) = _
          rw [if_pos he, if_neg (by rw [hleq]; simp), if_pos hneg]
        simp only [hzn, sB_true]
        refine bad _ _ _ _ _ ?_ gk3 gl3 ?_ ?_ ?_ ?_ ?_ hst
        · omega
        · exact le_minN (by omega) (le_minN (by omega) (le_minN (by omega) low'))
        · exact Nat.le_trans (minN_le_r _ _) (Nat.le_trans (minN_le_r _ _) (minN_le_r _ _))
        · exact Nat.le_trans (minN_le_r _ _) (minN_le _ _)
        · simp only [go_sem, Nat.reduceEqDiff, t4]
        · simp only [go_sem, Nat.reduceEqDiff, t5]
      · have hzn : decide ((pivR high.vars).1 < 0) = false := decide_eq_false hneg
        obtain ⟨i, hi⟩ : ∃ i : Nat, (pivR high.vars).1 = (i : Int) := ⟨(pivR high.vars).1.toNat, by omega⟩
        have hil : i < vs.length := by omega
        obtain ⟨y, hy⟩ : ∃ y, vs[i]? = some y := ⟨_, List.getElem?_eq_getElem hil⟩
        have hst : stepP high (some (vs, ch)) p = some (vs.set i (joinR y (lowR p (pivR high.vars).2)), true) := by
          show (if (repR high vs).2 = 0 then if leqB p (repR high vs).1 = true then some (vs, ch) else if (pivR high.vars).1 < 0 then none else (match vs[(pivR high.vars).1.toNat]? with
            | some y => some (vs.set (pivR high.vars).1.toNat (joinR y (lowR p (pivR high.vars).2)), true)
            | none => none) else none) = _
          rw [if_pos he, if_neg (by rw [hleq]; simp), if_neg hneg, hi, Int.toNat_natCast, hy]
        have py := pm y (List.mem_of_getElem? hy)
        obtain ⟨py', ay, hay, hpy⟩ := (vv2 nx3 (minN nx1 (minN pl (minN nx lo))) ob3 (by omega) gk3).rd.get i y hy
        obtain ⟨ob4, hob4⟩ : ∃ ob4, ob4 = ob3.put nx3 (.box [.int .i64 0, .nils]) := ⟨_, rfl⟩
        have k4 : ∀ k, k < nx3 → ob4.get k = ob3.get k := fun k hk => by rw [hob4, Tr.get_put_other _ _ (by omega)]
        have hyi := fun nx' lo' => (hpy ⟨nx', lo', ob4⟩ (fun k hk => k4 k hk)).1
        have hyl := fun nx' lo' => (hpy ⟨nx', lo', ob4⟩ (fun k hk => k4 k hk)).2
        rw [len] at hyi
        have g2' : ob4.get h0.next = some (.box [.row kV 0 2 0 n]) := (k4 _ (by omega)).trans ((gk3 _ (by omega) (by omega)).trans b2)
        have g9'' : ob4.get nx = some (.box [.int .i64 p.c, Vp]) := (k4 _ (by omega)).trans g9'
        obtain ⟨a54, nx4, u1, u2, u3⟩ := c141 hK (m0 + 9) p (pivR high.vars).2 _ ⟨nx3 + 1, minN nx1 (minN pl (minN nx lo)), ob4⟩ hap pml ⟨pmp.vl.c0, by have := pmp.vl.c1; omega⟩ (fun x hx => by have := pmp.vl.plus x hx; omega) ⟨q1, by omega⟩
        have u1 : nx3 + 1 ≤ nx4 := u1
        have plow := low_Pm pmp q1
        obtain ⟨v47, nx5, d1, d2, d3⟩ := c140 hK hv (m0 + 2) y (lowR p (pivR high.vars).2) ay a54 ⟨nx4, minN nx1 (minN pl (minN nx lo)), ob4⟩ hay u3 (by have := py.len; omega) (by have := plow.len; omega) py.vl plow.vl
        have d1 : nx4 ≤ nx5 := d1
        rw [max_join py.vl plow.vl] at d3
        obtain ⟨a67, rfl, d3⟩ := d3
        obtain ⟨A67, e67, _, e67c, e67l, _, _, _⟩ := d3.ex
        have d3' := d3
        rw [e67] at d2 d3'
        have bqy := hay.bq
        have bqp := hap.bq
        have g14' : ob4.get nx3 = some (.box [.int .i64 0, .nils]) := by rw [hob4, Tr.get_put_same]
        obtain ⟨ob5, hob5⟩ : ∃ ob5, ob5 = ob4.put nx3 (.box [.int .i64 (joinR y (lowR p (pivR high.vars).2)).c, A67]) := ⟨_, rfl⟩
        have g14 : ob5.get nx3 = some (.box [.int .i64 (joinR y (lowR p (pivR high.vars).2)).c, A67]) := by rw [hob5, Tr.get_put_same]
        have k5 : ∀ k, k < nx → k ≠ pl → ob5.get k = ob.get k := fun k z1 z2 => by rw [hob5, Tr.get_put_other _ _ (by omega), k4 k (by omega)]; exact gk3 k z1 z2
        obtain ⟨L5, hL5⟩ : ∃ L5, L5 = minN nx3 (minN nx1 (minN pl (minN nx lo))) := ⟨_, rfl⟩
        have L5l : kV ≤ L5 := by rw [hL5]; exact le_minN (by omega) (le_minN (by omega) (le_minN (by omega) (le_minN (by omega) low')))
        have vs5 : VS kV vs ⟨nx5, L5, ob5⟩ := vv2 _ _ _ (by omega) k5
        obtain ⟨o, st1, st2⟩ := vs5.store hil d3'
        have ria := fun H => row_iaddr (k := kV) (g := 0) hil H
        rw [len] at ria
        have g2'' : ob5.get h0.next = some (.box [.row kV 0 2 0 n]) := (k5 _ (by omega) (by omega)).trans b2
        obtain ⟨ob6, hob6⟩ : ∃ ob6, ob6 = ob5.put kV o := ⟨_, rfl⟩
        have st1 : evStore (.ptr kV 0 (i * 2)) ⟨nx5, L5, ob5⟩ 2 (.agg [.int .i64 (joinR y (lowR p (pivR high.vars).2)).c, A67]) = some ⟨nx5, minN kV L5, ob6⟩ := by rw [hob6]; exact st1
        have st2 : VS kV (vs.set i (joinR y (lowR p (pivR high.vars).2))) ⟨nx5, minN kV L5, ob6⟩ := by rw [hob6]; exact st2
        have k6 : ∀ k, k < nx → k ≠ pl → k ≠ kV → ob6.get k = ob.get k := fun k z1 z2 z3 => by rw [hob6, Tr.get_put_other _ _ z3]; exact k5 k z1 z2
        have g8' : ob6.get p8 = some (.box [.bool ch]) := (k6 _ (by omega) (by omega) (by omega)).trans b8
        have gl6 : ob6.get pl = some (.loop .busy none tm0 [26] b99_0 b99_7 99) := by rw [hob6, Tr.get_put_other _ _ (by omega), hob5, Tr.get_put_other _ _ (by omega), k4 _ (by omega)]; exact gl3
        rw [hst]
        simp only [hzn, sB_false]
        unfold s99_2
        simp only [go_sem, Nat.reduceEqDiff]
        rw [← hob4]
        simp only [go_sem, Nat.reduceEqDiff, Nat.reduceAdd, Nat.reduceLT, t2, g2', g9'', hyi, hyl, hi, u2, d2, bqy, g14']
        rw [← hob5, ← hL5]
        simp only [go_sem, Nat.reduceEqDiff, Nat.reduceAdd, s99_1, t2, t8, g2'', g14, ria, st1, g8']
        refine ⟨rfl, .inl ⟨rfl, _, yldSet_at (by rw [get_mk, Tr.get_put_other _ _ (by omega)]; exact gl6), ?_⟩⟩
        have gg : ∀ k, k < nx → k ≠ pl → k ≠ kV → k ≠ p8 → ((ob6.put p8 (.box [.bool true])).put pl (.loop .ready none tm0 [26] b99_0 b99_7 99)).get k = ob.get k := fun k z1 z2 z3 z4 => by
          rw [Tr.get_put_other _ _ z2, Tr.get_put_other _ _ z4]; exact k6 k z1 z2 z3
        refine ⟨by show nx ≤ nx5; omega, gg _ (by omega) (by omega) (by omega) (by omega), Nat.lt_succ_of_le (minN_le _ _), rfl, ⟨(gg _ (by omega) (by omega) (by omega) (by omega)).trans b2, (gg _ (by omega) (by omega) (by omega) (by omega)).trans b3, (gg _ (by omega) (by omega) (by omega) (by omega)).trans mrk, fun k z1 z2 => (gg k (by omega) (by omega) z2 (by omega)).trans (keep k z1 z2), .inr ?_, ?_⟩, (gg _ (by omega) (by omega) (by omega) (by omega)).trans b4, (gg _ (by omega) (by omega) (by omega) (by omega)).trans b5, ?_, ?_, ?_, by simp [len], fun z hz => ?_⟩
        · exact Nat.le_trans (minN_le_r _ _) (Nat.le_trans (minN_le_r _ _) (minN_le _ _))
        · exact le_minN (by omega) (le_minN (by omega) (le_minN (Nat.le_refl _) L5l))
        · show ((ob6.put p8 (.box [.bool true])).put pl (.loop .ready none tm0 [26] b99_0 b99_7 99)).get p8 = _
          rw [Tr.get_put_other _ _ (by omega), Tr.get_put_same]
        · show ((ob6.put p8 (.box [.bool true])).put pl (.loop .ready none tm0 [26] b99_0 b99_7 99)).get pl = _
          rw [Tr.get_put_same]
        · exact st2.mono (Nat.le_refl _) (by show ((ob6.put p8 (.box [.bool true])).put pl (.loop .ready none tm0 [26] b99_0 b99_7 99)).get kV = ob6.get kV; rw [Tr.get_put_other _ _ (by omega), Tr.get_put_other _ _ (by omega)])
        · rcases List.mem_or_eq_of_mem_set hz with hz | hz
          · exact pm z hz
          · rw [hz]; exact py.join plow
  · have hz : decide ((repR high vs).2 = 0) = false := decide_eq_false he
    have hst : stepP high (some (vs, ch)) p = none := by
      show (if (repR high vs).2 = 0 then _ else none) = _
      rw [if_neg he]
    simp only [hz, Bool.not_false, sB_true]
    refine bad _ _ _ _ _ ?_ gk3 gl3 ?_ ?_ ?_ ?_ ?_ hst
    · omega
    · exact le_minN (by omega) (le_minN (by omega) (le_minN (by omega) low'))
    · exact Nat.le_trans (minN_le_r _ _) (Nat.le_trans (minN_le_r _ _) (minN_le_r _ _))
    · exact Nat.le_trans (minN_le_r _ _) (minN_le _ _)
    · simp only [go_sem, Nat.reduceEqDiff, t4]
    · simp only [go_sem, Nat.reduceEqDiff, t5]
end Go.Proofs.YtnacljdablhbgaaGreat
