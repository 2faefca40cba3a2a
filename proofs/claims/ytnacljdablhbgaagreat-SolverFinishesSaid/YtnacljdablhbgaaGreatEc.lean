/- SolverFinishes: Check of the reference says whether the bounds are valid and in scope (no condition). -/
import Derived.Test.YtnacljdablhbgaaGreatEb
import Derived.Test.YtnacljdablhbgaaGreatBb
namespace Go.Proofs.YtnacljdablhbgaaGreat
open Go.AG
attribute [local go_sem] RD_max RD_lookup birth_lookup build_1i build_2i build_p1
theorem lit_e2 (h : AH) (a b : AV) : evLit true true 2 [a, b] 0 [] h = .val (.clip []) h := (rfl)
theorem litParts_0 (tm : Tm) (sz : Nat) : evLitParts [] tm sz = [] := (rfl)
attribute [local go_sem] lit_e2 litParts_0
def Ap (base : Nat) (h : AH) (v : AV) (out : List LV) : Prop := (v = .clip [] ∧ out = []) ∨ ((∃ k g n, v = .row k g 2 0 n) ∧ Own base 2 true h v (out.map encV))
theorem Ap.rd {base : Nat} {h : AH} {v : AV} {out : List LV} (a : Ap base h v out) : Rd encV 2 h.next h v out := by
  rcases a with ⟨rfl, rfl⟩ | ⟨_, o⟩
  · exact ⟨fun h => rfl, fun i x e => by simp at e, rfl, rfl, fun m h b _ => frz_clip m b _⟩
  · exact own_Rd o
theorem own_idx {base : Nat} {h : AH} {v : AV} {vs : List LV} (o : Own base 2 true h v (vs.map encV)) {i : Nat} {x : LV} (e : vs[i]? = some x) :
    ∃ p p0, ∀ H : AH, (∀ k, k < h.next → H.get k = h.get k) → evIaddr v H 2 (.int .i64 (i : Int)) = .val p H ∧ evFaddr p H 0 1 false = .val p0 H ∧ evLoad p0 H false 1 = some (.int .i64 x.idx) := by
  obtain ⟨o1, ⟨rfl, e2⟩ | ⟨k, g, rfl, hk, hlt, hbk⟩⟩ := o
  · have : vs = [] := by simpa using e2
    subst this; simp at e
  · refine ⟨.ptr k g (i * 2), .ptr k g (i * 2 + 0), fun H hH => ⟨?_, rfl, ?_⟩⟩
    · have hi : i < (vs.map encV).length := by
        rw [List.length_map]; exact (List.getElem?_eq_some_iff.1 e).1
      exact row_iaddr hi H
    · have ex : (vs.map encV)[i]? = some (encV x) := by rw [List.getElem?_map, e]; rfl
      have hf := flat_get (sz := 2) (fun y hy => (o1 y hy).1) ex
      have hi : i < (vs.map encV).length := (List.getElem?_eq_some_iff.1 ex).1
      have hl := flat_len (fun y hy => (o1 y hy).1)
      rw [load_ptr, hH k hlt, hk, bindO_some, loadAt_row, grab_1, Nat.add_zero]
      have h0 : ((flat (vs.map encV)).drop (i * 2))[0]? = some (.int .i64 x.idx) := by
        have : (((flat (vs.map encV)).drop (i * 2)).take 2)[0]? = some (.int .i64 x.idx) := by rw [hf]; rfl
        rw [List.getElem?_take] at this
        simpa using this
      rw [List.getElem?_drop] at h0
      simpa using h0
theorem Ap.idx {base : Nat} {h : AH} {v : AV} {out : List LV} (a : Ap base h v out) {i : Nat} {x : LV} (e : out[i]? = some x) :
    ∃ p p0, ∀ H : AH, (∀ k, k < h.next → H.get k = h.get k) → evIaddr v H 2 (.int .i64 (i : Int)) = .val p H ∧ evFaddr p H 0 1 false = .val p0 H ∧ evLoad p0 H false 1 = some (.int .i64 x.idx) := by
  rcases a with ⟨rfl, rfl⟩ | ⟨_, o⟩
  · simp at e
  · exact own_idx o e
theorem Ap.keep {base : Nat} {h h' : AH} {v : AV} {out : List LV} (a : Ap base h v out) (hn : h.next ≤ h'.next) (hg : ∀ k, k < h.next → h'.get k = h.get k) : Ap base h' v out := by
  rcases a with ⟨rfl, rfl⟩ | ⟨e, o⟩
  · exact .inl ⟨rfl, rfl⟩
  · exact .inr ⟨e, own_keep o hn fun k _ hk => hg k hk⟩
theorem Ap.append {base : Nat} {h : AH} {v : AV} {out xs : List LV} (a : Ap base h v out) (hb : base ≤ h.next) (h1 : out.length ≤ 1000) (h2 : xs.length ≤ 1000) (za zb : AV) :
    ∃ v' h', evAppend h 2 true [za, zb] 16 v (.lst (xs.map encV)) = some (v', h') ∧ Ap base h' v' (out ++ xs) ∧ h.next ≤ h'.next ∧ (∀ k, k < base → h'.get k = h.get k) ∧ (∀ b, b ≤ base → b ≤ h.low → b ≤ h'.low) := by
  have hs : sized 2 (xs.map encV) = true := sized_map encV_cells xs
  have hl : allLie (xs.map encV) = true := allLie_map (fun _ => rfl) xs
  have e0 : evAppend h 2 true [za, zb] 16 v (.lst (xs.map encV)) = List.casesOn (xs.map encV) (appNone v h) fun y ys => appSome v h 2 true 16 (y :: ys) := by
    show bindO (cond (sized 2 (xs.map encV)) (some (xs.map encV)) none) (fun xs => cond (and (allLie xs) (Nat.beq 2 2)) _ _) = _
    rw [hs, cond_true, bindO_some, hl]; rfl
  cases hx : xs with
  | nil =>
    subst hx
    rw [e0]
    rcases a with ⟨rfl, rfl⟩ | ⟨⟨k, g, n, rfl⟩, o⟩
    · exact ⟨_, _, rfl, .inl ⟨rfl, rfl⟩, Nat.le_refl _, fun _ _ => rfl, fun _ _ h => h⟩
    · exact ⟨_, _, rfl, .inr ⟨⟨k, g, n, rfl⟩, by simpa using o⟩, Nat.le_refl _, fun _ _ => rfl, fun _ _ h => h⟩
  | cons y ys =>
    have hne : xs.map encV = encV y :: ys.map encV := by rw [hx]; rfl
    have hlen : (xs.map encV).length = xs.length := List.length_map _
    have ecs : (List.casesOn (xs.map encV) (appNone v h) fun y ys => appSome v h 2 true 16 (y :: ys) : Option (AV × AH)) = appSome v h 2 true 16 (xs.map encV) := by rw [hne]
    have hall : ∀ z ∈ (out ++ xs).map encV, z.cells.length = 2 ∧ z.isAgg = true := fun z hz => by obtain ⟨w, _, rfl⟩ := List.mem_map.1 hz; exact ⟨rfl, rfl⟩
    have hneed : ∀ m, m ≤ 1000 → need m (xs.map encV).length 16 = true := by
      intro m hm
      show and (Nat.ble ((2 * (m + (xs.map encV).length) + 1000) * 16) 140737488355328) (Nat.ble (m + (xs.map encV).length) 9223372036854775807) = true
      rw [hlen, ble_t (show (2 * (m + xs.length) + 1000) * 16 ≤ 140737488355328 by omega), ble_t (by omega)]; rfl
    rw [← hx, e0, ecs]
    rcases a with ⟨rfl, rfl⟩ | ⟨⟨k, g, n, rfl⟩, o⟩
    · refine ⟨.row h.next 0 2 0 xs.length, h.new (.row 0 2 true (flat (xs.map encV)) 0), ?_, .inr ⟨⟨_, _, _, rfl⟩, hall, .inr ⟨h.next, 0, by simp, by rw [get_new_s]; rfl, by rw [next_new]; omega, hb⟩⟩, by rw [next_new]; omega, fun k hk => get_new_o (by omega), fun b _ h => by rw [low_new]; exact h⟩
      show cond (and (need 0 (len (xs.map encV)) 16) (and (sized 2 []) (allLie []))) (some (AV.row h.next 0 2 0 (Nat.add 0 (len (xs.map encV))), h.new (.row 0 2 true (app (flat []) (flat (xs.map encV))) 0))) none = _
      rw [len_eq, hneed 0 (by omega), hlen, app_eq]
      show some (AV.row h.next 0 2 0 (0 + xs.length), h.new (.row 0 2 true (flat [] ++ flat (xs.map encV)) 0)) = _
      rw [Nat.zero_add]; rfl
    · obtain ⟨o1, ⟨e, _⟩ | ⟨k', g', e, hk, hlt, hbk⟩⟩ := o
      · cases e
      · cases e
        have hfl := flat_len (fun x hx => (o1 x hx).1)
        have ol : (out.map encV).length = out.length := List.length_map _
        refine ⟨.row k (g + 1) 2 0 ((out.map encV).length + xs.length), h.set k (.row (g + 1) 2 true (flat (out.map encV ++ xs.map encV)) 0), ?_, .inr ⟨⟨_, _, _, rfl⟩, hall, .inr ⟨k, g + 1, by simp, by rw [get_set_s, List.map_append], by rw [next_set]; exact hlt, hbk⟩⟩, by rw [next_set]; exact Nat.le_refl _, fun k' hk' => get_set_o (by omega), fun b h1 h2 => by rw [low_set]; exact le_minN (by omega) h2⟩
        have er : AG.rowAt h k g 2 = some (true, flat (out.map encV), 0) := by
          unfold AG.rowAt
          rw [hk, bindO_some]
          show bindO (some (g, 2, true, flat (out.map encV), 0)) _ = _
          rw [bindO_some]
          show cond (and (Nat.beq g g) (Nat.beq 2 2)) _ _ = _
          rw [beq_t, beq_t]; rfl
        show cond (Nat.beq 2 2) (bindO (AG.rowAt h k g 2) _) none = _
        rw [beq_t, er, cond_true, bindO_some]
        show cond (and (sameB true true) (and (Nat.ble 0 ((0 + (out.map encV).length) * 2)) (and (Nat.ble ((0 + (out.map encV).length) * 2) (len (flat (out.map encV)))) (need (out.map encV).length (len (xs.map encV)) 16))))
          (some (AV.row k (g + 1) 2 0 ((out.map encV).length + len (xs.map encV)), h.set k (.row (g + 1) 2 true (app (tke ((out.map encV).length * 2) (drp (0 * 2) (flat (out.map encV)))) (flat (xs.map encV))) (0 - 0 * 2)))) none = _
        rw [len_eq, len_eq, hneed _ (by omega), ble_t (show 0 ≤ (0 + (out.map encV).length) * 2 by omega), ble_t (show (0 + (out.map encV).length) * 2 ≤ (flat (out.map encV)).length by rw [hfl, Nat.zero_add]; exact Nat.le_refl _)]
        simp only [Nat.zero_mul, Nat.sub_self, app_eq, tke_eq, drp_eq, List.drop_zero]
        rw [← hfl, List.take_length, flat_append, hlen]; rfl
def isC (n : Nat) (bs : List (LL × LL)) (v : AV) : Prop := ∃ i e : Int, v = .tup [.int .i64 i, .int .i64 e] ∧ (e = 0 → ∀ b ∈ bs, Okb n b) ∧ ((∀ b ∈ bs, Okb n b) → i = 0 ∧ e = 0)
theorem isC_bad {n : Nat} {bs : List (LL × LL)} {q : Nat} {b : LL × LL} (hb : bs[q]? = some b) (hno : ¬ Okb n b) {i e : Int} (he : e ≠ 0) : isC n bs (.tup [.int .i64 i, .int .i64 e]) :=
  ⟨i, e, rfl, fun h => absurd h he, fun h => absurd (h b (List.mem_of_getElem? hb)) hno⟩
def I50a (n : Nat) (bs : List (LL × LL)) (h0 : AH) (j : Nat) (fr : AF) (h : AH) : Prop := ∃ tm m, m + j = bs.length ∧ fr = ⟨tm, ⟨[], .no, none, 50⟩⟩ ∧ h0.next ≤ h.next ∧ h0.next ≤ h.low ∧ (∀ b ∈ bs.take m, Okb n b) ∧
  nth tm 0 = .int .i64 (n : Int) ∧ nth tm 1 = .lst (bs.map encBd) ∧ nth tm 6 = .int .i64 (m : Int)
def I50b (n q : Nat) (bs : List (LL × LL)) (L : List LV) (V : AV) (h0 : AH) (j : Nat) (fr : AF) (h : AH) : Prop := ∃ tm m, m + j = L.length ∧ fr = ⟨tm, ⟨[], .no, none, 50⟩⟩ ∧ h0.next ≤ h.next ∧ h0.next ≤ h.low ∧ (∃ base, Ap base h V L) ∧ (∀ x ∈ L.take m, x.idx < 0 → -1 - x.idx < (n : Int)) ∧
  nth tm 0 = .int .i64 (n : Int) ∧ nth tm 1 = .lst (bs.map encBd) ∧ nth tm 6 = .int .i64 (q : Int) ∧ nth tm 8 = V ∧ nth tm 9 = .int .i64 (m : Int)
theorem take_mem {α : Type} {l : List α} {m : Nat} {x : α} (hx : l[m]? = some x) {P : α → Prop} (h : ∀ y ∈ l.take m, P y) (hp : P x) : ∀ y ∈ l.take (m + 1), P y := by
  intro y hy
  rw [take_succ_get hx] at hy
  rcases List.mem_append.1 hy with hy | hy
  · exact h y hy
  · simp at hy; rw [hy]; exact hp
theorem call50 {K : CallF} (hv : KV K) (m0 : Nat) (n : Nat) (bs : List (LL × LL)) (h : AH) (hn : n ≤ 30) (hbl : bs.length ≤ 100) (hb : ∀ b ∈ bs, b.1.vars.length ≤ 10 ∧ b.2.vars.length ≤ 10) :
    ∃ v h', evFn EF (cK K m0) 30000 50 [.int .i64 (n : Int), .lst (bs.map encBd)] .no h = some (.ret v, .no, h') ∧ Gx (isC n bs) h v h' := by
  refine evFn_H cf50 (pureF _) ?_
  unfold b50
  have d1 : decide ((n : Int) < 0) = false := decide_eq_false (by omega)
  have d2 : decide ((2000 : Int) < (n : Int)) = false := decide_eq_false (by omega)
  simp only [go_sem, Nat.reduceEqDiff, reduceCtorEq, s50_9, d1, d2, s50_8]
  refine R_loop (I50a n bs h) bs.length (by omega) ⟨_, 0, Nat.zero_add _, rfl, Nat.le_refl _, Nat.le_refl _, by simp, by simp only [go_sem, reduceCtorEq], by simp only [go_sem, Nat.reduceEqDiff], by simp only [go_sem]; rfl⟩ ?_
  rintro j fr H ⟨tm, q, hq, rfl, hn1, hl1, hok, t0, t1, t6⟩
  unfold b50_6
  have hlen : ∀ H, lenOf (.lst (bs.map encBd)) H 1 = some bs.length := fun H => by rw [len_lst, List.length_map]
  simp only [go_sem, Nat.reduceEqDiff, t1, t6, hlen]
  refine sB_dec (fun hlt => ?_) (fun hge => ?_)
  · have hlt : q < bs.length := by omega
    obtain ⟨b, hbq⟩ : ∃ b, bs[q]? = some b := ⟨_, List.getElem?_eq_getElem hlt⟩
    have hw2 := wrap_succ q (by omega)
    obtain ⟨p1, p2⟩ := hb b (List.mem_of_getElem? hbq)
    have ia := fun H => iaddr_map encBd_cells hbq .i64 H
    have ebd : encBd b = .agg [.int .i64 b.1.c, .lst (b.1.vars.map encV), .int .i64 b.2.c, .lst (b.2.vars.map encV)] := rfl
    rw [ebd] at ia
    obtain ⟨nx, lo, ob⟩ := H
    have hn1 : h.next ≤ nx := hn1
    have hl1 : h.next ≤ lo := hl1
    obtain ⟨ob2, hob2⟩ : ∃ ob2, ob2 = (ob.put nx (.box [.int .i64 0, .nils, .int .i64 0, .nils])).put nx (.box [.int .i64 b.1.c, .lst (b.1.vars.map encV), .int .i64 b.2.c, .lst (b.2.vars.map encV)]) := ⟨_, rfl⟩
    have g7 : ob2.get nx = some (.box [.int .i64 b.1.c, .lst (b.1.vars.map encV), .int .i64 b.2.c, .lst (b.2.vars.map encV)]) := by rw [hob2, Tr.get_put_same]
    have e1 := fun h => cK_known (hv.r21 _ b.1 h (Lv_lst b.1.c b.1.vars) (by omega)) m0
    have e2 := fun h => cK_known (hv.r21 _ b.2 h (Lv_lst b.2.c b.2.vars) (by omega)) m0
    by_cases v1 : VL b.1
    · by_cases v2 : VL b.2
      · rw [vl_t v1] at e1
        rw [vl_t v2] at e2
        obtain ⟨A1, H1, x1, x2, x3, x4, x5⟩ := Ap.append (base := nx + 1) (h := ⟨nx + 1, minN nx lo, ob2⟩) (v := .clip []) (out := []) (xs := b.1.vars) (.inl ⟨rfl, rfl⟩) (Nat.le_refl _) (by simp) (by omega) (.int .i64 0) (.int .i64 0)
        obtain ⟨A2, H2, y1, y2, y3, y4, y5⟩ := Ap.append (xs := b.2.vars) x2 (show nx + 1 ≤ H1.next from x3) (by simp; omega) (by omega) (.int .i64 0) (.int .i64 0)
        rw [List.nil_append] at y2
        obtain ⟨nx1, lo1, ob3⟩ := H1
        obtain ⟨nx2, lo2, ob4⟩ := H2
        have x3 : nx + 1 ≤ nx1 := x3
        have y3 : nx1 ≤ nx2 := y3
        have g7' : ob3.get nx = some (.box [.int .i64 b.1.c, .lst (b.1.vars.map encV), .int .i64 b.2.c, .lst (b.2.vars.map encV)]) := (x4 nx (by omega)).trans g7
        have g7'' : ob4.get nx = some (.box [.int .i64 b.1.c, .lst (b.1.vars.map encV), .int .i64 b.2.c, .lst (b.2.vars.map encV)]) := (y4 nx (by omega)).trans g7'
        have l1 : h.next ≤ lo1 := x5 h.next (by omega) (by (repeat' (first | assumption | exact Nat.le_refl _ | apply le_minN)) <;> omega)
        have l2 : h.next ≤ lo2 := y5 h.next (by omega) l1
        have bq1 := (Cs_lst b.1.vars).bq
        have bq2 := (Cs_lst b.2.vars).bq
        simp only [go_sem, Nat.reduceEqDiff, Nat.reduceAdd, s50_5, t1, t6, ia]
        rw [← hob2]
        simp only [go_sem, Nat.reduceEqDiff, Nat.reduceAdd, Nat.reduceLeDiff, Nat.reduceLT, s50_4, g7, e1, e2, s50_3, x1, y1, g7', g7'', bq2, s50_2]
        refine R_loop (I50b n q bs (b.1.vars ++ b.2.vars) A2 h) (b.1.vars ++ b.2.vars).length (by simp; omega) ⟨_, 0, Nat.zero_add _, rfl, by show h.next ≤ nx2; omega, l2, ⟨_, y2⟩, by simp, by simp only [go_sem, reduceCtorEq, t0], by simp only [go_sem, Nat.reduceEqDiff, t1], by simp only [go_sem, Nat.reduceEqDiff, t6], by simp only [go_sem, Nat.reduceEqDiff], by simp only [go_sem]; rfl⟩ ?_
        clear t0 t1 t6 g7 g7' g7'' hob2 x1 x2 x4 x5 y1 y2 y4 y5 l1 l2 x3 y3
        rintro jj fr H ⟨tm, m, hm, rfl, hn2, hl2, ⟨base, ap⟩, hsc, t0, t1, t6, t8, t9⟩
        obtain ⟨nx', lo', ob'⟩ := H
        unfold b50_1
        have hlen2 := ap.rd.len
        simp only [go_sem, Nat.reduceEqDiff, t8, t9, hlen2]
        refine sB_dec (fun hlt => ?_) (fun hge => ?_)
        · have hlt : m < (b.1.vars ++ b.2.vars).length := by omega
          obtain ⟨x, hx⟩ : ∃ x, (b.1.vars ++ b.2.vars)[m]? = some x := ⟨_, List.getElem?_eq_getElem hlt⟩
          have hxm := List.mem_of_getElem? hx
          have hrx : Rng x := by
            rcases List.mem_append.1 hxm with hh | hh
            · exact v1.all x hh
            · exact v2.all x hh
          obtain ⟨r1, r2, r3, r4⟩ := hrx
          have hw3 : IntKind.wrap .i64 (-1 - x.idx) = -1 - x.idx := wrap_fits _ (by omega) (by omega)
          have hw4 := wrap_succ m (by simp at hlt; omega)
          obtain ⟨pk, pg, hp⟩ := ap.idx hx
          have hxi := (hp ⟨nx', lo', ob'⟩ (fun _ _ => rfl)).1
          have hxf := (hp ⟨nx', lo', ob'⟩ (fun _ _ => rfl)).2.1
          have hxl := (hp ⟨nx', lo', ob'⟩ (fun _ _ => rfl)).2.2
          by_cases hneg : x.idx < 0
          · have d3 : decide (x.idx < 0) = true := decide_eq_true hneg
            simp only [go_sem, Nat.reduceEqDiff, reduceCtorEq, Int.reduceNeg, s50_0, t0, t8, t9, hxi, hxf, hxl, d3, hw3]
            refine sB_dec (fun hge => ?_) (fun hlt' => ?_)
            · simp only [go_sem, Nat.reduceEqDiff, Int.reduceNeg, t6]
              have hno : ¬ Okb n b := fun ok => by
                rcases List.mem_append.1 hxm with hh | hh
                · have := ok.s1 x hh hneg; omega
                · have := ok.s2 x hh hneg; omega
              refine HQ_gx (.inr rfl) hl2 hn2 (by simp only [go_sem, Nat.reduceEqDiff, Int.reduceNeg, r50]; rfl) ?_
              show isC n bs (AG.frz 4 _ _ (.tup [.int .i64 (q : Int), .int .i64 24]))
              rw [frz_tupS]; simp only [List.map_cons, List.map_nil, frz_int]
              exact isC_bad hbq hno (by decide)
            · simp only [go_sem, Nat.reduceEqDiff, Int.reduceNeg, t9, hw4]
              exact ⟨jj - 1, by omega, _, m + 1, by omega, rfl, hn2, hl2, ⟨_, ap⟩, take_mem hx hsc (fun _ => by omega), by simp only [go_sem, reduceCtorEq, Int.reduceNeg, t0], by simp only [go_sem, Nat.reduceEqDiff, Int.reduceNeg, t1], by simp only [go_sem, Nat.reduceEqDiff, Int.reduceNeg, t6], by simp only [go_sem, Nat.reduceEqDiff, Int.reduceNeg, t8], by simp only [go_sem, Int.reduceNeg]⟩
          · have d3 : decide (x.idx < 0) = false := decide_eq_false hneg
            simp only [go_sem, Nat.reduceEqDiff, Int.reduceNeg, s50_0, t8, t9, hxi, hxf, hxl, d3, hw4]
            exact ⟨jj - 1, by omega, _, m + 1, by omega, rfl, hn2, hl2, ⟨_, ap⟩, take_mem hx hsc (fun hh => absurd hh hneg), by simp only [go_sem, reduceCtorEq, t0], by simp only [go_sem, Nat.reduceEqDiff, t1], by simp only [go_sem, Nat.reduceEqDiff, t6], by simp only [go_sem, Nat.reduceEqDiff, t8], by simp only [go_sem]⟩
        · have hme : m = (b.1.vars ++ b.2.vars).length := by omega
          subst hme
          rw [List.take_length] at hsc
          simp only [go_sem, Nat.reduceEqDiff, t6, hw2]
          refine ⟨j - 1, by omega, _, q + 1, by omega, rfl, hn2, hl2, take_mem hbq hok ⟨v1, v2, fun x hx => hsc x (List.mem_append.2 (.inl hx)), fun x hx => hsc x (List.mem_append.2 (.inr hx))⟩, by simp only [go_sem, reduceCtorEq, t0], by simp only [go_sem, Nat.reduceEqDiff, t1], by simp only [go_sem]⟩
      · rw [vl_t v1] at e1
        rw [vl_f v2] at e2
        simp only [go_sem, Nat.reduceEqDiff, Nat.reduceAdd, s50_5, t1, t6, ia]
        rw [← hob2]
        simp only [go_sem, Nat.reduceEqDiff, Nat.reduceAdd, Nat.reduceLeDiff, s50_4, g7, e1, e2, t6]
        refine HQ_gx (.inr rfl) (by (repeat' (first | assumption | exact Nat.le_refl _ | apply le_minN)) <;> omega) (by show h.next ≤ nx + 1; omega) (by simp only [go_sem, Nat.reduceEqDiff, r50]; rfl) ?_
        show isC n bs (AG.frz 4 _ _ (.tup [.int .i64 (q : Int), .int .i64 3]))
        rw [frz_tupS]; simp only [List.map_cons, List.map_nil, frz_int]
        exact isC_bad hbq (fun ok => v2 ok.v2) (by decide)
    · rw [vl_f v1] at e1
      simp only [go_sem, Nat.reduceEqDiff, Nat.reduceAdd, s50_5, t1, t6, ia]
      rw [← hob2]
      simp only [go_sem, Nat.reduceEqDiff, Nat.reduceAdd, Nat.reduceLeDiff, s50_4, g7, e1, t6]
      refine HQ_gx (.inr rfl) (by (repeat' (first | assumption | exact Nat.le_refl _ | apply le_minN)) <;> omega) (by show h.next ≤ nx + 1; omega) (by simp only [go_sem, Nat.reduceEqDiff, r50]; rfl) ?_
      show isC n bs (AG.frz 4 _ _ (.tup [.int .i64 (q : Int), .int .i64 3]))
      rw [frz_tupS]; simp only [List.map_cons, List.map_nil, frz_int]
      exact isC_bad hbq (fun ok => v1 ok.v1) (by decide)
  · have hme : q = bs.length := by omega
    subst hme
    rw [List.take_length] at hok
    simp only [go_sem, s50_7]
    refine HQ_gx (.inr rfl) hl1 hn1 (by simp only [go_sem, Nat.reduceEqDiff, r50]; rfl) ?_
    show isC n bs (AG.frz 4 _ _ (.tup [.int .i64 0, .int .i64 0]))
    rw [frz_tupS]; simp only [List.map_cons, List.map_nil, frz_int]
    exact ⟨0, 0, rfl, fun _ => hok, fun _ => ⟨rfl, rfl⟩⟩
theorem c50 {K : CallF} (hK : Runs K) (hv : KV K) (m0 : Nat) (n : Nat) (bs : List (LL × LL)) (h : AH) (hn : n ≤ 30) (hbl : bs.length ≤ 100) (hb : ∀ b ∈ bs, b.1.vars.length ≤ 10 ∧ b.2.vars.length ≤ 10) :
    ∃ v nx, h.next ≤ nx ∧ cK K (m0 + 1) (.fn 50 [] []) [.int .i64 (n : Int), .lst (bs.map encBd)] .no h = some (.ret v, .no, ⟨nx, h.low, h.objs⟩) ∧ isC n bs v := by
  rw [cK_run hK _ 50]
  obtain ⟨v, h', e, g⟩ := call50 hv m0 n bs h hn hbl hb
  obtain ⟨nx, g1, rfl⟩ := Gx_eq g
  exact ⟨v, nx, g1, e, g.1⟩
attribute [local go_sem] RD_max RD_lookup birth_lookup build_1i build_2i build_p1
theorem c240 {K : CallF} (hK : Runs K) (m : Nat) (V : AV) (h : AH) (bv : evBox h 1 V = .val (.ptr h.next 0 0) (h.new (.box [V]))) :
    ∃ h', cK K (m + 1) (.fn 240 [] []) [V] .no h = some (.ret (.fn 278 [] [.ptr h.next 0 0]), .no, h') ∧ h'.next = h.next + 1 ∧ h'.low = h.low ∧ h'.get h.next = some (.box [V]) ∧ ∀ k, k < h.next → h'.get k = h.get k := by
  rw [cK_run hK _ 240]
  have key : ∃ v h', evFn EF (cK K m) 30000 240 [V] .no h = some (.ret v, .no, h') ∧ v = .fn 278 [] [.ptr h.next 0 0] ∧ h'.next = h.next + 1 ∧ h'.low = h.low ∧ h'.get h.next = some (.box [V]) ∧ ∀ k, k < h.next → h'.get k = h.get k := by
    refine evFn_I cf240 (by rfl) ?_
    unfold b240
    have hh : h = ⟨h.next, h.low, h.objs⟩ := rfl
    rw [hh] at bv ⊢
    simp only [go_sem, Nat.reduceEqDiff, bv, s240_0]
    refine ⟨rfl, rfl, .inr rfl, _, by simp only [go_sem, r240]; rfl, rfl, rfl, rfl, ?_, fun k hk => ?_⟩
    · simp only [go_sem]
    · rw [get_mk, Tr.get_put_other _ _ (by omega)]
  obtain ⟨v, h', e, rfl, r⟩ := key
  exact ⟨h', e, r⟩
def metaN (x : LV) : List Int := if x.idx < 0 then [-1 - x.idx] else []
theorem metaN_len (x : LV) : (metaN x).length ≤ 1 := by unfold metaN; split <;> simp
structure Yb (call : CallF) (q pc B top : Nat) (I : List Int → AH → Prop) : Prop where
  keep : ∀ os h h', I os h → h.next ≤ h'.next → (∀ k, k < h.next → h'.get k = h.get k) → B ≤ h'.low → I os h'
  low : ∀ os h, I os h → B ≤ h.low
  step : ∀ os (i : Int) x h, I os h → top ≤ h.next → os.length ≤ 200 → Rng x → ∃ h', call (.yld q) [.int .i64 i, encV x] .no h = some (.ret (.bool true), .no, h') ∧ I (os ++ metaN x) h' ∧ h.next ≤ h'.next ∧ h'.get pc = h.get pc ∧ h'.low < top
def I278 (q pc top : Nat) (V : AV) (vs : List LV) (I : List Int → AH → Prop) (h0 : AH) (j : Nat) (fr : AF) (h : AH) : Prop := ∃ tm os, j ≤ vs.length ∧ fr = ⟨tm, ⟨[], .no, none, 278⟩⟩ ∧ I os h ∧ h0.next ≤ h.next ∧ h.get pc = some (.box [V]) ∧ (os = [] ∨ h.low < top) ∧ (∀ z ∈ os, ∃ x ∈ vs, x.idx < 0 ∧ z = -1 - x.idx) ∧ os.length + j ≤ vs.length ∧
  nth tm 0 = .yld q ∧ nth tm 1 = .ptr pc 0 0 ∧ nth tm 3 = .int .i64 ((j : Int) - 1)
theorem call278 (call : CallF) (n : Nat) (q pc B top : Nat) (I : List Int → AH → Prop) (Y : Yb call q pc B top I) (vs : List LV) (V : AV) (h : AH) (hV : h.get pc = some (.box [V])) (cV : Cs V vs) (i0 : I [] h)
    (lp : pc < h.next) (bp : B ≤ pc) (htop : top ≤ h.next) (l1 : vs.length ≤ 100) (hr : ∀ x ∈ vs, Rng x) (hn : 300 < n) :
    ∃ v h', evFn EF call n 278 [.yld q, .ptr pc 0 0] .no h = some (.ret v, .no, h') ∧ ∃ os, I os h' ∧ h.next ≤ h'.next ∧ (∀ z ∈ os, ∃ x ∈ vs, x.idx < 0 ∧ z = -1 - x.idx) ∧ os.length ≤ 100 := by
  refine evFn_H cf278 (pureF _) ?_
  unfold b278
  have Bn : B ≤ h.next := by omega
  have hV' : h.objs.get pc = some (.box [V]) := hV
  have s0 : I [] ⟨h.next, h.next, h.objs⟩ := Y.keep [] h _ i0 (Nat.le_refl _) (fun _ _ => rfl) Bn
  have la := cV.len
  have hw0 : IntKind.wrap .i64 ((vs.length : Int) - 1) = (vs.length : Int) - 1 := wrap_fits _ (by omega) (by omega)
  simp only [go_sem, Int.reduceNeg, hV', la, hw0]
  refine R_loop (I278 q pc top V vs I h) vs.length (by omega) ⟨_, [], Nat.le_refl _, rfl, s0, Nat.le_refl _, hV, .inl rfl, by simp, by simp, by simp only [go_sem, reduceCtorEq], by simp only [go_sem, Nat.reduceEqDiff], by simp only [go_sem]⟩ ?_
  clear s0 hw0 hV'
  rintro m fr H ⟨tm, os, hm, rfl, inv, nxt, g1, low, hos, hlen, t0, t1, t3⟩
  unfold b278_1
  have hlow := Y.low os H inv
  obtain ⟨nx, lo, ob⟩ := H
  have g1 : ob.get pc = some (.box [V]) := g1
  have nxt : h.next ≤ nx := nxt
  have hlow : B ≤ lo := hlow
  simp only [go_sem, Int.reduceNeg, t3]
  refine sB_dec (fun hge => ?_) (fun hlt => ?_)
  · obtain ⟨i, rfl⟩ : ∃ i, m = i + 1 := ⟨m - 1, by omega⟩
    have hi : ((i + 1 : Nat) : Int) - 1 = (i : Int) := by omega
    obtain ⟨x, hx⟩ : ∃ x, vs[i]? = some x := ⟨_, List.getElem?_eq_getElem (by omega)⟩
    have ia := cV.ia i x hx
    have hxv : encV x = .agg [.int .i64 x.idx, .int .i64 x.plus] := rfl
    have hxm := List.mem_of_getElem? hx
    obtain ⟨h', w1, w2, w3, w4, w5⟩ := Y.step os (i : Int) x ⟨nx, lo, ob⟩ inv (by show top ≤ nx; omega) (by omega) (hr x hxm)
    have w3 : nx ≤ h'.next := w3
    have hw2 : IntKind.wrap .i64 ((i : Int) - 1) = (i : Int) - 1 := wrap_fits _ (by omega) (by omega)
    have hml := metaN_len x
    rw [hi] at t3
    simp only [go_sem, Nat.reduceEqDiff, reduceCtorEq, Int.reduceNeg, s278_0, t0, t1, t3, g1, ia, w1, hw2]
    refine ⟨i, by omega, _, os ++ metaN x, by omega, rfl, w2, by omega, w4.trans g1, .inr w5, fun z hz => ?_, by simp; omega, by simp only [go_sem, reduceCtorEq, t0], by simp only [go_sem, Nat.reduceEqDiff, t1], by simp only [go_sem]⟩
    rcases List.mem_append.1 hz with hz | hz
    · exact hos z hz
    · unfold metaN at hz
      split at hz
      · rename_i hneg; simp at hz; exact ⟨x, hxm, hneg, hz⟩
      · simp at hz
  · simp only [go_sem, Int.reduceNeg]
    have hm0 : m = 0 := by omega
    by_cases hl : h.next ≤ lo
    · have hos0 : os = [] := by
        rcases low with h | h
        · exact h
        · have : lo < top := h; omega
      subst hos0
      exact HQ_keep (.inl rfl) hl (by simp only [go_sem, r278]; rfl) ⟨[], Y.keep [] h _ i0 nxt (fun _ _ => rfl) (Y.low [] h i0), nxt, by simp, by simp⟩
    · exact HQ_turn (.inl rfl) hl (by simp only [go_sem, r278]; rfl) ⟨os, Y.keep os _ _ inv (Nat.le_refl _) (fun k _ => rfl) (le_minN hlow (Y.low [] h i0)), nxt, hos, by omega⟩
structure S194 (tm0 : Tm) (h0 : AH) (os : List Int) (h : AH) : Prop where
  ex : ∃ v, h.get (h0.next + 1) = some (.box [v]) ∧ Own (h0.next + 5) 1 false h v (os.map AG.encI)
  dfd : h.get (h0.next + 3) = some (.dfd false)
  loop : h.get (h0.next + 4) = some (.loop .ready none tm0 [11, 12] b194_0 b194_1 194)
  low : h0.next ≤ h.low
  next : h0.next + 5 ≤ h.next
theorem yb194 {K : CallF} (hK : Runs K) (m : Nat) (tm0 : Tm) (h0 : AH) (t3 : nth tm0 3 = .ptr (h0.next + 1) 0 0) : Yb (cK K (m + 1)) (h0.next + 4) (h0.next + 2) h0.next (h0.next + 5) (S194 tm0 h0) where
  keep := by
    rintro os h h' ⟨⟨v, b, o⟩, d, l, lo, n⟩ hn hk hl
    exact ⟨⟨v, by rw [hk _ (by omega)]; exact b, own_keep o hn fun a h1 h2 => hk a h2⟩, by rw [hk _ (by omega)]; exact d, by rw [hk _ (by omega)]; exact l, hl, by omega⟩
  low := fun os h s => s.low
  step := by
    rintro os i x h ⟨⟨v, b, o⟩, d, l, lo, n⟩ htop hlen hr
    rw [cK_yld hK]
    obtain ⟨r1, r2, r3, r4⟩ := hr
    obtain ⟨nx, l0, ob⟩ := h
    have b : ob.get (h0.next + 1) = some (.box [v]) := b
    have d : ob.get (h0.next + 3) = some (.dfd false) := d
    have l : ob.get (h0.next + 4) = some (.loop .ready none tm0 [11, 12] b194_0 b194_1 194) := l
    have lo : h0.next ≤ l0 := lo
    have n : h0.next + 5 ≤ nx := n
    obtain ⟨h', e, P⟩ := yld_R (call := cK K m) (n := 30000) (l := h0.next + 4) (args := [.int .i64 i, encV x]) (h := ⟨nx, l0, ob⟩) (P := fun h' => S194 tm0 h0 (os ++ metaN x) h' ∧ nx ≤ h'.next ∧ h'.get (h0.next + 2) = ob.get (h0.next + 2) ∧ h'.low < h0.next + 5) l rfl (by
      have m1 : ¬ (h0.next + 4 = nx) := by omega
      have m2 : ¬ (nx = h0.next + 4) := by omega
      have m3 : ¬ (h0.next + 1 = h0.next + 4) := by omega
      unfold b194_0
      show R _ _ _ _ _ ⟨(tm0.put 11 (.int .i64 i)).put 12 (.agg [.int .i64 x.idx, .int .i64 x.plus]), _⟩ _
      simp only [go_sem, Nat.reduceEqDiff, Nat.reduceAdd]
      refine ⟨_, yldBegin_at (by simp only [go_sem, m1]; exact l), ?_⟩
      simp only [go_sem]
      obtain ⟨ob2, hob2⟩ : ∃ ob2, ob2 = ((ob.put nx (.box [.int .i64 0, .int .i64 0])).put nx (.box [.int .i64 x.idx, .int .i64 x.plus])).put (h0.next + 4) (.loop .busy none tm0 [11, 12] b194_0 b194_1 194) := ⟨_, rfl⟩
      rw [← hob2]
      have wx : ob2.get nx = some (.box [.int .i64 x.idx, .int .i64 x.plus]) := by simp only [hob2, go_sem, m2]
      have wk : ∀ k, k < nx → k ≠ h0.next + 4 → ob2.get k = ob.get k := fun k h1 h2 => by rw [hob2, Tr.get_put_other _ _ h2, Tr.get_put_other _ _ (by omega), Tr.get_put_other _ _ (by omega)]
      have wl : ob2.get (h0.next + 4) = some (.loop .busy none tm0 [11, 12] b194_0 b194_1 194) := by rw [hob2, Tr.get_put_same]
      have w3 : ob2.get (h0.next + 1) = some (.box [v]) := (wk _ (by omega) (by omega)).trans b
      unfold b194_1
      by_cases hneg : x.idx < 0
      · have d1 : decide (x.idx < 0) = true := decide_eq_true hneg
        have hw : IntKind.wrap .i64 (-1 - x.idx) = -1 - x.idx := wrap_fits _ (by omega) (by omega)
        have hm : metaN x = [-1 - x.idx] := if_pos hneg
        obtain ⟨v', h', c1, c2, c3, c4, c5, c6, c7, c8⟩ := own_append (bytes := 8) (z := [.int .i64 0]) (own_keep (h' := ⟨nx + 1, minN (h0.next + 4) (minN nx l0), ob2⟩) o (by show nx ≤ nx + 1; omega) (fun k h1 h2 => wk k h2 (by omega))) (by show h0.next + 5 ≤ nx + 1; omega) rfl (x := AG.encI (-1 - x.idx)) rfl rfl rfl (by rw [List.length_map]; omega) (by omega)
        have c1 : evAppend ⟨nx + 1, minN (h0.next + 4) (minN nx l0), ob2⟩ 1 false [.int .i64 0] 8 v (.clip [.int .i64 (-1 - x.idx)]) = some (v', h') := c1
        rw [show os.map AG.encI ++ [AG.encI (-1 - x.idx)] = (os ++ [-1 - x.idx]).map AG.encI by simp] at c2
        obtain ⟨k8, g8, rfl, _, _⟩ := c8
        obtain ⟨nx2, lo2, ob3⟩ := h'
        have c3 : nx + 1 ≤ nx2 := c3
        have c4 : ∀ k, k < h0.next + 5 → ob3.get k = ob2.get k := c4
        have c5 : h0.next ≤ lo2 := c5 h0.next (by omega) (by (repeat' (first | assumption | exact Nat.le_refl _ | apply le_minN)) <;> omega)
        have w3' : ob3.get (h0.next + 1) = some (.box [v]) := (c4 _ (by omega)).trans w3
        simp only [go_sem, Nat.reduceEqDiff, Nat.reduceMul, Int.reduceNeg, t3, w3, wx, d1, hw, c1, w3']
        rw [hm]
        refine ⟨_, yldSet_at (by simp only [go_sem]; rw [Tr.get_put_other _ _ (by omega), c4 _ (by omega)]; exact wl), ⟨⟨.row k8 g8 1 0 ((os.map AG.encI).length + 1), ?_, ?_⟩, ?_, ?_, ?_, ?_⟩, ?_, ?_, ?_⟩
        · simp only [go_sem, m3]
        · exact own_keep c2 (Nat.le_refl _) fun k h1 _ => by simp only [go_sem]; (repeat rw [Tr.get_put_other _ _ (by omega)])
        · simp only [go_sem]; rw [Tr.get_put_other _ _ (by omega), Tr.get_put_other _ _ (by omega), c4 _ (by omega), wk _ (by omega) (by omega)]; exact d
        · simp only [go_sem]
        · simp only [go_sem]; exact (by (repeat' (first | assumption | exact Nat.le_refl _ | apply le_minN)) <;> omega)
        · simp only [go_sem]; omega
        · simp only [go_sem]; omega
        · simp only [go_sem]; rw [Tr.get_put_other _ _ (by omega), Tr.get_put_other _ _ (by omega), c4 _ (by omega), wk _ (by omega) (by omega)]
        · simp only [go_sem]
          have : minN (h0.next + 4) (minN (h0.next + 1) lo2) ≤ h0.next + 4 := minN_le _ _
          omega
      · have d1 : decide (x.idx < 0) = false := decide_eq_false hneg
        have hm : metaN x = [] := if_neg hneg
        simp only [go_sem, Int.reduceNeg, wx, d1]
        rw [hm, List.append_nil]
        refine ⟨_, yldSet_at (by simp only [go_sem]; exact wl), ⟨⟨v, ?_, ?_⟩, ?_, ?_, ?_, ?_⟩, ?_, ?_, ?_⟩
        · simp only [go_sem]; rw [Tr.get_put_other _ _ (by omega)]; exact w3
        · exact own_keep o (by show nx ≤ nx + 1; omega) fun k h1 h2 => by simp only [go_sem]; rw [Tr.get_put_other _ _ (by omega)]; exact wk k h2 (by omega)
        · simp only [go_sem]; rw [Tr.get_put_other _ _ (by omega), wk _ (by omega) (by omega)]; exact d
        · simp only [go_sem]
        · simp only [go_sem]; exact (by (repeat' (first | assumption | exact Nat.le_refl _ | apply le_minN)) <;> omega)
        · simp only [go_sem, Nat.reduceLeDiff]; omega
        · simp only [go_sem]; omega
        · simp only [go_sem]; rw [Tr.get_put_other _ _ (by omega), wk _ (by omega) (by omega)]
        · simp only [go_sem]
          have : minN (h0.next + 4) (minN (h0.next + 4) (minN nx l0)) ≤ h0.next + 4 := minN_le _ _
          omega)
    obtain ⟨P1, P2, P3, P4⟩ := P
    exact ⟨h', e, P1, P2, P3, P4⟩
structure Zs (V : AV) (ms : List Int) : Prop where
  len : ∀ h, lenOf V h 1 = some ms.length
  ia : ∀ (i : Nat) y, ms[i]? = some y → ∀ h, evIaddr V h 1 (.int .i64 (i : Int)) = .val (.vptr (.int .i64 y)) h
theorem Zs_lst (ms : List Int) : Zs (.lst (ms.map AG.encI)) ms := ⟨fun h => by rw [len_lst, List.length_map], fun i y e h => iaddr_map encI_cells e .i64 h⟩
theorem c194 {K : CallF} (hK : Runs K) (hv : KV K) (m0 : Nat) (l : LL) (a : AV) (h : AH) (ha : Lv a l) (hl : l.vars.length ≤ 100) (hvl : VL l) :
    ∃ v nx, h.next ≤ nx ∧ cK K (m0 + 4) (.fn 194 [] []) [a] .no h = some (.ret v, .no, ⟨nx, h.low, h.objs⟩) ∧ ∃ ms : List Int, Zs v ms ∧ ms.length ≤ 100 ∧ ∀ z ∈ ms, ∃ x ∈ l.vars, x.idx < 0 ∧ z = -1 - x.idx := by
  rw [cK_run hK _ 194]
  have key : ∃ v h', evFn EF (cK K (m0 + 3)) 30000 194 [a] .no h = some (.ret v, .no, h') ∧ Gx (fun v => ∃ ms : List Int, Zs v ms ∧ ms.length ≤ 100 ∧ ∀ z ∈ ms, ∃ x ∈ l.vars, x.idx < 0 ∧ z = -1 - x.idx) h v h' := by
    have e1 := fun h => cK_known (hv.r135 a l h ha (by omega)) (m0 + 3)
    rw [vl_t hvl] at e1
    obtain ⟨V, rfl, a1, a2, a3, a4, a5, a6⟩ := ha.ex
    obtain ⟨sa1, sa2⟩ := ha.cs V rfl
    refine evFn_E cf194 (pureF _) ?_
    have n1 : ¬ (h.next = h.next + 1) := by omega
    unfold b194
    simp only [go_sem, Nat.reduceEqDiff, Nat.reduceAdd, Int.reduceNeg, s194_4, s194_3, n1, e1]
    obtain ⟨ob, hob⟩ : ∃ ob, ob = (h.objs.put h.next (.box [.int .i64 l.c, V])).put (h.next + 1) (.box [.nils]) := ⟨_, rfl⟩
    rw [← hob]
    have g3 : ob.get (h.next + 1) = some (.box [.nils]) := by simp only [hob, go_sem]
    obtain ⟨H2, e240, q1, q2, q3, q5⟩ := c240 hK (m0 + 2) V ⟨h.next + 1 + 1, h.next, ob⟩ (sa2 _)
    have q1 : H2.next = h.next + 3 := q1
    have q2 : H2.low = h.next := q2
    have q3 : H2.get (h.next + 2) = some (.box [V]) := q3
    have q5 : ∀ k, k < h.next + 2 → H2.get k = ob.get k := q5
    have main : ∀ tm, nth tm 3 = .ptr (h.next + 1) 0 0 → nth tm 10 = .fn 278 [] [.ptr (h.next + 2) 0 0] →
        R (cK K (m0 + 3)) 30000 [.code (.rangeFunc (.t 10) [11, 12] b194_0 b194_1), .out 0, .code s194_2] (HE (cK K (m0 + 3)) h r194 (Gx (fun v => ∃ ms : List Int, Zs v ms ∧ ms.length ≤ 100 ∧ ∀ z ∈ ms, ∃ x ∈ l.vars, x.idx < 0 ∧ z = -1 - x.idx) h)) .normal ⟨tm, ⟨[], .no, none, 194⟩⟩ H2 := by
      intro tm t3 t10
      obtain ⟨H3, hH3⟩ : ∃ H3, H3 = (H2.new (.dfd false)).new (.loop .ready none tm [11, 12] b194_0 b194_1 194) := ⟨_, rfl⟩
      have w1 : H3.next = h.next + 5 := by rw [hH3, next_new, next_new, q1]
      have w2 : H3.low = H2.low := by rw [hH3, low_new, low_new]
      have w3 : H3.get (h.next + 4) = some (.loop .ready none tm [11, 12] b194_0 b194_1 194) := by
        have e : (H2.new (.dfd false)).next = h.next + 4 := by rw [next_new, q1]
        rw [hH3, ← e, get_new_s]
      have w4 : H3.get (h.next + 3) = some (.dfd false) := by
        rw [hH3, get_new_o (by rw [next_new, q1]; omega), ← q1, get_new_s]
      have w5 : ∀ k, k < h.next + 3 → H3.get k = H2.get k := fun k hk => by rw [hH3, get_new_o (by rw [next_new, q1]; omega), get_new_o (by omega)]
      have s0 : S194 tm h [] H3 := ⟨⟨.nils, by rw [w5 _ (by omega), q5 _ (by omega)]; exact g3, own_nil _ _ _ _⟩, w4, w3, by rw [w2, q2]; exact Nat.le_refl _, by omega⟩
      obtain ⟨v, H4, c1, os, c2, c3, c4, c9⟩ := call278 (cK K (m0 + 2)) 30000 (h.next + 4) (h.next + 2) h.next (h.next + 5) (S194 tm h) (yb194 hK (m0 + 1) tm h t3) l.vars V H3 (by rw [w5 _ (by omega)]; exact q3) sa1 s0 (by omega) (by omega) (by omega) hl hvl.all (by omega)
      have hev : ev (.t 10) tm = .fn 278 [] [.ptr (h.next + 2) 0 0] := t10
      obtain ⟨⟨v', d1, d2⟩, d4, d5, d7, d8⟩ := c2
      refine R_range_at (h.next + 3) (h.next + 4) q1 rfl (by rw [hev, ← hH3, cK_run hK _ 278]; exact c1) d5 rfl ?_
      obtain ⟨nx4, lo4, ob4⟩ := H4
      have d1 : ob4.get (h.next + 1) = some (.box [v']) := d1
      have d4 : ob4.get (h.next + 3) = some (.dfd false) := d4
      have d7 : h.next ≤ lo4 := d7
      have d8 : h.next + 5 ≤ nx4 := d8
      have k1 : ¬ (h.next + 1 = h.next + 4) := by omega
      have k3 : ¬ (h.next + 3 = h.next + 4) := by omega
      simp only [go_sem, Int.reduceNeg, s194_2, t3, d1, k1]
      refine ⟨rfl, .inr rfl, _, defs_mark (by simp only [go_sem, k3]; exact d4), _, by simp only [go_sem, r194]; rfl, .inl ⟨(by (repeat' (first | assumption | exact Nat.le_refl _ | apply le_minN)) <;> omega), ?_, by show h.next ≤ nx4; omega, rfl, rfl⟩⟩
      rw [one_1]
      have o5 := own_keep (h' := ⟨nx4, minN (h.next + 3) (minN (h.next + 4) lo4), (ob4.put (h.next + 4) (.loop .exhausted none tm [11, 12] b194_0 b194_1 194)).put (h.next + 3) (.dfd true)⟩) d2 (Nat.le_refl _) (fun k h1 _ => by rw [get_mk, Tr.get_put_other _ _ (by omega), Tr.get_put_other _ _ (by omega)]; rfl)
      rcases own_frzB (fb := h.next) (m := 3) o5 (by omega) (fun _ => rfl) (fun y hy => by obtain ⟨z, _, rfl⟩ := List.mem_map.1 hy; exact frz_int _ _ _ _) with ⟨rfl, e, f⟩ | f
      · have : os = [] := by simpa using e
        subst this
        exact ⟨[], cast (congrArg (fun z => Zs z []) f.symm) ⟨fun _ => rfl, fun i y e => by simp at e⟩, by simp, by simp⟩
      · exact ⟨os, cast (congrArg (fun z => Zs z os) f.symm) (Zs_lst os), c9, c4⟩
    simp only [go_sem, Int.reduceNeg, e240]
    exact main _ (by simp only [go_sem, Nat.reduceEqDiff]) (by simp only [go_sem])
  obtain ⟨v, h', e, g⟩ := key
  obtain ⟨nx, g1, rfl⟩ := Gx_eq g
  exact ⟨v, nx, g1, e, g.1⟩
end Go.Proofs.YtnacljdablhbgaaGreat
