/- SolverFinishes: the table of functions; valid levels (no condition). -/
import Derived.Test.YtnacljdablhbgaaGreatBb
import Derived.Test.YtnacljdablhbgaaGreatCc
namespace Go.Proofs.YtnacljdablhbgaaGreat
open Go.AG
theorem hEF : EnvOk CI EF := env_ok Tryz.prog keepI _ hmix hnames
theorem pureF (f : FuncId) (h : impF f = false := by rfl) : EF.pure f = true := by show (!(impF f)) = true; rw [h]; rfl
def Rng (x : LV) : Prop := -65536 ≤ x.idx ∧ x.idx ≤ 7 ∧ 0 ≤ x.plus ∧ x.plus ≤ 100
structure VL (l : LL) : Prop where
  c0 : 0 ≤ l.c
  c1 : l.c ≤ 100
  rng : ∀ (i : Nat) x, l.vars[i]? = some x → Rng x
  ord : ∀ (i : Nat) x y, l.vars[i]? = some x → l.vars[i + 1]? = some y → x.idx < y.idx
  cov : 0 < l.c → ∀ (i : Nat) x, l.vars[i]? = some x → x.plus < l.c
open Classical in
noncomputable def vl (l : LL) : Bool := decide (VL l)
open Classical in
theorem vl_t {l : LL} (h : VL l) : vl l = true := by unfold vl; exact decide_eq_true h
open Classical in
theorem vl_f {l : LL} (h : ¬ VL l) : vl l = false := by unfold vl; exact decide_eq_false h
open Classical in
structure Pre (P : LV → Prop) (vs : List LV) (m : Nat) : Prop where
  rng : ∀ (i : Nat) x, i < m → vs[i]? = some x → P x
  ord : ∀ (i : Nat) x y, i + 1 < m → vs[i]? = some x → vs[i + 1]? = some y → x.idx < y.idx
theorem Pre.zero {P : LV → Prop} {vs : List LV} : Pre P vs 0 := ⟨fun i x h => absurd h (by omega), fun i x y h => absurd h (by omega)⟩
theorem Pre.succ0 {P : LV → Prop} {vs : List LV} {x : LV} (hx : vs[0]? = some x) (hp : P x) : Pre P vs 1 :=
  ⟨fun i y h e => by obtain rfl : i = 0 := by omega
                     rw [hx] at e; cases e; exact hp, fun i x y h => absurd h (by omega)⟩
theorem Pre.succ {P : LV → Prop} {vs : List LV} {p : Nat} {x y : LV} (h : Pre P vs (p + 1)) (hx : vs[p]? = some x) (hy : vs[p + 1]? = some y) (hp : P y) (ho : x.idx < y.idx) : Pre P vs (p + 1 + 1) := by
  refine ⟨fun i z hi e => ?_, fun i a b hi ea eb => ?_⟩
  · by_cases hi' : i < p + 1
    · exact h.rng i z hi' e
    · obtain rfl : i = p + 1 := by omega
      rw [hy] at e; cases e; exact hp
  · by_cases hi' : i + 1 < p + 1
    · exact h.ord i a b hi' ea eb
    · obtain rfl : i = p := by omega
      rw [hx] at ea; rw [hy] at eb; cases ea; cases eb; exact ho
def vB (l : LL) (o : AOut) : Prop := o = .ret (.bool (vl l))
theorem vB_b (l : LL) (b : Bool) : vB l (.ret (.bool b)) = (b = vl l) := by simp [vB]
def P21 (c : Int) (x : LV) : Prop := Rng x ∧ (0 < c → x.plus < c)
def I21x (c : Int) (vs : List LV) (j : Nat) (fr : AF) (h : AH) : Prop := ∃ tm m nx lo ob, m + j = vs.length ∧ fr = ⟨tm, ⟨[], .no, none, 21⟩⟩ ∧ h = ⟨nx, lo, ob⟩ ∧ 0 < nx ∧ ob.get 0 = some (.box [.int .i64 c, .lst (vs.map encV)]) ∧
    nth tm 1 = .ptr 0 0 0 ∧ nth tm 3 = .int .i64 (m : Int) ∧ 0 ≤ c ∧ c ≤ 100 ∧ Pre (P21 c) vs m
theorem I21x_next {c : Int} {vs : List LV} {j m : Nat} {tm : Tm} {nx lo : Nat} {ob : Tr AObj} (hm : m + j = vs.length) (hlt : m < vs.length) (q1 : 0 < nx) (q2 : ob.get 0 = some (.box [.int .i64 c, .lst (vs.map encV)])) (q3 : nth tm 1 = .ptr 0 0 0) (q4 : nth tm 3 = .int .i64 ((m + 1 : Nat) : Int))
    (c0 : 0 ≤ c) (c1 : c ≤ 100) (hp : Pre (P21 c) vs (m + 1)) :
    ∃ j', j' < j ∧ I21x c vs j' ⟨tm, ⟨[], .no, none, 21⟩⟩ ⟨nx, lo, ob⟩ := ⟨j - 1, by omega, tm, m + 1, nx, lo, ob, by omega, rfl, rfl, q1, q2, q3, q4, c0, c1, hp⟩
theorem not_VL {c : Int} {vs : List LV} {m : Nat} {x : LV} (hx : vs[m]? = some x) (h : ¬ (Rng x ∧ (0 < c → x.plus < c))) : false = vl ⟨c, vs⟩ :=
  (vl_f fun v => h ⟨v.rng m x hx, fun hc => v.cov hc m x hx⟩).symm
theorem not_VLo {c : Int} {vs : List LV} {m : Nat} {x y : LV} (hx : vs[m]? = some x) (hy : vs[m + 1]? = some y) (h : ¬ x.idx < y.idx) : false = vl ⟨c, vs⟩ :=
  (vl_f fun v => h (v.ord m x y hx hy)).symm
theorem not_VLc {c : Int} {vs : List LV} (h : ¬ (0 ≤ c ∧ c ≤ 100)) : false = vl ⟨c, vs⟩ := (vl_f fun v => h ⟨v.c0, v.c1⟩).symm
theorem is_VL {c : Int} {vs : List LV} (c0 : 0 ≤ c) (c1 : c ≤ 100) (hp : Pre (P21 c) vs vs.length) : true = vl ⟨c, vs⟩ := by
  have lt : ∀ {i : Nat} {x}, vs[i]? = some x → i < vs.length := fun e => (List.getElem?_eq_some_iff.1 e).1
  exact (vl_t ⟨c0, c1, fun i x e => (hp.rng i x (lt e) e).1, fun i x y e e' => hp.ord i x y (lt e') e e', fun hc i x e => (hp.rng i x (lt e) e).2 hc⟩).symm
theorem run21x (call : CallF) (n : Nat) (c : Int) (vs : List LV) (hn : vs.length < n) (hl : vs.length < 9223372036854775807) :
    R call n [.code b21] (FX r21 (vB ⟨c, vs⟩)) .normal ⟨startTm [encL ⟨c, vs⟩], ⟨[], .no, none, 21⟩⟩ emptyH := by
  unfold b21 r21 emptyH encL
  repeat' (first | simp only [go_sem, Nat.reduceEqDiff, Nat.reduceAdd, *, s21_7, s21_6, FX_ret, vB_b] | refine sG_nbool (fun _ => ?_) (fun _ => ?_) | refine sG_bool (fun _ => ?_) (fun _ => ?_) | refine sB_nbool (fun _ => ?_) (fun _ => ?_) | refine sB_bool (fun _ => ?_) (fun _ => ?_) | refine dC_nbool (fun _ => ?_) (fun _ => ?_) | refine dC_bool (fun _ => ?_) (fun _ => ?_))
  · simp only [decide_eq_true_eq, decide_eq_false_iff_not, Int.not_lt] at *; exact not_VLc (by omega)
  rotate_left
  · simp only [decide_eq_true_eq] at *; exact not_VLc (by omega)
  simp only [decide_eq_false_iff_not, Int.not_lt] at *
  refine R_loop (I21x c vs) vs.length hn ⟨_, 0, _, _, _, Nat.zero_add _, rfl, rfl, Nat.zero_lt_one, by simp only [go_sem], by simp only [go_sem, Nat.reduceEqDiff], by simp only [go_sem]; rfl, by omega, by omega, .zero⟩ ?_
  rintro j fr h ⟨tm, m, nx, lo, ob, hm, rfl, rfl, hnx, hg, h1, h3, c0, c1, hp⟩
  unfold b21_4
  simp only [go_sem, Nat.reduceEqDiff, h1, h3, hg]
  refine sB_dec (fun hlt => ?_) (fun hge => ?_)
  · have hlt : m < vs.length := by omega
    have hget : vs[m]? = some vs[m] := List.getElem?_eq_getElem hlt
    have ha := fun h => iaddr_map encV_cells hget .i64 h
    have hw2 := wrap_succ m (by omega)
    have hne : ¬ (0 = nx) := by omega
    have hv : encV vs[m] = .agg [.int .i64 vs[m].idx, .int .i64 vs[m].plus] := rfl
    cases m with
    | zero =>
      have hd : decide ((0 : Int) < ((0 : Nat) : Int)) = false := by simp
      repeat' (first | simp only [go_sem, Nat.reduceEqDiff, Nat.reduceAdd, Int.reduceNeg, *, s21_3, s21_2, s21_1, s21_0, FX_ret, vB_b] | refine sG_nbool (fun _ => ?_) (fun _ => ?_) | refine sG_bool (fun _ => ?_) (fun _ => ?_) | refine sB_nbool (fun _ => ?_) (fun _ => ?_) | refine sB_bool (fun _ => ?_) (fun _ => ?_) | refine dC_nbool (fun _ => ?_) (fun _ => ?_) | refine dC_bool (fun _ => ?_) (fun _ => ?_))
      all_goals simp only [decide_eq_true_eq, decide_eq_false_iff_not, Int.not_lt, Int.not_le] at *
      all_goals first
        | (refine not_VL hget fun hh => ?_; obtain ⟨⟨_, _, _, _⟩, hh2⟩ := hh; (try have := hh2 (by assumption)); omega)
        | (refine I21x_next hm hlt (by omega) (by simp only [go_sem, *]) (by simp only [go_sem, Nat.reduceEqDiff, *]) (by simp only [go_sem, *]) c0 c1 (.succ0 hget ⟨⟨by omega, by omega, by omega, by omega⟩, fun _ => by omega⟩))
    | succ p =>
      have hgp : vs[p]? = some vs[p] := List.getElem?_eq_getElem (by omega)
      have ha3 := fun h => iaddr_map encV_cells hgp .i64 h
      have hv3 : encV vs[p] = .agg [.int .i64 vs[p].idx, .int .i64 vs[p].plus] := rfl
      have hw3 : IntKind.wrap .i64 (((p + 1 : Nat) : Int) - 1) = (p : Int) := by rw [wrap_fits _ (by omega) (by omega)]; omega
      have hd : decide ((0 : Int) < ((p + 1 : Nat) : Int)) = true := by simp
      repeat' (first | simp only [go_sem, Nat.reduceEqDiff, Nat.reduceAdd, Int.reduceNeg, *, s21_3, s21_2, s21_1, s21_0, FX_ret, vB_b] | refine sG_nbool (fun _ => ?_) (fun _ => ?_) | refine sG_bool (fun _ => ?_) (fun _ => ?_) | refine sB_nbool (fun _ => ?_) (fun _ => ?_) | refine sB_bool (fun _ => ?_) (fun _ => ?_) | refine dC_nbool (fun _ => ?_) (fun _ => ?_) | refine dC_bool (fun _ => ?_) (fun _ => ?_))
      all_goals simp only [decide_eq_true_eq, decide_eq_false_iff_not, Int.not_lt, Int.not_le] at *
      all_goals first
        | (refine not_VLo hgp hget ?_; omega)
        | (refine not_VL hget fun hh => ?_; obtain ⟨⟨_, _, _, _⟩, hh2⟩ := hh; (try have := hh2 (by assumption)); omega)
        | (refine I21x_next hm hlt (by omega) (by simp only [go_sem, *]) (by simp only [go_sem, Nat.reduceEqDiff, *]) (by simp only [go_sem, *]) c0 c1 (.succ hp hgp hget ⟨⟨by omega, by omega, by omega, by omega⟩, fun _ => by omega⟩ (by omega)))
  · have : m = vs.length := by omega
    subst this
    repeat' (first | simp only [go_sem, *, s21_5, FX_ret, vB_b] | refine sG_nbool (fun _ => ?_) (fun _ => ?_) | refine sG_bool (fun _ => ?_) (fun _ => ?_) | refine sB_nbool (fun _ => ?_) (fun _ => ?_) | refine sB_bool (fun _ => ?_) (fun _ => ?_) | refine dC_nbool (fun _ => ?_) (fun _ => ?_) | refine dC_bool (fun _ => ?_) (fun _ => ?_))
    exact is_VL c0 c1 hp
def Gx (P : AV → Prop) (h : AH) (v : AV) (h' : AH) : Prop := P v ∧ h.next ≤ h'.next ∧ h'.low = h.low ∧ h'.objs = h.objs
theorem Gx_eq {P : AV → Prop} {h h' : AH} {v : AV} (g : Gx P h v h') : ∃ nx, h.next ≤ nx ∧ h' = ⟨nx, h.low, h.objs⟩ := by
  obtain ⟨_, g1, g2, g3⟩ := g
  refine ⟨h'.next, g1, ?_⟩
  cases h'; simp at g2 g3; subst g2 g3; rfl
theorem HQ_gx {h0 : AH} {rs : List ARes} {P : AV → Prop} {tm : Tm} {rnd : Option Nat} {f : FuncId} {h1 : AH} {e : AEx} {vs : List AV} (he : e = .normal ∨ e = .ret) (hl : h0.next ≤ h1.low) (hn : h0.next ≤ h1.next) (hv : evRes rs tm h1 = some vs) (hP : P (frz 4 h1 h0.next (AG.one vs))) :
    HQ h0 rs (Gx P h0) e ⟨tm, ⟨[], .no, rnd, f⟩⟩ h1 := HQ_keep he hl hv ⟨hP, hn, rfl, rfl⟩
structure Rd {α : Type} (f : α → AV) (sz b : Nat) (h0 : AH) (V : AV) (l : List α) : Prop where
  len : ∀ h, lenOf V h 1 = some l.length
  get : ∀ (i : Nat) x, l[i]? = some x → ∃ p, ∀ h : AH, (∀ k, k < b → h.get k = h0.get k) → evIaddr V h sz (.int .i64 (i : Int)) = .val p h ∧ evLoad p h true sz = some (f x)
  cell : V.cells = [V]
  lies : V.lies = true
  frz : ∀ m h b', b ≤ b' → AG.frz m h b' V = V
theorem Rd.mono {α : Type} {f : α → AV} {sz b b' : Nat} {h0 h1 : AH} {V : AV} {l : List α} (r : Rd f sz b h0 V l) (hb : b ≤ b') (hg : ∀ k, k < b → h1.get k = h0.get k) : Rd f sz b' h1 V l :=
  ⟨r.len, fun i x e => (r.get i x e).imp fun p hp h hk => hp h fun k hk' => (hk k (by omega)).trans (hg k hk'), r.cell, r.lies, fun m h b'' hb' => r.frz m h b'' (Nat.le_trans hb hb')⟩
theorem Rd.lst {α : Type} {f : α → AV} {sz b : Nat} {h0 : AH} (hf : ∀ x, (f x).cells.length = sz) (ha : ∀ x, (f x).isAgg = true) (l : List α) : Rd f sz b h0 (.lst (l.map f)) l :=
  ⟨fun h => by rw [len_lst, List.length_map], fun i x e => ⟨.vptr (f x), fun h _ => ⟨iaddr_map hf e .i64 h, load_vptr true sz (ha x) (hf x)⟩⟩, rfl, rfl, fun m h b' _ => frz_lst m b' _⟩
def I159 (V : AV) (vs : List LV) (f : AV) (p : LV → Bool) (b : Nat) (ob : Tr AObj) (j : Nat) (fr : AF) (h : AH) : Prop := ∃ tm m nx, m + j = vs.length ∧ fr = ⟨tm, ⟨[], .no, none, 159⟩⟩ ∧ h = ⟨nx, b, ob⟩ ∧ b ≤ nx ∧
    nth tm 0 = V ∧ nth tm 1 = f ∧ nth tm 7 = .int .i64 (vs.length : Int) ∧ nth tm 8 = .int .i64 (m : Int) ∧ ∀ (i : Nat) x, i < m → vs[i]? = some x → p x = false
theorem any_false {α : Type} {p : α → Bool} {l : List α} (h : ∀ (i : Nat) x, i < l.length → l[i]? = some x → p x = false) : l.any p = false := by
  rw [List.any_eq_false]
  intro x hx
  obtain ⟨i, hi, rfl⟩ := List.mem_iff_getElem.1 hx
  rw [h i _ hi (List.getElem?_eq_getElem hi)]; simp
theorem any_true {α : Type} {p : α → Bool} {l : List α} {i : Nat} {x : α} (hx : l[i]? = some x) (hp : p x = true) : l.any p = true := List.any_eq_true.2 ⟨x, List.mem_of_getElem? hx, hp⟩
theorem call159 (call : CallF) (n : Nat) (V : AV) (vs : List LV) (f : AV) (p : LV → Bool) (h : AH) (hV : Rd encV 2 h.next h V vs) (hn : vs.length < n) (hl : vs.length < 9223372036854775807)
    (hf : ∀ (i : Nat) x nx, vs[i]? = some x → h.next ≤ nx → ∃ nx', nx ≤ nx' ∧ call f [encV x] .no ⟨nx, h.next, h.objs⟩ = some (.ret (.bool (p x)), .no, ⟨nx', h.next, h.objs⟩)) :
    ∃ v h', evFn EF call n 159 [V, f] .no h = some (.ret v, .no, h') ∧ Gx (fun v => ∃ e : Int, v = .int .i64 e ∧ decide (0 ≤ e) = vs.any p) h v h' := by
  refine evFn_H cf159 (pureF _) ?_
  unfold b159
  simp only [go_sem, reduceCtorEq, s159_5, hV.len]
  refine R_loop (I159 V vs f p h.next h.objs) vs.length hn ⟨_, 0, _, Nat.zero_add _, rfl, rfl, Nat.le_refl _, by simp only [go_sem, reduceCtorEq], by simp only [go_sem, Nat.reduceEqDiff], by simp only [go_sem, Nat.reduceEqDiff], by simp only [go_sem]; rfl, fun i x hi => absurd hi (by omega)⟩ ?_
  rintro j fr H ⟨tm, m, nx, hm, rfl, rfl, hnx, t0, t1, t7, t8, hp⟩
  unfold b159_3
  simp only [go_sem, s159_2, t7, t8]
  refine sB_dec (fun hlt => ?_) (fun hge => ?_)
  · have hlt : m < vs.length := by omega
    have hget : vs[m]? = some vs[m] := List.getElem?_eq_getElem hlt
    obtain ⟨p', hp'⟩ := hV.get m _ hget
    have ha := (hp' ⟨nx, h.next, h.objs⟩ (fun _ _ => rfl)).1
    have hb := (hp' ⟨nx, h.next, h.objs⟩ (fun _ _ => rfl)).2
    have hw2 := wrap_succ m (by omega)
    obtain ⟨nx', hle, e1⟩ := hf m _ nx hget hnx
    simp only [go_sem, Nat.reduceEqDiff, reduceCtorEq, s159_1, s159_0, t0, t1, t8, ha, hb, e1]
    refine sB_bool (fun hb => ?_) (fun hb => ?_)
    · simp only [go_sem, Nat.reduceEqDiff]
      refine HQ_gx (.inr rfl) (Nat.le_refl _) (by show h.next ≤ nx'; omega) (by simp only [go_sem, r159]; rfl) ⟨(m : Int), by rw [one_1, frz_int], ?_⟩
      rw [any_true hget hb]; simp
    · simp only [go_sem, Nat.reduceEqDiff, hw2, t8]
      refine ⟨j - 1, by omega, _, m + 1, nx', by omega, rfl, rfl, by omega, by simp only [go_sem, reduceCtorEq, t0], by simp only [go_sem, Nat.reduceEqDiff, t1], by simp only [go_sem, Nat.reduceEqDiff, t7], by simp only [go_sem], fun i x hi hx => ?_⟩
      by_cases hi' : i < m
      · exact hp i x hi' hx
      · obtain rfl : i = m := by omega
        rw [hget] at hx; cases hx; exact hb
  · have : m = vs.length := by omega
    subst this
    simp only [go_sem, Int.reduceNeg, s159_4]
    refine HQ_gx (.inr rfl) (Nat.le_refl _) hnx (by simp only [go_sem, Int.reduceNeg, r159]; rfl) ⟨-1, by rw [one_1, frz_int], ?_⟩
    rw [any_false (fun i x hi hx => hp i x hi hx)]; rfl
theorem call109 (call : CallF) (n : Nat) (V : AV) (vs : List LV) (f : AV) (p : LV → Bool) (h : AH)
    (h159 : ∀ lo, ∃ v nx, call (.fn 159 [] []) [V, f] .no ⟨h.next, lo, h.objs⟩ = some (.ret v, .no, ⟨nx, lo, h.objs⟩) ∧ h.next ≤ nx ∧ ∃ e : Int, v = .int .i64 e ∧ decide (0 ≤ e) = vs.any p) :
    ∃ v h', evFn EF call n 109 [V, f] .no h = some (.ret v, .no, h') ∧ Gx (fun v => v = .bool (vs.any p)) h v h' := by
  refine evFn_H cf109 (pureF _) ?_
  unfold b109
  obtain ⟨v, nx, e1, hle, e, rfl, he⟩ := h159 h.next
  simp only [go_sem, Nat.reduceEqDiff, reduceCtorEq, s109_0, e1, he]
  exact HQ_gx (.inr rfl) (Nat.le_refl _) hle (by simp only [go_sem, r109]; rfl) (by rw [one_1, frz_bool])
theorem call238 (call : CallF) (n : Nat) (x : LV) (c : Int) (V : AV) (kb : Nat) (h : AH) (hkb : h.get kb = some (.box [.int .i64 c, V])) (hlt : kb < h.next) :
    ∃ v h', evFn EF call n 238 [encV x, .ptr kb 0 0] .no h = some (.ret v, .no, h') ∧ Gx (fun v => v = .bool (decide (c ≤ x.plus))) h v h' := by
  refine evFn_H cf238 (pureF _) ?_
  unfold b238 encV
  have hne : ¬ (kb = h.next) := by omega
  have gk : h.objs.get kb = some (.box [.int .i64 c, V]) := hkb
  simp only [go_sem, Nat.reduceEqDiff, Nat.reduceAdd, reduceCtorEq, s238_0, hne, gk]
  exact HQ_gx (.inr rfl) (Nat.le_refl _) (by show h.next ≤ h.next + 1; omega) (by simp only [go_sem, r238]; rfl) (by rw [one_1, frz_bool])
def covd (l : LL) : Bool := l.vars.any fun x => decide (l.c ≤ x.plus)
def runF : List Nat := [238, 159, 109, 192, 199, 208, 68, 25, 163, 164, 165, 166, 167, 115, 210, 137, 196, 198, 241, 99, 100, 142, 200, 201, 55, 57, 240, 278, 202, 242, 243, 140, 146, 141, 147, 139, 145, 143, 138, 144, 194, 136, 195, 193, 239, 98, 50, 197, 53, 54, 97, 56, 14, 15, 17, 4, 12]
structure Runs (K : CallF) : Prop where
  fn : ∀ f, f ∈ runF → ∀ c a rc h, K (.fn f [] c) a rc h = none
  yld : ∀ l a rc h, K (.yld l) a rc h = none
noncomputable def cK (K : CallF) (m : Nat) : CallF := mix K EF 30000 m
theorem cK_run {K : CallF} (hK : Runs K) (m : Nat) (f : Nat) (c a : List AV) (h : AH) (hf : f ∈ runF := by decide) : cK K (m + 1) (.fn f [] c) a .no h = evFn EF (cK K m) 30000 f (a ++ c) .no h := mix_run (hK.fn f hf c a .no h)
theorem cK_ok {K : CallF} (hk : CallOk CI K) (m : Nat) : CallOk CI (cK K m) := mix_ok hEF hk 30000 m
theorem cK_known {K : CallF} {f : AV} {a : List AV} {rc : RC} {h : AH} {r : AOut × RC × AH} (e : K f a rc h = some r) (m : Nat) : cK K m f a rc h = some r := mix_known e m
theorem c238 {K : CallF} (hK : Runs K) (m : Nat) (x : LV) (c : Int) (V : AV) (kb : Nat) (h : AH) (hkb : h.get kb = some (.box [.int .i64 c, V])) (hlt : kb < h.next) :
    ∃ nx, h.next ≤ nx ∧ cK K (m + 1) (.fn 238 [] [.ptr kb 0 0]) [encV x] .no h = some (.ret (.bool (decide (c ≤ x.plus))), .no, ⟨nx, h.low, h.objs⟩) := by
  rw [cK_run hK _ 238]
  obtain ⟨v, h', e, g⟩ := call238 (cK K m) 30000 x c V kb h hkb hlt
  obtain ⟨nx, h1, rfl⟩ := Gx_eq g
  obtain ⟨rfl, _⟩ := g
  exact ⟨nx, h1, e⟩
theorem c109 {K : CallF} (hK : Runs K) (m : Nat) (V : AV) (vs : List LV) (c : List AV) (fc : Nat) (p : LV → Bool) (h : AH) (hV : Rd encV 2 h.next h V vs) (hl : vs.length < 30000)
    (hf : ∀ (i : Nat) x nx lo, vs[i]? = some x → h.next ≤ nx → ∃ nx', nx ≤ nx' ∧ cK K m (.fn fc [] c) [encV x] .no ⟨nx, lo, h.objs⟩ = some (.ret (.bool (p x)), .no, ⟨nx', lo, h.objs⟩)) :
    ∃ nx, h.next ≤ nx ∧ cK K (m + 2) (.fn 109 [] []) [V, .fn fc [] c] .no h = some (.ret (.bool (vs.any p)), .no, ⟨nx, h.low, h.objs⟩) := by
  rw [cK_run hK _ 109]
  obtain ⟨v, h', e, g⟩ := call109 (cK K (m + 1)) 30000 V vs (.fn fc [] c) p h (fun lo => by
    rw [cK_run hK _ 159]
    obtain ⟨v, h', e, g⟩ := call159 (cK K m) 30000 V vs (.fn fc [] c) p ⟨h.next, lo, h.objs⟩ (hV.mono (Nat.le_refl _) (fun _ _ => rfl)) hl (by omega) (fun i x nx hx hn => hf i x nx _ hx hn)
    obtain ⟨nx, h1, rfl⟩ := Gx_eq g
    exact ⟨v, nx, e, h1, g.1⟩)
  obtain ⟨nx, h1, rfl⟩ := Gx_eq g
  obtain ⟨rfl, _⟩ := g
  exact ⟨nx, h1, e⟩
theorem c192 {K : CallF} (hK : Runs K) (m : Nat) (V : AV) (c : Int) (vs : List LV) (h : AH) (hV : Rd encV 2 h.next h V vs) (hl : vs.length < 30000) :
    ∃ nx, h.next ≤ nx ∧ cK K (m + 4) (.fn 192 [] []) [.agg [.int .i64 c, V]] .no h = some (.ret (.bool (covd ⟨c, vs⟩)), .no, ⟨nx, h.low, h.objs⟩) := by
  rw [cK_run hK _ 192]
  have hc := hV.cell
  have hli := hV.lies
  have key : ∃ v h', evFn EF (cK K (m + 3)) 30000 192 [.agg [.int .i64 c, V]] .no h = some (.ret v, .no, h') ∧ Gx (fun v => v = .bool (covd ⟨c, vs⟩)) h v h' := by
    refine evFn_H cf192 (pureF _) ?_
    unfold b192
    obtain ⟨ob, hob⟩ : ∃ ob, ob = h.objs.put h.next (.box [.int .i64 c, V]) := ⟨_, rfl⟩
    have g1 : ob.get h.next = some (.box [.int .i64 c, V]) := by rw [hob, Tr.get_put_same]
    obtain ⟨nx, hnx, e1⟩ := c109 hK (m + 1) V vs [.ptr h.next 0 0] 238 (fun x => decide (c ≤ x.plus)) ⟨h.next + 1, h.next, ob⟩
      (hV.mono (by show h.next ≤ h.next + 1; omega) (fun k hk => by show ob.get k = h.objs.get k; rw [hob, Tr.get_put_other _ _ (by omega)])) hl
      (fun i x nx lo hx hn => c238 hK m x c V h.next ⟨nx, lo, ob⟩ g1 (by show h.next < nx; replace hn : h.next + 1 ≤ nx := hn; omega))
    have hnx : h.next + 1 ≤ nx := hnx
    simp only [go_sem, Nat.reduceAdd]
    rw [← hob]
    simp only [go_sem, Nat.reduceEqDiff, s192_0, g1, e1]
    refine HQ_gx (.inr rfl) (Nat.le_refl _) (by show h.next ≤ nx; omega) (by simp only [go_sem, r192]; rfl) (by rw [one_1, frz_bool]; rfl)
  obtain ⟨v, h', e, g⟩ := key
  obtain ⟨nx, h1, rfl⟩ := Gx_eq g
  obtain ⟨rfl, _⟩ := g
  exact ⟨nx, h1, e⟩
def big (l : LL) : Bool := l.vars.any (fun x => decide (100 < x.plus)) || decide (100 < l.c)
def limP (c : Int) (vs : List LV) (V v : AV) : Prop :=
  (big ⟨c, vs⟩ = true ∧ v = .tup [.agg [.int .i64 0, .nils], .int .i64 15]) ∨ (big ⟨c, vs⟩ = false ∧ v = .tup [.agg [.int .i64 (cond (covd ⟨c, vs⟩) 0 c), V], .int .i64 0])
def I199 (c : Int) (V : AV) (vs : List LV) (h0 : AH) (j : Nat) (fr : AF) (h : AH) : Prop := ∃ tm m nx lo ob, m + j = vs.length ∧ fr = ⟨tm, ⟨[], .no, none, 199⟩⟩ ∧ h = ⟨nx, lo, ob⟩ ∧ h0.next ≤ lo ∧ h0.next + 2 ≤ nx ∧
    ob.get h0.next = some (.box [.int .i64 c, V]) ∧ ob.get (h0.next + 1) = some (.box [.int .i64 0, .nils]) ∧ (∀ k, k < h0.next → ob.get k = h0.objs.get k) ∧
    nth tm 1 = .ptr h0.next 0 0 ∧ nth tm 2 = .ptr (h0.next + 1) 0 0 ∧ nth tm 3 = .int .i64 0 ∧ nth tm 7 = V ∧ nth tm 8 = .int .i64 (vs.length : Int) ∧ nth tm 9 = .int .i64 (m : Int) ∧ ∀ (i : Nat) x, i < m → vs[i]? = some x → decide (100 < x.plus) = false
theorem c199 {K : CallF} (hK : Runs K) (m : Nat) (V : AV) (c : Int) (vs : List LV) (h : AH) (hV : Rd encV 2 h.next h V vs) (hl : vs.length < 30000) :
    ∃ v nx, h.next ≤ nx ∧ cK K (m + 5) (.fn 199 [] []) [.agg [.int .i64 c, V]] .no h = some (.ret v, .no, ⟨nx, h.low, h.objs⟩) ∧ limP c vs V v := by
  rw [cK_run hK _ 199]
  have hc := hV.cell
  have hli := hV.lies
  have hfz := hV.frz
  have n1 : ¬ (h.next = h.next + 1) := by omega
  have n2 : ¬ (h.next + 1 = h.next) := by omega
  have key : ∃ v h', evFn EF (cK K (m + 4)) 30000 199 [.agg [.int .i64 c, V]] .no h = some (.ret v, .no, h') ∧ Gx (limP c vs V) h v h' := by
    refine evFn_H cf199 (pureF _) ?_
    unfold b199
    simp only [go_sem, Nat.reduceEqDiff, Nat.reduceAdd, s199_7, n1, hV.len]
    refine R_loop (I199 c V vs h) vs.length (by omega) ⟨_, 0, _, _, _, Nat.zero_add _, rfl, rfl, Nat.le_refl _, by omega, by simp only [go_sem, n1], by simp only [go_sem], fun k hk => by rw [Tr.get_put_other _ _ (by omega), Tr.get_put_other _ _ (by omega)], by simp only [go_sem, Nat.reduceEqDiff], by simp only [go_sem, Nat.reduceEqDiff], by simp only [go_sem, Nat.reduceEqDiff], by simp only [go_sem, Nat.reduceEqDiff], by simp only [go_sem, Nat.reduceEqDiff], by simp only [go_sem]; rfl, fun i x hi => absurd hi (by omega)⟩ ?_
    rintro j fr H ⟨tm, q, nx, lo, ob, hm, rfl, rfl, hlo, hnx, g1, g2, gk, t1, t2, t3, t7, t8, t9, hp⟩
    unfold b199_3
    simp only [go_sem, s199_2, t8, t9]
    refine sB_dec (fun hlt => ?_) (fun hge => ?_)
    · have hlt : q < vs.length := by omega
      have hget : vs[q]? = some vs[q] := List.getElem?_eq_getElem hlt
      obtain ⟨p', hp'⟩ := hV.get q _ hget
      have ha := (hp' ⟨nx, lo, ob⟩ gk).1
      have hb := (hp' ⟨nx, lo, ob⟩ gk).2
      have hw2 := wrap_succ q (by omega)
      have hv : encV vs[q] = .agg [.int .i64 vs[q].idx, .int .i64 vs[q].plus] := rfl
      rw [hv] at hb
      have n3 : ¬ (h.next + 1 = nx) := by omega
      have n4 : ¬ (h.next = nx) := by omega
      simp only [go_sem, Nat.reduceEqDiff, Nat.reduceAdd, s199_1, s199_0, t7, t9, ha, hb]
      refine sB_dec (fun hbg => ?_) (fun hbg => ?_)
      · simp only [go_sem, Nat.reduceEqDiff, Nat.reduceAdd, t2, n3, g2]
        refine HQ_gx (.inr rfl) (by (repeat' (first | assumption | exact Nat.le_refl _ | apply le_minN)) <;> omega) (by show h.next ≤ nx + 1; omega) (by simp only [go_sem, Nat.reduceEqDiff, Nat.reduceAdd, r199, t2]; rfl) (.inl ⟨?_, ?_⟩)
        · unfold big; rw [any_true hget (decide_eq_true hbg)]; rfl
        · rw [one_2, frz_tupS]; simp only [List.map_cons, List.map_nil, frz_aggS, frz_int, frz_nils]
      · simp only [go_sem, Nat.reduceEqDiff, hw2, t9]
        refine ⟨j - 1, by omega, _, q + 1, _, _, _, by omega, rfl, rfl, (by (repeat' (first | assumption | exact Nat.le_refl _ | apply le_minN)) <;> omega), by omega, by simp only [go_sem, n4, g1], by simp only [go_sem, n3, g2], fun k hk => by rw [Tr.get_put_other _ _ (by omega), Tr.get_put_other _ _ (by omega)]; exact gk k hk, by simp only [go_sem, Nat.reduceEqDiff, t1], by simp only [go_sem, Nat.reduceEqDiff, t2], by simp only [go_sem, Nat.reduceEqDiff, t3], by simp only [go_sem, Nat.reduceEqDiff, t7], by simp only [go_sem, Nat.reduceEqDiff, t8], by simp only [go_sem], fun i x hi hx => ?_⟩
        by_cases hi' : i < q
        · exact hp i x hi' hx
        · obtain rfl : i = q := by omega
          rw [hget] at hx; cases hx; exact decide_eq_false hbg
    · have : q = vs.length := by omega
      subst this
      have hnb := any_false (fun i x hi hx => hp i x hi hx)
      simp only [go_sem, Nat.reduceEqDiff, s199_6, t1, g1]
      refine sB_dec (fun hbg => ?_) (fun hbg => ?_)
      · simp only [go_sem, Nat.reduceEqDiff, Nat.reduceAdd, t2, g2]
        refine HQ_gx (.inr rfl) (by (repeat' (first | assumption | exact Nat.le_refl _ | apply le_minN)) <;> omega) (by show h.next ≤ nx; omega) (by simp only [go_sem, Nat.reduceEqDiff, Nat.reduceAdd, r199, t2]; rfl) (.inl ⟨?_, ?_⟩)
        · unfold big; rw [decide_eq_true (show (100 : Int) < (LL.mk c vs).c from hbg)]; simp
        · rw [one_2, frz_tupS]; simp only [List.map_cons, List.map_nil, frz_aggS, frz_int, frz_nils]
      · have hbf : big ⟨c, vs⟩ = false := by unfold big; rw [hnb, decide_eq_false (show ¬ (100 : Int) < (LL.mk c vs).c from hbg)]; rfl
        obtain ⟨nx', hnx', e1⟩ := c192 hK m V c vs ⟨nx, lo, ob⟩ (hV.mono (by show h.next ≤ nx; omega) gk) hl
        have hnx' : nx ≤ nx' := hnx'
        simp only [go_sem, Nat.reduceEqDiff, Nat.reduceAdd, s199_5, t1, g1, e1]
        cases hcv : covd ⟨c, vs⟩ with
        | true =>
          simp only [go_sem, Nat.reduceEqDiff, Nat.reduceAdd, Nat.reduceLeDiff, s199_4, t1, t2, g1, g2, n2]
          refine HQ_gx (.inr rfl) (le_minN (by omega) (by (repeat' (first | assumption | exact Nat.le_refl _ | apply le_minN)) <;> omega)) (by show h.next ≤ nx'; omega) (by simp only [go_sem, Nat.reduceEqDiff, Nat.reduceAdd, r199, t2]; rfl) (.inr ⟨hbf, ?_⟩)
          rw [one_2, frz_tupS, hcv]; simp only [List.map_cons, List.map_nil, frz_aggS, frz_int, hfz _ _ _ (Nat.le_refl _), cond_true]
        | false =>
          simp only [go_sem, Nat.reduceEqDiff, Nat.reduceAdd, s199_4, t1, t2, g1, g2]
          refine HQ_gx (.inr rfl) (by (repeat' (first | assumption | exact Nat.le_refl _ | apply le_minN)) <;> omega) (by show h.next ≤ nx'; omega) (by simp only [go_sem, Nat.reduceEqDiff, Nat.reduceAdd, r199, t2]; rfl) (.inr ⟨hbf, ?_⟩)
          rw [one_2, frz_tupS, hcv]; simp only [List.map_cons, List.map_nil, frz_aggS, frz_int, hfz _ _ _ (Nat.le_refl _), cond_false]
  obtain ⟨v, h', e, g⟩ := key
  obtain ⟨nx, h1, rfl⟩ := Gx_eq g
  exact ⟨v, nx, h1, e, g.1⟩
abbrev Es := List (Int × Int)
def mp (L : Es) : List (AV × AV) := L.map fun e => (.int .i64 e.1, .int .i64 e.2)
def look : Es → Int → Option Int
  | [], _ => none
  | e :: L, k => if k = e.1 then some e.2 else look L k
def setE : Es → Int → Int → Es
  | [], k, v => [(k, v)]
  | e :: L, k, v => if k = e.1 then (k, v) :: L else e :: setE L k v
def raiseE (L : Es) (k p : Int) : Es := match look L k with
  | some o => if o < p then setE L k p else L
  | none => setE L k p
theorem sameKey_int (a b : Int) : sameKey 1 (.int .i64 a) (.int .i64 b) = some (decide (a = b)) := by
  show cond (beqK .i64 .i64) (some (beqI a b)) none = _
  rw [beqK_self, beqI_eq]; rfl
theorem findK_mp (k : Int) : ∀ L : Es, findK (mp L) 1 (.int .i64 k) = some ((look L k).map (AV.int .i64))
  | [] => rfl
  | e :: L => by
    show bindO (sameKey 1 (.int .i64 k) (.int .i64 e.1)) (fun b => cond b (some (some (AV.int .i64 e.2))) (findK (mp L) 1 (.int .i64 k))) = _
    rw [sameKey_int, bindO_some, findK_mp k L, look]
    by_cases h : k = e.1
    · simp [h]
    · simp [h]
theorem setK_mp (k v : Int) : ∀ L : Es, setK (mp L) 1 (.int .i64 k) (.int .i64 v) = mp (setE L k v)
  | [] => rfl
  | e :: L => by
    show (Option.casesOn (sameKey 1 (.int .i64 k) (.int .i64 e.1)) ((AV.int .i64 e.1, AV.int .i64 e.2) :: setK (mp L) 1 (.int .i64 k) (.int .i64 v)) fun b => cond b ((.int .i64 k, .int .i64 v) :: mp L) ((AV.int .i64 e.1, AV.int .i64 e.2) :: setK (mp L) 1 (.int .i64 k) (.int .i64 v)) : List (AV × AV)) = _
    rw [sameKey_int, setK_mp k v L, setE]
    by_cases h : k = e.1
    · simp [h, mp]
    · simp [h, mp]
theorem lookup_mp {h : AH} {km : Nat} {L : Es} (hm : h.get km = some (.map (mp L))) (k : Int) (ok : Bool) :
    evLookup h 1 (.int .i64 0) ok (.map km) (.int .i64 k) = some (match look L k with | some o => cond ok (.tup [.int .i64 o, .bool true]) (.int .i64 o) | none => cond ok (.tup [.int .i64 0, .bool false]) (.int .i64 0)) := by
  show bindO (sameKey 1 (.int .i64 k) (.int .i64 k)) (fun _ => bindO (bindO (bindO (h.get km) mapAt) fun es => findK es 1 (.int .i64 k)) fun r => some (lookFin r (.int .i64 0) ok)) = _
  rw [sameKey_int, hm]
  show bindO (findK (mp L) 1 (.int .i64 k)) _ = _
  rw [findK_mp]
  cases look L k <;> rfl
theorem mapUp_mp {h : AH} {km : Nat} {L : Es} (hm : h.get km = some (.map (mp L))) (k v : Int) :
    evMapUp h 1 (.map km) (.int .i64 k) (.int .i64 v) = some (h.set km (.map (mp (setE L k v)))) := by
  show bindO (bindO (h.get km) mapAt) (fun es => bindO (sameKey 1 (.int .i64 k) (.int .i64 k)) fun _ => bindO (findK es 1 (.int .i64 k)) fun _ => some (h.set km (.map (setK es 1 (.int .i64 k) (.int .i64 v))))) = _
  rw [hm]
  show bindO (sameKey 1 (.int .i64 k) (.int .i64 k)) (fun _ => bindO (findK (mp L) 1 (.int .i64 k)) fun _ => some (h.set km (.map (setK (mp L) 1 (.int .i64 k) (.int .i64 v))))) = _
  rw [sameKey_int, findK_mp, setK_mp]; rfl
structure Ch (a b : Nat) (h h' : AH) : Prop where
  next : h.next ≤ h'.next
  keep : ∀ k, k < h.next → k ≠ a → k ≠ b → h'.get k = h.get k
  low : ∀ x, x ≤ h.low → x ≤ a → x ≤ b → x ≤ h'.low
theorem call166 (call : CallF) (n : Nat) (km : Nat) (L : Es) (i p : Int) (h : AH) (hm : h.get km = some (.map (mp L))) (hlt : km < h.next) :
    ∃ v h', evFn EF call n 166 [.map km, .int .i64 i, .int .i64 p] .no h = some (.ret v, .no, h') ∧ v = .tup [] ∧ h'.get km = some (.map (mp (raiseE L i p))) ∧ h.next ≤ h'.next ∧ (∀ k, k ≠ km → h'.get k = h.get k) ∧ (∀ b, b ≤ h.low → b ≤ km → b ≤ h'.low) ∧ h'.low ≤ h.low := by
  refine evFn_H cf166 (pureF _) ?_
  unfold b166 raiseE
  have hl := fun ok => lookup_mp (h := ⟨h.next, h.next, h.objs⟩) hm i ok
  cases he : look L i with
  | none =>
    simp only [he] at hl
    have hu := mapUp_mp (h := ⟨h.next, h.next, h.objs⟩) hm i p
    simp only [go_sem, Nat.reduceEqDiff, reduceCtorEq, hl, s166_0, hu]
    refine HQ_turn (.inl rfl) ?_ (by simp only [go_sem, r166]; rfl) ⟨rfl, ?_, Nat.le_refl _, fun k hk => ?_, fun b h1 h2 => ?_, ?_⟩
    · have : minN km h.next ≤ km := minN_le _ _
      show ¬ h.next ≤ minN km h.next
      omega
    · rw [get_mk, Tr.get_put_same]
    · rw [get_mk, Tr.get_put_other _ _ hk]; rfl
    · exact le_minN (le_minN h2 (by omega)) h1
    · exact minN_le_r _ _
  | some o =>
    simp only [he] at hl
    have hu := mapUp_mp (h := ⟨h.next, h.next, h.objs⟩) hm i p
    simp only [go_sem, Nat.reduceEqDiff, reduceCtorEq, hl, s166_0]
    refine sB_dec (fun hlt => ?_) (fun hge => ?_)
    · simp only [go_sem, Nat.reduceEqDiff, reduceCtorEq, hu, if_pos hlt]
      refine HQ_turn (.inl rfl) ?_ (by simp only [go_sem, r166]; rfl) ⟨rfl, ?_, Nat.le_refl _, fun k hk => ?_, fun b h1 h2 => ?_, ?_⟩
      · have : minN km h.next ≤ km := minN_le _ _
        show ¬ h.next ≤ minN km h.next
        omega
      · rw [get_mk, Tr.get_put_same]
      · rw [get_mk, Tr.get_put_other _ _ hk]; rfl
      · exact le_minN (le_minN h2 (by omega)) h1
      · exact minN_le_r _ _
    · simp only [go_sem, if_neg hge]
      exact HQ_keep (.inl rfl) (Nat.le_refl _) (by simp only [go_sem, r166]; rfl) ⟨rfl, hm, Nat.le_refl _, fun k hk => rfl, fun b h1 h2 => h1, Nat.le_refl _⟩
end Go.Proofs.YtnacljdablhbgaaGreat
