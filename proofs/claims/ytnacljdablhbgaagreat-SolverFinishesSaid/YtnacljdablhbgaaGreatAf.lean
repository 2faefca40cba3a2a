/- AbsGo: one operation of the evaluator's is one of the model's: append (no condition). -/
import Derived.Test.YtnacljdablhbgaaGreatAe
import Derived.Laws.AppendOwn
namespace Go.AG
section
variable {C : Cx} {g : Gh} {U : Nat → Option (List AV)} {h h' : AH} {w : World} {tm : Tm} {tmps : Array Value} {v : AV}
structure AppT (C : Cx) (tys : Array TypeId) (el : TypeId) (sz bytes : Nat) (zv : Value) : Prop where
  t0 : ∃ t, tys[0]? = some t ∧ und C.T t = some (.slice el)
  t1 : ∃ t e, tys[1]? = some t ∧ und C.T t = some (.slice e)
  hsz : szT C.T el = some sz
  info : ∃ i, C.T.get el = some i ∧ i.bytes = bytes ∧ i.zero = some zv
  zlen : zv.cells.size = sz
  pos : 0 < sz
theorem run_append_none {tys : Array TypeId} {ty el : TypeId} {sz bytes : Nat} {zv : Value} (A : AppT C tys el sz bytes zv) {a : Option Addr} {n cap : Nat} {x : Value} (hn : n ≤ cap) {b : Option Addr} {c : Nat}
    (hx : x = .slice b 0 c) (hf : (Builtin.firstCells sz 0 x).run C.P w = .ok #[] w) : (Builtin.append_ tys ty #[.slice a n cap, x]).run C.P w = .ok (.slice a n cap) w := by
  obtain ⟨t, ht, hd⟩ := A.t0
  obtain ⟨t', e', ht', hd'⟩ := A.t1
  subst hx
  cases a with
  | none => simp [Builtin.append_, ht, ht', run_und hd, run_und hd', run_sizeOf A.hsz, Builtin.lenOf, hn, hf]
  | some a => simp [Builtin.append_, ht, ht', run_und hd, run_und hd', run_sizeOf A.hsz, Builtin.lenOf, hn, hf, storeCells]
theorem run_append_in {tys : Array TypeId} {ty el : TypeId} {sz bytes : Nat} {zv : Value} (A : AppT C tys el sz bytes zv) {a : Addr} {n m cap : Nat} {x : Value} (hn : n + m ≤ cap) {b : Option Addr} {c : Nat}
    (hx : x = .slice b m c) {ws : List Value} (hf : (Builtin.firstCells sz m x).run C.P w = .ok ⟨ws⟩ w) {w' : World} (hst : (storeCells (a.add (n * sz)) ws).run C.P w = .ok () w') :
    (Builtin.append_ tys ty #[.slice (some a) n cap, x]).run C.P w = .ok (.slice (some a) (n + m) cap) w' := by
  obtain ⟨t, ht, hd⟩ := A.t0
  obtain ⟨t', e', ht', hd'⟩ := A.t1
  subst hx
  simp [Builtin.append_, ht, ht', run_und hd, run_und hd', run_sizeOf A.hsz, Builtin.lenOf, hn, hf, hst]
theorem run_append_out {tys : Array TypeId} {ty el : TypeId} {sz bytes : Nat} {zv : Value} (A : AppT C tys el sz bytes zv) {a : Option Addr} {n m cap : Nat} {x : Value} (hn : cap < n + m) {b : Option Addr} {c : Nat}
    (hx : x = .slice b m c) {os ws : List Value} (ho : (Builtin.firstCells sz n (.slice a n cap)).run C.P w.drew = .ok ⟨os⟩ w.drew) (hf : (Builtin.firstCells sz m x).run C.P w.drew = .ok ⟨ws⟩ w.drew)
    (hneed : need n m bytes = true) :
    (Builtin.append_ tys ty #[.slice a n cap, x]).run C.P w = .ok (.slice (some ⟨w.heap.size, 0, none⟩) (n + m) (grownCap w (n + m) cap el))
      (w.drew.alloc (.cells (⟨os⟩ ++ ⟨ws⟩ ++ Builtin.zeroCells zv.cells (grownCap w (n + m) cap el - (n + m))) el)) := by
  obtain ⟨t, ht, hd⟩ := A.t0
  obtain ⟨t', e', ht', hd'⟩ := A.t1
  obtain ⟨i, hi, hby, hz⟩ := A.info
  obtain ⟨n1, n2⟩ := need_ok hneed
  subst hx
  have hn' : ¬ (n + m ≤ cap) := by omega
  have hm : IntKind.i64.max = 9223372036854775807 := rfl
  have h63 : ¬ (9223372036854775807 < ((n : Int) + (m : Int))) := by omega
  have hcap := AG.nextslicecap_le hn
  have h48 : ¬ (281474976710656 < Builtin.nextslicecap (n + m) cap * i.bytes) := by
    have : Builtin.nextslicecap (n + m) cap * i.bytes ≤ (2 * (n + m) + 1000) * i.bytes := Nat.mul_le_mul_right _ hcap
    rw [hby] at this ⊢
    omega
  simp [Builtin.append_, ht, ht', run_und hd, run_und hd', run_sizeOf A.hsz, run_typeInfo hi, run_zeroValue hi hz, Builtin.lenOf, hn', hm, h63, h48, Question.forced, ho, hf, newRow, grownCap]
  congr 2
  apply Array.ext'
  simp [List.append_assoc]
theorem grown_ok (s : Sim C g U h w) {el : TypeId} {sz n m cap : Nat} {agg : Bool} {zv : Value} {cs : List AV} {os ws : List Value} (hp : 0 < sz) (hz : zv.cells.size = sz)
    (hlo : os.length + ws.length = (n + m) * sz) (hv : VRels g cs (os ++ ws)) (ha : allCells cs = true) :
    ∃ g' , Ext g g' ∧ Sim C g' U (h.new (.row 0 sz agg cs 0)) (w.drew.alloc (.cells (⟨os⟩ ++ ⟨ws⟩ ++ Builtin.zeroCells zv.cells (grownCap w (n + m) cap el - (n + m))) el)) ∧
      VRel g' (.row h.next 0 sz 0 (n + m)) (.slice (some ⟨w.heap.size, 0, none⟩) (n + m) (grownCap w (n + m) cap el)) := by
  have hge := grownCap_ge w (n + m) cap el
  have hlen := hv.length
  rw [List.length_append] at hlen
  obtain ⟨us, hus⟩ : ∃ us, us = (⟨os⟩ ++ ⟨ws⟩ ++ Builtin.zeroCells zv.cells (grownCap w (n + m) cap el - (n + m)) : Array Value) := ⟨_, rfl⟩
  rw [← hus]
  have husz : us.size = grownCap w (n + m) cap el * sz := by
    rw [hus]
    simp only [Array.size_append, size_zeroCells, hz]
    have e1 : (⟨os⟩ : Array Value).size = os.length := rfl
    have e2 : (⟨ws⟩ : Array Value).size = ws.length := rfl
    rw [e1, e2, hlo, ← Nat.add_mul]
    congr 1; omega
  have htake : us.toList.take cs.length = os ++ ws := by
    rw [hus]
    simp only [Array.toList_append]
    rw [List.take_left' (by rw [List.length_append]; omega)]
  obtain ⟨g', w', hw', ex, s', hv'⟩ := newRow_ok (agg := agg) s.drew el hp (grownCap w (n + m) cap el) hge (us := us) (cs := cs) (by omega)
    (by rw [hlen, hlo]; exact Nat.mul_le_mul_right _ hge) (by rw [htake]; exact hv) ha
  have : w' = w.drew.alloc (.cells us el) := by
    simp [newRow] at hw'; exact hw'.symm
  subst this
  exact ⟨g', ex, s', hv'⟩
theorem take_full {α : Type} {l : List α} {n : Nat} (h : l.length = n) : l.take n = l := List.take_of_length_le (by omega)
theorem op_append (s : Sim C g U h w) (ht : TRel g tm tmps) {o : Oper} {c : Call} {x y : Operand} {ax ay : AX} {el : TypeId} {sz : Nat} {z : AV} {i : TypeInfo} (ho : o.op = .call c) (hc : c.callee = .builtin .append)
    (ha : c.args = #[x, y]) (h0 : slElem C.T c.argTypes 0 = some el) {e1 : TypeId} (h1 : slElem C.T c.argTypes 1 = some e1) (hsz : szT C.T el = some sz) (hz : zeroT C.T el = some z) (hi : C.T.get el = some i)
    (hp : 0 < sz) (hx : cX x = some ax) (hy : cX y = some ay) (e : okVH (evAppend h sz (isAggT C.T el) z.cells i.bytes (ev ax tm) (ev ay tm)) = .val v h') :
    OpOk C g U h ((execOp (evalT tmps) o).run C.P w) v h' := by
  have e := okVH_val e
  obtain ⟨xs, hxs, e⟩ := bindO_eq e
  obtain ⟨hcond, e⟩ := cond_some e
  obtain ⟨hlie, hzlen⟩ := and_eq hcond
  obtain ⟨i', zv, hi', hzv, hzr, hzl, hzc, _⟩ := zeroT_ok g hz
  rw [hi] at hi'; cases hi'
  obtain ⟨i2, d2, hi2, hsz2, _⟩ := szT_info hsz
  rw [hi] at hi2; cases hi2
  have hzcells : zv.cells.size = sz := by have := (hzr.cells (zero_lies hzc)).length; simp at this; omega
  have A : AppT C c.argTypes el sz i.bytes zv := by
    obtain ⟨t, ht0, hd⟩ := bindO_eq h0
    obtain ⟨d, hd, hd'⟩ := bindO_eq hd
    cases d <;> first | (cases hd'; done) | skip
    cases hd'
    obtain ⟨t', ht1, hd1⟩ := bindO_eq h1
    obtain ⟨d, hd1, hd1'⟩ := bindO_eq hd1
    cases d <;> first | (cases hd1'; done) | skip
    cases hd1'
    exact ⟨⟨t, by simpa using ht0, hd⟩, ⟨t', _, by simpa using ht1, hd1⟩, hsz, ⟨i, hi, rfl, hzv⟩, hzcells, hp⟩
  have rx := cX_rel ht hx
  have ry := cX_rel ht hy
  have lift : ∀ u w', (Builtin.append_ c.argTypes o.type #[evalT tmps x, evalT tmps y]).run C.P w = .ok u w' → (execOp (evalT tmps) o).run C.P w = .ok (.value u) w' := by
    intro u w' hq
    simp [execOp, ho, resolve, hc, ha, invoke, builtin, hq]
  obtain ⟨b, cap', ws, hyu, hycap, hyv, hya, hys, hyrun⟩ := elems_ok s ry hxs
  have hwl : ws.length = xs.length * sz := by rw [← hyv.length, flat_length hys]
  have hyrun1 := hyrun w xs.length (fun _ _ _ _ q => q) (Nat.le_refl _)
  have hyrun2 := hyrun w.drew xs.length (fun _ _ _ _ q => q) (Nat.le_refl _)
  rw [take_full hwl] at hyrun1 hyrun2
  cases hxs' : xs with
  | nil =>
    subst hxs'
    have e : appNone (ev ax tm) h = some (v, h') := e
    have hf0 : (Builtin.firstCells sz 0 (evalT tmps y)).run C.P w = .ok #[] w := by
      have := hyrun w 0 (fun _ _ _ _ q => q) (Nat.zero_le _)
      simpa using this
    have hyu : evalT tmps y = .slice b 0 cap' := hyu
    generalize ev ax tm = a at rx e
    cases a <;> first | (cases e; done) | skip
    case nils =>
      cases e
      refine opOk_same s (lift _ _ ?_) rx
      rw [rx.nils_inv]
      exact run_append_none A (Nat.le_refl _) hyu hf0
    case lst es =>
      cases e
      refine opOk_same s (lift _ _ ?_) rx
      obtain ⟨a, cap, hu, hcap, _⟩ := rx.lst_inv
      rw [hu]
      exact run_append_none A hcap hyu hf0
    case clip es =>
      cases e
      refine opOk_same s (lift _ _ ?_) rx
      obtain ⟨a, hu, _⟩ := rx.clip_inv
      rw [hu]
      exact run_append_none A (Nat.le_refl _) hyu hf0
    case row k gn sz' off m =>
      cases e
      refine opOk_same s (lift _ _ ?_) rx
      obtain ⟨l, a, _, _, hle, hu, _⟩ := rx.row_inv
      rw [hu]
      exact run_append_none A (by omega) hyu hf0
  | cons x0 xs0 =>
    have hne : 0 < xs.length := by rw [hxs']; simp
    have e : appSome (ev ax tm) h sz (isAggT C.T el) i.bytes xs = some (v, h') := by rw [hxs'] at e ⊢; exact e
    clear hxs'
    generalize ev ax tm = a at rx e
    cases a <;> first | (cases e; done) | skip
    case nils =>
      obtain ⟨hneed, e⟩ := cond_some (c := need 0 (len xs) i.bytes) e
      cases e
      rw [len_eq] at hneed ⊢
      have hrun := run_append_out (w := w) (ty := o.type) A (a := none) (n := 0) (m := xs.length) (cap := 0) (by omega) hyu (os := []) (by simp [Builtin.firstCells]) hyrun2 hneed
      obtain ⟨g', ex, s', hv⟩ := grown_ok (agg := isAggT C.T el) (el := el) (cap := 0) (n := 0) (m := xs.length) (os := []) s hp hzcells (cs := flat xs) (by simpa using hwl) (by simpa using hyv) hya
      refine ⟨g', _, _, .inl (lift _ _ (by rw [rx.nils_inv]; exact hrun)), ex, s', ?_, Low.new _ _⟩
      simpa using hv
    case clip es =>
      obtain ⟨hcc, e⟩ := cond_some (c := and (need (len es) (len xs) i.bytes) (and (sized sz es) (allLie es))) e
      obtain ⟨hneed, hcc⟩ := and_eq hcc
      obtain ⟨hsz1, _⟩ := and_eq hcc
      cases e
      rw [len_eq, len_eq] at hneed
      rw [len_eq, len_eq, app_eq]
      obtain ⟨a', cap2, os, hxu, hxcap, hxv, hxa, hxs2, hxrun⟩ := elems_ok s (sz := sz) (xs := es) rx (by show cond (sized sz es) (some es) none = _; rw [hsz1]; rfl)
      have hol : os.length = es.length * sz := by rw [← hxv.length, flat_length hxs2]
      have hxrun2 := hxrun w.drew es.length (fun _ _ _ _ q => q) (Nat.le_refl _)
      rw [take_full hol, hxu] at hxrun2
      obtain ⟨a2, hu2, _⟩ := rx.clip_inv
      have hcapeq : cap2 = es.length := by rw [hxu] at hu2; cases hu2; rfl
      subst hcapeq
      have hrun := run_append_out (w := w) (ty := o.type) A (a := a') (n := es.length) (m := xs.length) (cap := es.length) (by omega) hyu hxrun2 hyrun2 hneed
      obtain ⟨g', ex, s', hv⟩ := grown_ok (agg := isAggT C.T el) (el := el) (cap := es.length) (n := es.length) (m := xs.length) (os := os) (ws := ws) s hp hzcells (cs := flat es ++ flat xs)
        (by rw [hol, hwl, Nat.add_mul]) (hxv.append hyv) (by rw [allCells_append, hxa, hya]; rfl)
      exact ⟨g', _, _, .inl (lift _ _ (by rw [hxu]; exact hrun)), ex, s', hv, Low.new _ _⟩
    case row k gn sz' off m =>
      obtain ⟨hc1, e⟩ := cond_some (c := Nat.beq sz' sz) e
      have hc1 := beq_eq hc1
      subst hc1
      obtain ⟨r, hr, e⟩ := bindO_eq e
      obtain ⟨hcc, e⟩ := cond_some e
      cases e
      obtain ⟨k1, hcc⟩ := and_eq hcc
      obtain ⟨k2, hcc⟩ := and_eq hcc
      obtain ⟨k3, hneed⟩ := and_eq hcc
      have k1 := sameB_eq k1
      have k2 : r.2.2 ≤ (off + m) * sz' := ble_le k2
      have k3 := ble_le k3
      rw [len_eq] at k3 hneed
      have k3 : (off + m) * sz' ≤ r.2.1.length := k3
      obtain ⟨l, a, hl, hs, hle, hu, hacase⟩ := rx.row_inv
      obtain ⟨r1, r2, r3, r4⟩ := rowAt_ok s hl hr
      obtain ⟨q1, q2, us, t', q3, q4, q5, q6, q7, q8, q9⟩ := r4
      have hlt : l.block < w.heap.size := (Array.getElem?_eq_some_iff.1 q3).1
      have hmulle : off * sz' + m * sz' = (off + m) * sz' := by rw [Nat.add_mul]
      have holen : ((r.2.1.drop (off * sz')).take (m * sz')).length = m * sz' := by simp; omega
      have hodv := ((q6.drop (off * sz')).take (m * sz'))
      have hodl : ((((us.toList.drop l.base).take r.2.1.length).drop (off * sz')).take (m * sz')).length = m * sz' := by rw [← hodv.length]; exact holen
      have hoca : allCells ((r.2.1.drop (off * sz')).take (m * sz')) = true := allCells_take (allCells_drop q7 _) _
      have hnew : allCells ((r.2.1.drop (off * sz')).take (m * sz') ++ flat xs) = true := by rw [allCells_append, hoca, hya]; rfl
      have hρnew : g.ρ k (gn + 1) = none := q9 (gn + 1) (by omega)
      rw [app_eq, tke_eq, drp_eq, len_eq]
      have hobj : genOf (.row (Nat.succ gn) sz' (isAggT C.T el) ((r.2.1.drop (Nat.mul off sz')).take (Nat.mul m sz') ++ flat xs) (Nat.sub r.2.2 (Nat.mul off sz'))) = gn + 1 := rfl
      have hm1 : Nat.mul off sz' = off * sz' := rfl
      have hm2 : Nat.mul m sz' = m * sz' := rfl
      have hm3 : Nat.sub r.2.2 (off * sz') = r.2.2 - off * sz' := rfl
      have hm4 : Nat.add m xs.length = m + xs.length := rfl
      rw [hm1, hm2, hm3, hm4]
      have hcelllen : ((r.2.1.drop (off * sz')).take (m * sz') ++ flat xs).length = (m + xs.length) * sz' := by
        rw [List.length_append, holen, flat_length hys, Nat.add_mul]
      rcases Nat.lt_or_ge (l.cap - off) (m + xs.length) with hgrow | hroom
      · -- it moves
        have horun : (Builtin.firstCells sz' m (evalT tmps x)).run C.P w.drew = .ok ⟨(((us.toList.drop l.base).take r.2.1.length).drop (off * sz')).take (m * sz')⟩ w.drew := by
          rw [hu]
          rcases hacase with rfl | ⟨rfl, _⟩
          · have := run_firstCells (C := C) (w := w.drew) (sz := sz') (n := m) (len := m) (cap := l.cap - off) (ws := ((us.toList.drop l.base).take r.2.1.length).drop (off * sz')) (a := ⟨l.block, l.base + off * sz', none⟩) rfl
              (by have := hodl; rw [List.length_take] at this; omega) (fun i yy hi => row_cells (cs := r.2.1) (off := off * sz') q3 i yy hi)
            exact this
          · cases a with
            | none => simp [Builtin.firstCells]
            | some a => simp [Builtin.firstCells, loadCells, loadCellsFrom]
        rw [hu] at horun
        have hrun := run_append_out (w := w) (ty := o.type) A (a := a) (n := m) (m := xs.length) (cap := l.cap - off) hgrow hyu horun hyrun2 hneed
        have hge := grownCap_ge w (m + xs.length) (l.cap - off) el
        obtain ⟨os, hos⟩ : ∃ os, os = (((us.toList.drop l.base).take r.2.1.length).drop (off * sz')).take (m * sz') := ⟨_, rfl⟩
        rw [← hos] at hrun hodv hodl
        obtain ⟨nu, hnu⟩ : ∃ nu, nu = (⟨os⟩ ++ ⟨ws⟩ ++ Builtin.zeroCells zv.cells (grownCap w (m + xs.length) (l.cap - off) el - (m + xs.length)) : Array Value) := ⟨_, rfl⟩
        rw [← hnu] at hrun
        have hnusz : nu.size = grownCap w (m + xs.length) (l.cap - off) el * sz' := by
          rw [hnu]
          simp only [Array.size_append, size_zeroCells, hzcells]
          have e1 : (⟨os⟩ : Array Value).size = os.length := rfl
          have e2 : (⟨ws⟩ : Array Value).size = ws.length := rfl
          rw [e1, e2, hodl, hwl, ← Nat.add_mul, ← Nat.add_mul]
          congr 1; omega
        have htake : nu.toList.take ((m + xs.length) * sz') = os ++ ws := by
          rw [hnu]
          simp only [Array.toList_append]
          rw [List.take_left' (by rw [List.length_append, hodl, hwl, Nat.add_mul])]
        have exn := g.at_ext (k := k) (n := gn + 1) ⟨w.heap.size, 0, grownCap w (m + xs.length) (l.cap - off) el, sz'⟩ hρnew
        obtain ⟨ex, s'⟩ := s.regen (w' := w.drew.alloc (.cells nu el)) (n' := gn + 1) (l' := ⟨w.heap.size, 0, grownCap w (m + xs.length) (l.cap - off) el, sz'⟩)
          (o' := .row (gn + 1) sz' (isAggT C.T el) ((r.2.1.drop (off * sz')).take (m * sz') ++ flat xs) (r.2.2 - off * sz')) r1 r2 hl rfl hρnew
          (fun bb hb1 hb2 => heap_alloc_old w.drew _ bb hb2) (by simp) (.inr (Nat.le_refl _))
          ⟨rfl, hp, nu, el, heap_alloc_new w.drew _, by simp [hnusz], by rw [hcelllen]; exact Nat.mul_le_mul_right _ hge,
            by rw [List.drop_zero, hcelllen, htake]; exact (hodv.append hyv).mono exn, hnew,
            fun oo vv q => by
              have q : g.F w.heap.size oo = some vv := q
              exact absurd (s.frz_lt q) (Nat.lt_irrefl _),
            fun mm hmm => by rw [Gh.at_other g _ (by omega)]; exact q9 mm (by omega)⟩
          (fun ii vv q => by
              have q : g.F w.heap.size ii = some vv := q
              exact absurd (s.frz_lt q) (Nat.lt_irrefl _)) rfl rfl rfl
        refine ⟨_, _, _, .inl (lift _ _ (by rw [hu]; exact hrun)), ex, s', ?_, Low.set _ _ _⟩
        have := VRel.row (g := g.at k (gn + 1) ⟨w.heap.size, 0, grownCap w (m + xs.length) (l.cap - off) el, sz'⟩) (k := k) (n := gn + 1) (sz := sz') (off := 0) (len := m + xs.length) (g.at_same _ _ _) rfl (by simpa using hge)
        simpa using this
      · -- in its place
        rcases hacase with rfl | ⟨q, hq2⟩
        · have hone := cells_oneCell hyv hya
          have hin : (off + (m + xs.length)) * sz' ≤ l.cap * sz' := Nat.mul_le_mul_right _ (by omega)
          have hin2 : (off + (m + xs.length)) * sz' = (off + m) * sz' + xs.length * sz' := by rw [← Nat.add_mul]; congr 1; omega
          have hst := run_storeCells_at (C := C) (b := l.block) (off := l.base + (off + m) * sz') (t := t') ws 0 w us q3 (by omega) hone
          rw [Nat.add_zero] at hst
          have haddr : (⟨l.block, l.base + off * sz', none⟩ : Addr).add (m * sz') = ⟨l.block, l.base + (off + m) * sz', none⟩ := by rw [add_none]; congr 1; omega
          rw [← haddr] at hst
          have hrun := run_append_in (w := w) (ty := o.type) A (cap := l.cap - off) hroom hyu hyrun1 hst
          have hbnd : l.base + (off + m) * sz' + ws.length ≤ us.toList.length := by simp; omega
          have exn := g.at_ext (k := k) (n := gn + 1) ⟨l.block, l.base + off * sz', l.cap - off, sz'⟩ hρnew
          obtain ⟨ex, s'⟩ := s.regen (w' := setBlk w l.block (.cells ⟨setR (l.base + (off + m) * sz') ws us.toList⟩ t' (0, 0))) (n' := gn + 1) (l' := ⟨l.block, l.base + off * sz', l.cap - off, sz'⟩)
            (o' := .row (gn + 1) sz' (isAggT C.T el) ((r.2.1.drop (off * sz')).take (m * sz') ++ flat xs) (r.2.2 - off * sz')) r1 r2 hl rfl hρnew
            (fun bb hb1 hb2 => setBlk_other hb1) (by rw [setBlk_size]; exact Nat.le_refl _) (.inl rfl)
            ⟨rfl, hp, _, t', setBlk_same hlt, by
                show l.base + off * sz' + (l.cap - off) * sz' ≤ (setR (l.base + (off + m) * sz') ws us.toList).length
                rw [setR_length]
                have : off * sz' + (l.cap - off) * sz' = l.cap * sz' := by rw [← Nat.add_mul]; congr 1; omega
                simp; omega,
              by rw [hcelllen]; exact Nat.mul_le_mul_right _ (by omega), by
                rw [hcelllen]
                have : ((setR (l.base + (off + m) * sz') ws us.toList).drop (l.base + off * sz')).take ((m + xs.length) * sz') = ((((us.toList.drop l.base).take r.2.1.length).drop (off * sz')).take (m * sz')) ++ ws := by
                  apply List.ext_getElem?
                  intro ii
                  rw [List.getElem?_take, List.getElem?_drop, setR_get _ _ _ _ hbnd, List.getElem?_append, hodl]
                  have hmx : (m + xs.length) * sz' = m * sz' + xs.length * sz' := Nat.add_mul _ _ _
                  by_cases hi1 : ii < m * sz'
                  · rw [if_pos (by omega), if_neg (by omega), if_pos hi1, List.getElem?_take, if_pos hi1, List.getElem?_drop, List.getElem?_take, if_pos (by omega), List.getElem?_drop, Nat.add_assoc]
                  · rw [if_neg hi1]
                    by_cases hi2 : ii < (m + xs.length) * sz'
                    · rw [if_pos hi2, if_pos (by omega)]; congr 1; omega
                    · rw [if_neg hi2, List.getElem?_eq_none (by omega)]
                show VRels _ _ (((setR (l.base + (off + m) * sz') ws us.toList).drop (l.base + off * sz')).take ((m + xs.length) * sz'))
                rw [this]
                exact (hodv.append hyv).mono exn, hnew,
              fun oo vv q => by
                have q : g.F l.block oo = some vv := q
                have := q8 oo vv q
                show oo < l.base + off * sz' + (r.2.2 - off * sz')
                omega,
              fun mm hmm => by rw [Gh.at_other g _ (by omega)]; exact q9 mm (by omega)⟩
            (fun ii vv q => by
              have q : g.F l.block ii = some vv := q
              have hlt2 := q8 ii vv q
              rw [cell_of_row _ _ _ _ t' (0, 0) (setBlk_same hlt)]
              have := s.frz _ _ _ q
              rw [cell_of_row _ _ _ us t' (0, 0) q3] at this
              have e2 : (⟨setR (l.base + (off + m) * sz') ws us.toList⟩ : Array Value)[ii]? = (setR (l.base + (off + m) * sz') ws us.toList)[ii]? := by simp
              rw [e2, setR_get _ _ _ _ hbnd, if_neg (by omega)]
              simpa using this) rfl rfl rfl
          refine ⟨_, _, _, .inl (lift _ _ (by rw [hu]; exact hrun)), ex, s', ?_, Low.set _ _ _⟩
          have := VRel.row (g := g.at k (gn + 1) ⟨l.block, l.base + off * sz', l.cap - off, sz'⟩) (k := k) (n := gn + 1) (sz := sz') (off := 0) (len := m + xs.length) (g.at_same _ _ _) rfl (by simpa using hroom)
          simpa using this
        · omega
end
section
variable {C : Cx} {g : Gh} {U : Nat → Option (List AV)} {h h' : AH} {w : World} {tm : Tm} {tmps : Array Value} {v : AV}
theorem rowPut (s : Sim C g U h w) {k gn sz off : Nat} {agg : Bool} {cs : List AV} {fz : Nat} {l : Loc} (hl : g.ρ k gn = some l) (hr : h.get k = some (.row gn sz agg cs fz)) {vs : List AV} {ws : List Value}
    (hfz : fz ≤ off) (hle : off + vs.length ≤ cs.length) (hv : VRels g vs ws) (ha : allCells vs = true) :
    ∃ w', (storeCells ⟨l.block, l.base + off, none⟩ ws).run C.P w = .ok () w' ∧ Sim C g U (h.set k (.row gn sz agg (setR off vs cs) fz)) w' := by
  refine store_run s hr hl ?_ hv ha
  show cond (and (Nat.beq gn gn) (and (Nat.ble fz off) (Nat.ble (Nat.add off (len vs)) (len cs)))) _ _ = _
  rw [Nat.beq_refl, Nat.ble_eq_true_of_le hfz, len_eq, len_eq, show Nat.ble (Nat.add off vs.length) cs.length = true from Nat.ble_eq_true_of_le hle]
  rfl
theorem flat_take {es : List AV} {sz k : Nat} (hs : ∀ e ∈ es, e.cells.length = sz) : flat (es.take k) = (flat es).take (k * sz) := by
  have := flat_cut (l := 0) (k := k) hs (Nat.zero_le _)
  simpa using this
theorem op_copy (s : Sim C g U h w) (ht : TRel g tm tmps) {o : Oper} {c : Call} {x y : Operand} {ax ay : AX} {el : TypeId} {sz : Nat} (ho : o.op = .call c) (hc : c.callee = .builtin .copy)
    (ha : c.args = #[x, y]) (h0 : slElem C.T c.argTypes 0 = some el) (hsz : szT C.T el = some sz) (hx : cX x = some ax) (hy : cX y = some ay)
    (e : okVH (evCopy h sz (ev ax tm) (ev ay tm)) = .val v h') : OpOk C g U h ((execOp (evalT tmps) o).run C.P w) v h' := by
  have e := okVH_val e
  obtain ⟨xs, hxs, e⟩ := bindO_eq e
  obtain ⟨hlie, e⟩ := cond_some e
  obtain ⟨t, ht0, hd⟩ := bindO_eq h0
  obtain ⟨d, hd, hd'⟩ := bindO_eq hd
  cases d <;> first | (cases hd'; done) | skip
  cases hd'
  have ht0' : c.argTypes[0]? = some t := by simpa using ht0
  have rx := cX_rel ht hx
  have ry := cX_rel ht hy
  have lift : ∀ u w', (Builtin.copy_ c.argTypes o.type #[evalT tmps x, evalT tmps y]).run C.P w = .ok u w' → (execOp (evalT tmps) o).run C.P w = .ok (.value u) w' := by
    intro u w' hq
    simp [execOp, ho, resolve, hc, ha, invoke, builtin, hq]
  obtain ⟨b, cap', ws, hyu, hycap, hyv, hya, hys, hyrun⟩ := elems_ok s ry hxs
  generalize ev ax tm = a at rx e
  cases a <;> first | (cases e; done) | skip
  case nils =>
    cases e
    have hf := hyrun w 0 (fun _ _ _ _ q => q) (Nat.zero_le _)
    refine opOk_same s (lift _ _ ?_) (.int .i64 0)
    have hmin : Nat.min xs.length 0 = 0 := Nat.min_zero _
    simp [Builtin.copy_, ht0', run_und hd, rx.nils_inv, hyu, Builtin.lenOf, run_sizeOf hsz, goInt]
    rw [hyu] at hf
    simp [hf]
  case row k gn sz' off m =>
    obtain ⟨hc1, e⟩ := cond_some (c := Nat.beq sz' sz) e
    have hc1 := beq_eq hc1
    subst hc1
    obtain ⟨r, hr, e⟩ := bindO_eq e
    obtain ⟨hcc, e⟩ := cond_some e
    cases e
    obtain ⟨k1, k2⟩ := and_eq hcc
    have k1 : r.2.2 ≤ off * sz' := ble_le k1
    have k2 := ble_le k2
    rw [len_eq] at k2
    have k2 : (off + m) * sz' ≤ r.2.1.length := k2
    obtain ⟨l, a, hl, hs, hle, hu, hacase⟩ := rx.row_inv
    obtain ⟨r1, r2, r3, r4⟩ := rowAt_ok s hl hr
    rw [len_eq, minN_eq, tke_eq]
    have hm1 : Nat.mul off sz' = off * sz' := rfl
    rw [hm1]
    have hf := hyrun w (min xs.length m) (fun _ _ _ _ q => q) (Nat.min_le_left _ _)
    have hft := flat_take (k := min xs.length m) hys
    have hvt : VRels g (flat (xs.take (min xs.length m))) (ws.take (min xs.length m * sz')) := by rw [hft]; exact hyv.take _
    have hlen : (flat (xs.take (min xs.length m))).length = min xs.length m * sz' := by
      rw [flat_length (fun e he => hys e (List.mem_of_mem_take he)), List.length_take]; congr 1; omega
    have hle2 : min xs.length m * sz' ≤ m * sz' := Nat.mul_le_mul_right _ (Nat.min_le_right _ _)
    have hadd : (off + m) * sz' = off * sz' + m * sz' := Nat.add_mul _ _ _
    obtain ⟨w', hst, s'⟩ := rowPut s hl r1 (vs := flat (xs.take (min xs.length m))) (ws := ws.take (min xs.length m * sz')) k1 (by rw [hlen]; omega) hvt (by rw [hft]; exact allCells_take hya _)
    refine ⟨g, w', .int .i64 ((min xs.length m : Nat) : Int), .inl (lift _ _ ?_), .refl g, s', .int _ _, Low.set _ _ _⟩
    have hmin : Nat.min xs.length m = min xs.length m := rfl
    rw [hyu] at hf
    rcases hacase with rfl | ⟨rfl, _⟩
    · simp [Builtin.copy_, ht0', run_und hd, hu, hyu, Builtin.lenOf, run_sizeOf hsz, hmin, goInt, hf, hst]
    · simp only [Nat.min_zero, Nat.zero_mul, List.take_zero] at hst hf
      have hw' : w' = w := by simp [storeCells] at hst; exact hst.symm
      subst hw'
      have hmin0 : Nat.min xs.length 0 = 0 := Nat.min_zero _
      cases a with
      | none => simp [Builtin.copy_, ht0', run_und hd, hu, hyu, Builtin.lenOf, run_sizeOf hsz, hmin0, goInt, hf]
      | some a => simp [Builtin.copy_, ht0', run_und hd, hu, hyu, Builtin.lenOf, run_sizeOf hsz, hmin0, goInt, hf, storeCells]
theorem op_clear (s : Sim C g U h w) (ht : TRel g tm tmps) {o : Oper} {c : Call} {x : Operand} {ax : AX} {el : TypeId} {sz : Nat} {z : AV} (ho : o.op = .call c) (hc : c.callee = .builtin .clear)
    (ha : c.args = #[x]) (h0 : slElem C.T c.argTypes 0 = some el) (hsz : szT C.T el = some sz) (hz : zeroT C.T el = some z) (hx : cX x = some ax)
    (e : okH (evClear (ev ax tm) h sz z.cells) = .val v h') : OpOk C g U h ((execOp (evalT tmps) o).run C.P w) v h' := by
  obtain ⟨e', rfl⟩ := okH_val e
  clear e
  obtain ⟨t, ht0, hd⟩ := bindO_eq h0
  obtain ⟨d, hd, hd'⟩ := bindO_eq hd
  cases d <;> first | (cases hd'; done) | skip
  cases hd'
  have ht0' : c.argTypes[0]? = some t := by simpa using ht0
  obtain ⟨i, zv, hi, hzv, hzr, hzl, hzc, _⟩ := zeroT_ok g hz
  obtain ⟨i2, d2, hi2, hsz2, _⟩ := szT_info hsz
  rw [hi] at hi2; cases hi2
  have hzcv := hzr.cells (zero_lies hzc)
  have rx := cX_rel ht hx
  have lift : ∀ u w', (Builtin.clear_ c.argTypes o.type #[evalT tmps x]).run C.P w = .ok u w' → (execOp (evalT tmps) o).run C.P w = .ok (.value u) w' := by
    intro u w' hq
    simp [execOp, ho, resolve, hc, ha, invoke, builtin, hq]
  generalize ev ax tm = a at rx e'
  cases a <;> first | (cases e'; done) | skip
  case nils =>
    cases e'
    refine opOk_same s (lift (.tuple #[]) _ ?_) (.tup .nil)
    simp [Builtin.clear_, ht0', run_und hd, rx.nils_inv]
  case row k gn sz' off m =>
    obtain ⟨hc1, e⟩ := cond_some (c := Nat.beq sz' sz) e'
    have hc1 := beq_eq hc1
    subst hc1
    obtain ⟨r, hr, e⟩ := bindO_eq e
    obtain ⟨hcc, e⟩ := cond_some e
    cases e
    obtain ⟨_, hcc⟩ := and_eq hcc
    obtain ⟨k1, k2⟩ := and_eq hcc
    have k1 : r.2.2 ≤ off * sz' := ble_le k1
    have k2 := ble_le k2
    rw [len_eq] at k2
    have k2 : (off + m) * sz' ≤ r.2.1.length := k2
    obtain ⟨l, a, hl, hs, hle, hu, hacase⟩ := rx.row_inv
    obtain ⟨r1, r2, r3, r4⟩ := rowAt_ok s hl hr
    have hm1 : Nat.mul off sz' = off * sz' := rfl
    rw [hm1]
    have hadd : (off + m) * sz' = off * sz' + m * sz' := Nat.add_mul _ _ _
    have hrl : (repl m z.cells).length = m * sz' := by rw [repl_length, hzl, hsz2]
    obtain ⟨w', hst, s'⟩ := rowPut s hl r1 (vs := repl m z.cells) (ws := (Builtin.zeroCells zv.cells m).toList) k1 (by rw [hrl]; omega) (zeros_rel hzcv m) (allCells_repl _ hzc m)
    refine ⟨g, w', .tuple #[], .inl (lift _ _ ?_), .refl g, s', .tup .nil, Low.set _ _ _⟩
    cases m with
    | zero =>
      have hw' : w' = w := by
        have : (Builtin.zeroCells zv.cells 0).toList = [] := by rw [zeroCells_eq, map_range_zero _ (Nat.zero_mul _)]
        rw [this] at hst
        simp [storeCells] at hst; exact hst.symm
      subst hw'
      cases a with
      | none => simp [Builtin.clear_, ht0', run_und hd, hu]
      | some a => simp [Builtin.clear_, ht0', run_und hd, hu]
    | succ m =>
      rcases hacase with rfl | ⟨q, _⟩
      · simp [Builtin.clear_, ht0', run_und hd, hu, run_zeroValue hi hzv, hst]
      · omega
end
section
variable {C : Cx} {g : Gh} {U : Nat → Option (List AV)} {h h' : AH} {w : World} {tm : Tm} {tmps : Array Value} {v : AV}
theorem one1_val {l : List AV} {k : AV → OpR} (e : one1 l OpR.bad k = .val v h') : ∃ x, l = [x] ∧ k x = .val v h' := by
  cases l with
  | nil => cases e
  | cons x l => cases l with
    | nil => exact ⟨x, rfl, e⟩
    | cons y l => cases e
theorem one2_val {l : List AV} {k : AV → AV → OpR} (e : one2 l OpR.bad k = .val v h') : ∃ x y, l = [x, y] ∧ k x y = .val v h' := by
  cases l with
  | nil => cases e
  | cons x l =>
    obtain ⟨y, rfl, e⟩ := one1_val (l := l) e
    exact ⟨x, y, rfl, e⟩
theorem cXs_one {a : Array Operand} {la : List AX} {x : AV} (hc : cXs a = some la) (e : evs la tm = [x]) : ∃ y ay, a = #[y] ∧ cX y = some ay ∧ x = ev ay tm := by
  cases la with
  | nil => cases e
  | cons ay l =>
    cases l with
    | cons z l => cases e
    | nil =>
      rw [evs_cons, evs_nil] at e
      cases e
      obtain ⟨a⟩ := a
      cases a with
      | nil => cases hc
      | cons y a =>
        obtain ⟨b, r, hb, hr, q⟩ := mapO_cons_some (show mapO cX (y :: a) = _ from hc)
        cases q
        cases a with
        | nil => exact ⟨y, ay, rfl, hb, rfl⟩
        | cons z a => obtain ⟨b, r, hb, hr, q⟩ := mapO_cons_some hr; cases q
theorem cXs_two {a : Array Operand} {la : List AX} {x x' : AV} (hc : cXs a = some la) (e : evs la tm = [x, x']) :
    ∃ y z ay az, a = #[y, z] ∧ cX y = some ay ∧ cX z = some az ∧ x = ev ay tm ∧ x' = ev az tm := by
  cases la with
  | nil => cases e
  | cons ay l =>
    cases l with
    | nil => cases e
    | cons az l =>
      cases l with
      | cons z l => cases e
      | nil =>
        rw [evs_cons, evs_cons, evs_nil] at e
        cases e
        obtain ⟨a⟩ := a
        cases a with
        | nil => cases hc
        | cons y a =>
          obtain ⟨b, r, hb, hr, q⟩ := mapO_cons_some (show mapO cX (y :: a) = _ from hc)
          cases q
          cases a with
          | nil => cases hr
          | cons z a =>
            obtain ⟨b, r, hb', hr, q⟩ := mapO_cons_some hr
            cases q
            cases a with
            | nil => exact ⟨y, z, ay, az, rfl, hb, hb', rfl, rfl⟩
            | cons z a => obtain ⟨b, r, hb, hr, q⟩ := mapO_cons_some hr; cases q
theorem op_slice {o : Oper} {t : TypeId} {x : Operand} {lo hi mx : Option Operand} {ax : AX} {alo ahi amx : Option AX} {d : TypeDesc} {aop : AOp} (s : Sim C g U h w) (ht : TRel g tm tmps) (ho : o.op = .slice t x lo hi mx)
    (hx : cX x = some ax) (hlo : cOptX lo = some alo) (hhi : cOptX hi = some ahi) (hmx : cOptX mx = some amx) (hd : und C.T t = some d) (hc : sliceAOp d C.T ax alo ahi amx = some aop) (e : evOp aop tm h = .val v h') :
    OpOk C g U h ((execOp (evalT tmps) o).run C.P w) v h' := by
  cases d with
  | string =>
    cases amx with
    | some m => cases hc
    | none =>
      cases hc
      have e : okV (evStrSlice (ev ax tm) tm alo ahi) h = .val v h' := e
      cases mx with
      | some m =>
        obtain ⟨am, _, q⟩ := bindO_eq (show bindO (cX m) (fun a => some (some a)) = _ from hmx)
        cases q
      | none => exact op_strSlice s ht ho hd hx hlo hhi e
  | slice el =>
    obtain ⟨n, hn, hc⟩ := bindO_eq (show bindO (szT C.T el) (fun n => bif Nat.blt 0 n then some (AOp.slice false n ax alo ahi amx) else none) = _ from hc)
    obtain ⟨hp, hc⟩ := cond_some hc
    cases hc
    have hp : 0 < n := blt_lt hp
    have e : okVH (evSlice h n (ev ax tm) tm alo ahi amx) = .val v h' := e
    have e := okVH_val e
    obtain ⟨m, e1, e⟩ := bindO_eq (show bindO (slLen (ev ax tm)) _ = _ from e)
    obtain ⟨hb, e2, e⟩ := bindO_eq e
    obtain ⟨l, e3, e⟩ := bindO_eq e
    cases mx with
    | none =>
      cases hmx
      exact op_slice_cut s ht ho hd hn hx hlo hhi e1 e2 e3 e
    | some m' =>
      obtain ⟨am, hm, q⟩ := bindO_eq (show bindO (cX m') (fun a => some (some a)) = _ from hmx)
      cases q
      obtain ⟨yy, hy, e⟩ := bindO_eq (show bindO ahi _ = _ from e)
      obtain ⟨m2, e4, e⟩ := bindO_eq e
      obtain ⟨hm2, e⟩ := cond_some e
      have hm2 := beq_eq hm2
      subst hm2
      exact op_slice_clip s ht ho hd hn hp hx hlo hhi hm hy e1 e2 e3 e4 e
  | _ => cases hc
theorem op_builtin {o : Oper} {c : Call} {b : Builtin} {args : List AX} {aop : AOp} (s : Sim C g U h w) (ht : TRel g tm tmps) (ho : o.op = .call c) (hb : c.callee = .builtin b) (ha : cXs c.args = some args)
    (hc : cBuiltin b C.T c.argTypes args = some aop) (e : evOp aop tm h = .val v h') : OpOk C g U h ((execOp (evalT tmps) o).run C.P w) v h' := by
  cases b with
  | len =>
    obtain ⟨t, h1, hc⟩ := bindO_eq (show bindO c.argTypes.toList[0]? _ = _ from hc)
    obtain ⟨d, h2, hc⟩ := bindO_eq hc
    obtain ⟨k, h3, hc⟩ := bindO_eq hc
    cases hc
    obtain ⟨x, h4, e⟩ := one1_val (show one1 (evs args tm) OpR.bad _ = _ from e)
    obtain ⟨y, ay, h5, h6, rfl⟩ := cXs_one ha h4
    exact op_len s ht ho hb h5 h1 h2 h3 h6 e
  | append =>
    obtain ⟨el, h1, hc⟩ := bindO_eq (show bindO (slElem C.T c.argTypes 0) _ = _ from hc)
    obtain ⟨el', h2, hc⟩ := bindO_eq hc
    obtain ⟨n, h3, hc⟩ := bindO_eq hc
    obtain ⟨z, h4, hc⟩ := bindO_eq hc
    obtain ⟨i, h5, hc⟩ := bindO_eq hc
    obtain ⟨hp, hc⟩ := cond_some hc
    cases hc
    obtain ⟨x, x', h6, e⟩ := one2_val (show one2 (evs args tm) OpR.bad _ = _ from e)
    obtain ⟨y, y', ay, ay', h7, h8, h9, rfl, rfl⟩ := cXs_two ha h6
    exact op_append s ht ho hb h7 h1 h2 h3 h4 h5 (blt_lt hp) h8 h9 e
  | copy =>
    obtain ⟨el, h1, hc⟩ := bindO_eq (show bindO (slElem C.T c.argTypes 0) _ = _ from hc)
    obtain ⟨el', h2, hc⟩ := bindO_eq hc
    obtain ⟨n, h3, hc⟩ := bindO_eq hc
    obtain ⟨hp, hc⟩ := cond_some hc
    cases hc
    obtain ⟨x, x', h6, e⟩ := one2_val (show one2 (evs args tm) OpR.bad _ = _ from e)
    obtain ⟨y, y', ay, ay', h7, h8, h9, rfl, rfl⟩ := cXs_two ha h6
    exact op_copy s ht ho hb h7 h1 h3 h8 h9 e
  | clear =>
    obtain ⟨el, h1, hc⟩ := bindO_eq (show bindO (slElem C.T c.argTypes 0) _ = _ from hc)
    obtain ⟨n, h3, hc⟩ := bindO_eq hc
    obtain ⟨z, h4, hc⟩ := bindO_eq hc
    obtain ⟨hp, hc⟩ := cond_some hc
    cases hc
    obtain ⟨x, h6, e⟩ := one1_val (show one1 (evs args tm) OpR.bad _ = _ from e)
    obtain ⟨y, ay, h7, h8, rfl⟩ := cXs_one ha h6
    exact op_clear s ht ho hb h7 h1 h3 h4 h8 e
  | max => cases hc; exact op_max s ht ho hb ha e
  | min => cases hc; exact op_min s ht ho hb ha e
  | recover => cases hc; cases e
  | _ => cases hc
theorem op_val {o : Oper} {aop : AOp} (s : Sim C g U h w) (ht : TRel g tm tmps) (hc : cOp o.op C.P C.T C.keep = some aop) (e : evOp aop tm h = .val v h') :
    OpOk C g U h ((execOp (evalT tmps) o).run C.P w) v h' := by
  cases ho : o.op with
  | move x =>
    rw [ho] at hc
    obtain ⟨ax, h1, hc⟩ := bindO_eq (show bindO (cX x) _ = _ from hc)
    cases hc; cases e
    exact op_mv s ht (.inl ho) h1
  | assign x =>
    rw [ho] at hc
    obtain ⟨ax, h1, hc⟩ := bindO_eq (show bindO (cX x) _ = _ from hc)
    cases hc; cases e
    exact op_mv s ht (.inr ho) h1
  | pick x y z =>
    rw [ho] at hc
    obtain ⟨ax, h1, hc⟩ := bindO_eq (show bindO (cX x) _ = _ from hc)
    obtain ⟨ay, h2, hc⟩ := bindO_eq hc
    obtain ⟨az, h3, hc⟩ := bindO_eq hc
    cases hc
    exact op_pick s ht ho h1 h2 h3 e
  | alloc t =>
    rw [ho] at hc
    obtain ⟨z, h1, hc⟩ := bindO_eq (show bindO (zeroT C.T t) _ = _ from hc)
    cases hc; cases e
    exact op_new s ho h1
  | box t x =>
    rw [ho] at hc
    obtain ⟨n, h1, hc⟩ := bindO_eq (show bindO (szT C.T t) _ = _ from hc)
    obtain ⟨ax, h2, hc⟩ := bindO_eq hc
    cases hc
    exact op_box s ht ho h2 e
  | build t ps => rw [ho] at hc; exact op_build s ht ho hc e
  | buildSlice t n ps => rw [ho] at hc; exact op_lit s ht ho hc e
  | load t x =>
    rw [ho] at hc
    obtain ⟨n, h1, hc⟩ := bindO_eq (show bindO (szT C.T t) _ = _ from hc)
    obtain ⟨ax, h2, hc⟩ := bindO_eq hc
    obtain ⟨_, hc⟩ := cond_some hc
    cases hc
    exact op_load s ht ho h1 h2 e
  | store t x y =>
    rw [ho] at hc
    obtain ⟨n, h1, hc⟩ := bindO_eq (show bindO (szT C.T t) _ = _ from hc)
    obtain ⟨ax, h2, hc⟩ := bindO_eq hc
    obtain ⟨ay, h3, hc⟩ := bindO_eq hc
    cases hc
    exact op_store s ht ho h1 h2 h3 e
  | nilCheck x =>
    rw [ho] at hc
    obtain ⟨ax, h1, hc⟩ := bindO_eq (show bindO (cX x) _ = _ from hc)
    cases hc
    exact op_nilChk s ht ho h1 e
  | binOp op t x y t' =>
    rw [ho] at hc
    obtain ⟨k, h1, hc⟩ := bindO_eq (show bindO (eqK C.P C.T t (isC x || isC y)) _ = _ from hc)
    obtain ⟨ax, h2, hc⟩ := bindO_eq hc
    obtain ⟨ay, h3, hc⟩ := bindO_eq hc
    cases hc
    exact op_bin s ht ho h1 h2 h3 e
  | unOp op t x =>
    rw [ho] at hc
    obtain ⟨ax, h1, hc⟩ := bindO_eq (show bindO (cX x) _ = _ from hc)
    cases hc
    exact op_un s ht ho h1 e
  | convert t t' x =>
    rw [ho] at hc
    obtain ⟨d, h1, hc⟩ := bindO_eq (show bindO (und C.T t) _ = _ from hc)
    obtain ⟨d', h2, hc⟩ := bindO_eq hc
    obtain ⟨ax, h3, hc⟩ := bindO_eq hc
    exact op_conv s ht ho h1 h2 h3 hc e
  | makeInterface t x =>
    rw [ho] at hc
    obtain ⟨d, h1, hc⟩ := bindO_eq (show bindO (und C.T t) _ = _ from hc)
    obtain ⟨h2, hc⟩ := cond_none hc
    obtain ⟨ax, h3, hc⟩ := bindO_eq hc
    cases hc; cases e
    exact op_mkIface s ht ho h1 h2 h3
  | makeFunc f a b =>
    rw [ho] at hc
    cases f with
    | func f =>
      obtain ⟨la, h1, hc⟩ := bindO_eq (show bindO (cXs a) _ = _ from hc)
      obtain ⟨lb, h2, hc⟩ := bindO_eq hc
      cases hc; cases e
      exact op_mkFn s ht ho h1 h2
    | _ => cases hc
  | makeMap t r =>
    rw [ho] at hc
    cases r with
    | none => cases hc; cases e; exact op_mkMap s ho
    | some r => cases hc
  | makeSlice t l c =>
    rw [ho] at hc
    obtain ⟨el, h1, hc⟩ := bindO_eq (show bindO (sliceOf C.T t) _ = _ from hc)
    obtain ⟨n, h2, hc⟩ := bindO_eq hc
    obtain ⟨z, h3, hc⟩ := bindO_eq hc
    obtain ⟨i, h4, hc⟩ := bindO_eq hc
    obtain ⟨al, h5, hc⟩ := bindO_eq hc
    obtain ⟨ac, h6, hc⟩ := bindO_eq hc
    obtain ⟨hp, hc⟩ := cond_some hc
    cases hc
    exact op_mkSlice s ht ho h1 h2 h3 h4 h5 h6 (blt_lt hp) e
  | slice t x lo hi mx =>
    rw [ho] at hc
    obtain ⟨ax, h1, hc⟩ := bindO_eq (show bindO (cX x) _ = _ from hc)
    obtain ⟨alo, h2, hc⟩ := bindO_eq hc
    obtain ⟨ahi, h3, hc⟩ := bindO_eq hc
    obtain ⟨amx, h4, hc⟩ := bindO_eq hc
    obtain ⟨d, h5, hc⟩ := bindO_eq hc
    exact op_slice s ht ho h1 h2 h3 h4 h5 hc e
  | fieldAddr t x f =>
    rw [ho] at hc
    obtain ⟨p, h1, hc⟩ := bindO_eq (show bindO (fieldOf C.T t f) _ = _ from hc)
    obtain ⟨ax, h2, hc⟩ := bindO_eq hc
    cases hc
    exact op_faddr s ht ho h1 h2 e
  | field t x f =>
    rw [ho] at hc
    obtain ⟨p, h1, hc⟩ := bindO_eq (show bindO (fieldOf C.T t f) _ = _ from hc)
    obtain ⟨ax, h2, hc⟩ := bindO_eq hc
    cases hc
    exact op_field s ht ho h1 h2 e
  | indexAddr t x i =>
    rw [ho] at hc
    obtain ⟨ax, h1, hc⟩ := bindO_eq (show bindO (cX x) _ = _ from hc)
    obtain ⟨ai, h2, hc⟩ := bindO_eq hc
    obtain ⟨d, h3, hc⟩ := bindO_eq hc
    cases d with
    | slice el =>
      obtain ⟨n, h4, hc⟩ := bindO_eq (show bindO (szT C.T el) _ = _ from hc)
      cases hc
      exact op_iaddr s ht ho h3 h4 h1 h2 e
    | array len el =>
      obtain ⟨n, h4, hc⟩ := bindO_eq (show bindO (szT C.T el) _ = _ from hc)
      cases hc
      exact op_iaddrA s ht ho h3 h4 h1 h2 e
    | _ => cases hc
  | index t x i =>
    rw [ho] at hc
    obtain ⟨ax, h1, hc⟩ := bindO_eq (show bindO (cX x) _ = _ from hc)
    obtain ⟨ai, h2, hc⟩ := bindO_eq hc
    obtain ⟨d, h3, hc⟩ := bindO_eq hc
    cases d with
    | string => cases hc; exact op_strIdx s ht ho h3 h1 h2 e
    | array len el =>
      obtain ⟨n, h4, hc⟩ := bindO_eq (show bindO (szT C.T el) _ = _ from hc)
      cases hc
      exact op_arrIdx s ht ho h3 h4 h1 h2 e
    | _ => cases hc
  | lookup t x i ok =>
    rw [ho] at hc
    obtain ⟨p, h1, hc⟩ := bindO_eq (show bindO (basicKey C.T t) _ = _ from hc)
    obtain ⟨z, h2, hc⟩ := bindO_eq hc
    obtain ⟨ax, h3, hc⟩ := bindO_eq hc
    obtain ⟨ai, h4, hc⟩ := bindO_eq hc
    cases hc
    exact op_lookup s ht ho h1 h2 h3 h4 e
  | mapUpdate t m k x =>
    rw [ho] at hc
    obtain ⟨p, h1, hc⟩ := bindO_eq (show bindO (basicKey C.T t) _ = _ from hc)
    obtain ⟨am, h2, hc⟩ := bindO_eq hc
    obtain ⟨ak, h3, hc⟩ := bindO_eq hc
    obtain ⟨ax, h4, hc⟩ := bindO_eq hc
    cases hc
    exact op_mapUp s ht ho h1 h2 h3 h4 e
  | typeAssert x t t' ok =>
    rw [ho] at hc
    obtain ⟨d, h1, hc⟩ := bindO_eq (show bindO (und C.T t') _ = _ from hc)
    obtain ⟨h2, hc⟩ := cond_none hc
    obtain ⟨ax, h3, hc⟩ := bindO_eq hc
    obtain ⟨z, h4, hc⟩ := bindO_eq hc
    cases hc
    exact op_assert s ht ho h1 h2 h3 h4 e
  | extract x i =>
    rw [ho] at hc
    obtain ⟨ax, h1, hc⟩ := bindO_eq (show bindO (cX x) _ = _ from hc)
    cases hc
    exact op_extract s ht ho h1 e
  | call c =>
    rw [ho] at hc
    obtain ⟨args, h1, hc⟩ := bindO_eq (show bindO (cXs c.args) _ = _ from hc)
    cases hcc : c.callee with
    | value f =>
      rw [hcc] at hc
      obtain ⟨af, h2, hc⟩ := bindO_eq (show bindO (cX f) _ = _ from hc)
      cases hc; cases e
    | invoke a b => rw [hcc] at hc; cases hc
    | builtin b => rw [hcc] at hc; exact op_builtin s ht ho hcc h1 hc e
  | defer c =>
    rw [ho] at hc
    obtain ⟨args, h1, hc⟩ := bindO_eq (show bindO (cXs c.args) _ = _ from hc)
    cases hcc : c.callee with
    | value f =>
      rw [hcc] at hc
      obtain ⟨af, h2, hc⟩ := bindO_eq (show bindO (cX f) _ = _ from hc)
      cases hc; cases e
    | invoke a b => rw [hcc] at hc; cases hc
    | builtin b => rw [hcc] at hc; cases hc
  | panic x =>
    rw [ho] at hc
    obtain ⟨ax, h1, hc⟩ := bindO_eq (show bindO (cX x) _ = _ from hc)
    cases hc
    have e : evPanic (ev ax tm) = .val v h' := e
    generalize ev ax tm = y at e
    cases y <;> cases e
  | _ => rw [ho] at hc; cases hc
end
end Go.AG
