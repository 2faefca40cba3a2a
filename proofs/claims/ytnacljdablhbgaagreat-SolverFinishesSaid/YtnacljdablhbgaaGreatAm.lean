/- AbsGo: more rules for symbolic runs (no condition). -/
import Derived.Test.YtnacljdablhbgaaGreatAl
namespace Go.AG
section
variable {call : CallF} {n : Nat} {k : List It} {Q : AEx → AF → AH → Prop} {fr : AF} {h : AH} {tm : Tm} {cx : AC} {a b : ACode} {l : List AOper} {d : Option Nat} {op : AOp}
theorem R_out_same {id : Nat} : R call n (.out id :: k) Q (.exit id) fr h = R call n k Q .normal fr h := by
  rw [R_out_exit]
  have : Nat.beq id id = true := Nat.beq_refl id
  rw [this]; rfl
theorem R_out_other {id j : Nat} (hne : j ≠ id) : R call n (.out id :: k) Q (.exit j) fr h = R call n k Q (.exit j) fr h := by
  rw [R_out_exit, beqf hne]; rfl
theorem want_tt (c : Bool) : wantV (.bool c) true = some c := by cases c <;> rfl
theorem want_ff (c : Bool) : wantV (.bool c) false = some (!c) := by cases c <;> rfl
theorem sG_bool {c : Bool} (h1 : c = true → sG call n (some true) d op l k Q tm cx h) (h2 : c = false → sG call n (some false) d op l k Q tm cx h) : sG call n (some c) d op l k Q tm cx h := by
  cases c with
  | true => exact h1 rfl
  | false => exact h2 rfl
theorem sG_nbool {c : Bool} (h1 : c = false → sG call n (some true) d op l k Q tm cx h) (h2 : c = true → sG call n (some false) d op l k Q tm cx h) : sG call n (some (!c)) d op l k Q tm cx h := by
  cases c with
  | true => exact h2 rfl
  | false => exact h1 rfl
theorem sB_dec {p : Prop} [Decidable p] (h1 : p → R call n (.code a :: k) Q .normal fr h) (h2 : ¬ p → R call n (.code b :: k) Q .normal fr h) : sB call n (.bool (decide p)) a b k Q fr h := by
  by_cases hp : p
  · rw [decide_eq_true hp]; exact h1 hp
  · rw [decide_eq_false hp]; exact h2 hp
theorem sB_nbool {c : Bool} (h1 : c = false → R call n (.code a :: k) Q .normal fr h) (h2 : c = true → R call n (.code b :: k) Q .normal fr h) : sB call n (.bool (!c)) a b k Q fr h := by
  cases c with
  | true => exact h2 rfl
  | false => exact h1 rfl
theorem sB_bool {c : Bool} (h1 : c = true → R call n (.code a :: k) Q .normal fr h) (h2 : c = false → R call n (.code b :: k) Q .normal fr h) : sB call n (.bool c) a b k Q fr h := by
  cases c with
  | true => exact h1 rfl
  | false => exact h2 rfl
end
section
variable {h : AH} {v : AV}
theorem new_mk (n l : Nat) (o : Tr AObj) (x : AObj) : AH.new ⟨n, l, o⟩ x = ⟨n + 1, l, o.put n x⟩ := (rfl)
theorem set_mk (n l : Nat) (o : Tr AObj) (k : Nat) (x : AObj) : AH.set ⟨n, l, o⟩ k x = ⟨n, minN k l, o.put k x⟩ := (rfl)
theorem get_mk (n l : Nat) (o : Tr AObj) (k : Nat) : AH.get ⟨n, l, o⟩ k = o.get k := (rfl)
theorem next_mk (n l : Nat) (o : Tr AObj) : AH.next ⟨n, l, o⟩ = n := (rfl)
theorem faddr_ptr (k g off o sz : Nat) (agg : Bool) : evFaddr (.ptr k g off) h o sz agg = .val (.ptr k g (off + o)) h := (rfl)
theorem faddr_vptr1 (cs : List AV) (o : Nat) : evFaddr (.vptr (.agg cs)) h o 1 false = okV (bindO (cs[o]?) fun v => some (.vptr v)) h := by
  show okV (bindO (nthL o cs) fun v => some (.vptr v)) h = _
  rw [nthL_eq]
theorem load_ptr (k g off : Nat) (agg : Bool) (sz : Nat) : evLoad (.ptr k g off) h agg sz = bindO (h.get k) fun o => loadAt o agg sz g off := (rfl)
theorem load_vptr1 (hv : v.isAgg = false) : evLoad (.vptr v) h false 1 = some v := load_vptr false 1 hv (by rw [cells_one hv]; rfl)
theorem load_vptrI (k : IntKind) (n : Int) : evLoad (.vptr (.int k n)) h false 1 = some (.int k n) := load_vptr1 rfl
theorem load_vptrL (es : List AV) : evLoad (.vptr (.lst es)) h false 1 = some (.lst es) := load_vptr1 rfl
theorem load_vptrA (cs : List AV) (sz : Nat) (hl : cs.length = sz) : evLoad (.vptr (.agg cs)) h true sz = some (.agg cs) := load_vptr true sz rfl hl
theorem loadAt_box (cs : List AV) (agg : Bool) (sz off : Nat) : loadAt (.box cs) agg sz 0 off = grab agg sz off cs := (rfl)
theorem loadAt_row (g sz' : Nat) (ag : Bool) (cs : List AV) (fz : Nat) (agg : Bool) (sz off : Nat) : loadAt (.row g sz' ag cs fz) agg sz g off = grab agg sz off cs := by
  show cond (Nat.beq g g) _ _ = _
  have : Nat.beq g g = true := Nat.beq_refl g
  rw [this]; rfl
theorem grab_1 (off : Nat) (cs : List AV) : grab false 1 off cs = cs[off]? := by
  show cond (Nat.beq 1 1) (nthL off cs) none = _
  rw [nthL_eq]; rfl
theorem grab_A (sz off : Nat) (cs : List AV) (hl : off + sz ≤ cs.length) : grab true sz off cs = some (.agg ((cs.drop off).take sz)) := by
  show cond (Nat.ble (off + sz) (len cs)) (some (AV.agg (tke sz (drp off cs)))) none = _
  rw [len_eq, tke_eq, drp_eq, Nat.ble_eq_true_of_le hl]; rfl
theorem box_agg (cs : List AV) (n : Nat) (hl : cs.length = n) : evBox h n (.agg cs) = .val (.ptr h.next 0 0) (h.new (.box cs)) := by
  show cond (and (Nat.beq (len cs) n) true) _ _ = _
  rw [len_eq, hl]
  have : Nat.beq n n = true := Nat.beq_refl n
  rw [this]; rfl
theorem store_ptr (k g off sz : Nat) (hl : v.lies = true) (hs : v.cells.length = sz) : evStore (.ptr k g off) h sz v = bindO (h.get k) fun o => bindO (storeAt o g off v.cells) fun o => some (h.set k o) := by
  show cond (and (Nat.beq (len v.cells) sz) v.lies) _ _ = _
  rw [len_eq, hs, hl]
  have : Nat.beq sz sz = true := Nat.beq_refl sz
  rw [this]; rfl
theorem storeAt_box (cs vs : List AV) (off : Nat) (hl : off + vs.length ≤ cs.length) : storeAt (.box cs) 0 off vs = some (.box (setR off vs cs)) := by
  show cond (and (Nat.beq 0 0) (Nat.ble (off + len vs) (len cs))) _ _ = _
  rw [len_eq, len_eq, Nat.ble_eq_true_of_le hl]; rfl
theorem cells_agg (cs : List AV) : (AV.agg cs).cells = cs := (rfl)
theorem cells_int (k : IntKind) (n : Int) : (AV.int k n).cells = [.int k n] := (rfl)
theorem cells_bool (b : Bool) : (AV.bool b).cells = [.bool b] := (rfl)
theorem cells_lst (es : List AV) : (AV.lst es).cells = [.lst es] := (rfl)
theorem cells_row (k g sz off n : Nat) : (AV.row k g sz off n).cells = [.row k g sz off n] := (rfl)
theorem lies_agg (cs : List AV) : (AV.agg cs).lies = true := (rfl)
theorem lies_int (k : IntKind) (n : Int) : (AV.int k n).lies = true := (rfl)
theorem lies_bool (b : Bool) : (AV.bool b).lies = true := (rfl)
theorem lies_lst (es : List AV) : (AV.lst es).lies = true := (rfl)
theorem lies_row (k g sz off n : Nat) : (AV.row k g sz off n).lies = true := (rfl)
theorem res_nil (tm : Tm) : evRes [] tm h = some [] := (rfl)
theorem res_tmp (t : Nat) (l : List ARes) (tm : Tm) : evRes (.tmp t :: l) tm h = bindO (evRes l tm h) fun vs => some (nth tm t :: vs) := (rfl)
theorem res_cell (a : Nat) (agg : Bool) (sz : Nat) (l : List ARes) (tm : Tm) : evRes (.cell a agg sz :: l) tm h = bindO (evLoad (nth tm a) h agg sz) fun v => bindO (evRes l tm h) fun vs => some (v :: vs) := (rfl)
theorem one_1 : one [v] = v := (rfl)
theorem one_2 (a b : AV) : one [a, b] = .tup [a, b] := (rfl)
theorem frz_int (m base : Nat) (k : IntKind) (n : Int) : frz m h base (.int k n) = .int k n := by cases m <;> rfl
theorem frz_bool (m base : Nat) (b : Bool) : frz m h base (.bool b) = .bool b := by cases m <;> rfl
theorem frz_lst (m base : Nat) (es : List AV) : frz m h base (.lst es) = .lst es := by cases m <;> rfl
theorem frz_clip (m base : Nat) (es : List AV) : frz m h base (.clip es) = .clip es := by cases m <;> rfl
theorem frz_nils (m base : Nat) : frz m h base .nils = .nils := by cases m <;> rfl
theorem frz_tupS (m base : Nat) (l : List AV) : frz (m + 1) h base (.tup l) = .tup (l.map (frz m h base)) := by
  show AV.tup (mapL (frz m h base) l) = _
  congr 1
  induction l with
  | nil => rfl
  | cons a l ih => show frz m h base a :: mapL (frz m h base) l = _; rw [ih]; rfl
theorem frz_aggS (m base : Nat) (l : List AV) : frz (m + 1) h base (.agg l) = .agg (l.map (frz m h base)) := by
  show AV.agg (mapL (frz m h base) l) = _
  congr 1
  induction l with
  | nil => rfl
  | cons a l ih => show frz m h base a :: mapL (frz m h base) l = _; rw [ih]; rfl
theorem norm_int (k : IntKind) (n : Int) : (AV.int k n).norm = .int k n := by simp [AV.norm]
theorem norm_bool (b : Bool) : (AV.bool b).norm = .bool b := by simp [AV.norm]
theorem max2 (k : IntKind) (a b : Int) : evMax false [.int k a, .int k b] = some (.int k (max a b)) := by
  show some (AV.int k (pickI false a b)) = _
  rw [pickI_max]
  congr 2
  by_cases h : b > a
  · rw [if_pos h]; omega
  · rw [if_neg h]; omega
end
structure LV where
  idx : Int
  plus : Int
structure LL where
  c : Int
  vars : List LV
inductive T where
  | mk (kind idx : Int) (name : ByteArray) (levels : List LL) (kids : List T)
def T.kind : T → Int | .mk k _ _ _ _ => k
def T.idx : T → Int | .mk _ i _ _ _ => i
def T.name : T → ByteArray | .mk _ _ n _ _ => n
def T.levels : T → List LL | .mk _ _ _ l _ => l
def T.kids : T → List T | .mk _ _ _ _ ks => ks
def encV (x : LV) : AV := .agg [.int .i64 x.idx, .int .i64 x.plus]
def encL (x : LL) : AV := .agg [.int .i64 x.c, .lst (x.vars.map encV)]
mutual
def enc : T → AV
  | .mk k i nm ls ks => .agg [.int .i64 k, .int .i64 i, .str nm, .lst (ls.map encL), .lst (encs ks)]
def encs : List T → List AV
  | [] => []
  | t :: l => enc t :: encs l
end
def encI (i : Int) : AV := .int .i64 i
theorem encs_map (l : List T) : encs l = l.map enc := by
  induction l with
  | nil => simp [encs]
  | cons t l ih => simp [encs, ih]
theorem enc_eq (k i : Int) (nm : ByteArray) (ls : List LL) (ks : List T) : enc (.mk k i nm ls ks) = .agg [.int .i64 k, .int .i64 i, .str nm, .lst (ls.map encL), .lst (ks.map enc)] := by
  rw [enc, encs_map]
theorem encV_inj {x y : LV} (h : encV x = encV y) : x = y := by
  cases x; cases y; simp [encV] at h; simp [h]
theorem map_inj {α : Type} {f : α → AV} (hf : ∀ x y, f x = f y → x = y) : ∀ {l m : List α}, l.map f = m.map f → l = m
  | [], [], _ => rfl
  | [], _ :: _, h => by simp at h
  | _ :: _, [], h => by simp at h
  | x :: l, y :: m, h => by
    simp only [List.map_cons, List.cons.injEq] at h
    rw [hf _ _ h.1, map_inj hf h.2]
theorem encL_inj {x y : LL} (h : encL x = encL y) : x = y := by
  cases x; cases y
  simp only [encL, AV.agg.injEq, List.cons.injEq, AV.int.injEq, AV.lst.injEq, and_true, true_and] at h
  rw [h.1, map_inj (fun _ _ => encV_inj) h.2]
mutual
theorem enc_inj : ∀ {x y : T}, enc x = enc y → x = y
  | .mk k i nm ls ks, .mk k' i' nm' ls' ks', h => by
    simp only [enc, AV.agg.injEq, List.cons.injEq, AV.int.injEq, AV.lst.injEq, AV.str.injEq, and_true, true_and] at h
    obtain ⟨h1, h2, h3, h4, h5⟩ := h
    rw [h1, h2, h3, map_inj (fun _ _ => encL_inj) h4, encs_inj h5]
theorem encs_inj : ∀ {x y : List T}, encs x = encs y → x = y
  | [], [], _ => rfl
  | [], _ :: _, h => by simp [encs] at h
  | _ :: _, [], h => by simp [encs] at h
  | a :: l, b :: m, h => by
    simp only [encs, List.cons.injEq] at h
    rw [enc_inj h.1, encs_inj h.2]
end
theorem frees_map {α : Type} {f : α → AV} (hf : ∀ x, (f x).free = true) (l : List α) : AV.frees (l.map f) = true := by
  induction l with
  | nil => simp [AV.frees]
  | cons a l ih => simp [AV.frees, hf, ih]
theorem encV_free (x : LV) : (encV x).free = true := by simp [encV, AV.free, AV.frees]
theorem encL_free (x : LL) : (encL x).free = true := by simp [encL, AV.free, AV.frees, frees_map encV_free]
mutual
theorem enc_free : ∀ x : T, (enc x).free = true
  | .mk k i nm ls ks => by simp [enc, AV.free, AV.frees, frees_map encL_free, encs_free ks]
theorem encs_free : ∀ x : List T, AV.frees (encs x) = true
  | [] => by simp [encs, AV.frees]
  | a :: l => by simp [encs, AV.frees, enc_free a, encs_free l]
end
theorem norms_mapE {α : Type} {f : α → AV} (hf : ∀ x, (f x).norm = f x) (l : List α) : AV.norms (l.map f) = l.map f := by
  rw [norms_map, List.map_map]; exact List.map_congr_left fun x _ => hf x
theorem encV_norm (x : LV) : (encV x).norm = encV x := by simp [encV, AV.norm, AV.norms]
theorem encL_norm (x : LL) : (encL x).norm = encL x := by simp [encL, AV.norm, AV.norms, norms_mapE encV_norm]
mutual
theorem enc_norm : ∀ x : T, (enc x).norm = enc x
  | .mk k i nm ls ks => by simp [enc, AV.norm, AV.norms, norms_mapE encL_norm, encs_norm ks]
theorem encs_norm : ∀ x : List T, AV.norms (encs x) = encs x
  | [] => by simp [encs, AV.norms]
  | a :: l => by simp [encs, AV.norms, enc_norm a, encs_norm l]
end
theorem encT_frees (l : List T) : AV.frees (l.map enc) = true := frees_map enc_free l
theorem encT_norms (l : List T) : AV.norms (l.map enc) = l.map enc := norms_mapE enc_norm l
theorem encL_norms (l : List LL) : AV.norms (l.map encL) = l.map encL := norms_mapE encL_norm l
theorem encV_norms (l : List LV) : AV.norms (l.map encV) = l.map encV := norms_mapE encV_norm l
theorem enc_cells (t : T) : (enc t).cells.length = 5 := by cases t; simp [enc, AV.cells]
theorem enc_isAgg (t : T) : (enc t).isAgg = true := by cases t; simp [enc, AV.isAgg]
theorem iaddr_map {α : Type} {f : α → AV} {sz : Nat} (hf : ∀ x, (f x).cells.length = sz) {ks : List α} {m : Nat} {t : α} (ht : ks[m]? = some t) (k : IntKind) (h : AH) :
    evIaddr (.lst (ks.map f)) h sz (.int k (m : Int)) = .val (.vptr (f t)) h := by
  refine iaddr_lst (Int.natCast_nonneg m) ?_ (hf t)
  rw [Int.toNat_natCast, List.getElem?_map, ht]; rfl
theorem load_enc (t : T) (h : AH) : evLoad (.vptr (enc t)) h true 5 = some (enc t) := load_vptr true 5 (enc_isAgg t) (enc_cells t)
theorem load_encL (t : LL) (h : AH) : evLoad (.vptr (encL t)) h true 2 = some (encL t) := load_vptr true 2 rfl (by simp [encL, AV.cells])
theorem load_encV (t : LV) (h : AH) : evLoad (.vptr (encV t)) h true 2 = some (encV t) := load_vptr true 2 rfl (by simp [encV, AV.cells])
theorem wrap_fits (n : Int) (h1 : -9223372036854775808 ≤ n) (h2 : n < 9223372036854775808) : IntKind.wrap .i64 n = n := wrap64_fits n (by omega) (by omega)
theorem wrap_succ (i : Nat) (h : i < 9223372036854775807) : IntKind.wrap .i64 ((i : Int) + 1) = ((i + 1 : Nat) : Int) := by rw [wrap_fits _ (by omega) (by omega)]; omega
theorem encL_cells (t : LL) : (encL t).cells.length = 2 := by simp [encL, AV.cells]
theorem encV_cells (t : LV) : (encV t).cells.length = 2 := by simp [encV, AV.cells]
section
variable (call : CallF) (n : Nat)
def RD (l all : List (AOper × DI)) (tm : Tm) (cx : AC) (h : AH) (nk : Nat) (hs : List AH) (rds : List Rd) (k : List It) (Q : AEx → AF → AH → Prop) : Prop :=
  WP (evDraw l call all ⟨⟨tm, cx⟩, h, nk, hs, rds⟩) (R call n k Q)
def dE (ok : Bool) (tm : Tm) (cx : AC) (h : AH) (k : List It) (Q : AEx → AF → AH → Prop) : Prop := ok = true ∧ R call n k Q .normal ⟨tm, cx⟩ h
def dS (r : OpR) (d : Option Nat) (l all : List (AOper × DI)) (tm : Tm) (cx : AC) (h : AH) (nk : Nat) (hs : List AH) (rds : List Rd) (k : List It) (Q : AEx → AF → AH → Prop) : Prop :=
  WP (bindO (evUpon r call d ⟨tm, cx⟩ h) fun p => drawStill p.1 ⟨⟨tm, cx⟩, h, nk, hs, rds⟩ p.2.1 (evDraw l call all)) (R call n k Q)
def dV (r : OpR) (d : Option Nat) (op : AOp) (lo hi : Nat) (l all : List (AOper × DI)) (tm : Tm) (cx : AC) (h : AH) (nk : Nat) (hs : List AH) (rds : List Rd) (k : List It) (Q : AEx → AF → AH → Prop) : Prop :=
  WP (drawVal r ⟨⟨tm, cx⟩, h, nk, hs, rds⟩ ⟨d, op, none⟩ ⟨lo, hi, false⟩ (evDraw l call all)) (R call n k Q)
def dK (r : Option (AOut × RC × AH)) (fin : Bool) (d : Option Nat) (l all : List (AOper × DI)) (tm : Tm) (cx : AC) (h : AH) (nk : Nat) (hs : List AH) (rds : List Rd) (k : List It) (Q : AEx → AF → AH → Prop) : Prop :=
  WP (bindO (evRet d ⟨tm, cx⟩ r) fun p => drawAct p.1 all fin ⟨⟨tm, cx⟩, h, nk, hs, rds⟩ p.2.1 p.2.2 (evDraw l call all)) (R call n k Q)
def dA (r : OpR) (fin : Bool) (d : Option Nat) (l all : List (AOper × DI)) (tm : Tm) (cx : AC) (h : AH) (nk : Nat) (hs : List AH) (rds : List Rd) (k : List It) (Q : AEx → AF → AH → Prop) : Prop :=
  WP (bindO (evUpon r call d ⟨tm, cx⟩ h) fun p => drawAct p.1 all fin ⟨⟨tm, cx⟩, h, nk, hs, rds⟩ p.2.1 p.2.2 (evDraw l call all)) (R call n k Q)
def dC (c : Cls) (w : Option Bool) (d : Option Nat) (op : AOp) (lo hi : Nat) (fin : Bool) (l all : List (AOper × DI)) (tm : Tm) (cx : AC) (h : AH) (nk : Nat) (hs : List AH) (rds : List Rd) (k : List It) (Q : AEx → AF → AH → Prop) : Prop :=
  match c, w with
  | .still, some true => dS call n (evOp op tm h) d l all tm cx h nk hs rds k Q
  | .still, some false => RD call n l all (putD d tm (.tup [])) cx h nk hs rds k Q
  | .reads, some true => dV call n (evOp op tm h) d op lo hi l all tm cx h nk hs rds k Q
  | .reads, some false => RD call n l all (putD d tm (.tup [])) cx h nk hs rds k Q
  | .acts, some true => dA call n (evOp op tm h) fin d l all tm cx h nk hs rds k Q
  | .acts, some false => RD call n l all (putD d tm (.tup [])) cx h nk (hs ++ [h]) rds k Q
  | .born, some true => RD call n l all (putD d tm (.ptr nk 0 0)) cx h (nk + 1) hs rds k Q
  | _, _ => False
end
section
variable {call : CallF} {n : Nat} {l all : List (AOper × DI)} {tm : Tm} {cx : AC} {h h1 : AH} {nk lo hi : Nat} {hs : List AH} {rds : List Rd} {k : List It} {Q : AEx → AF → AH → Prop} {d : Option Nat} {op : AOp} {fin : Bool} {v : AV} {rc : RC}
theorem R_draw {ops : List (AOper × DI)} : R call n (.code (.draw ops) :: k) Q .normal ⟨tm, cx⟩ h = RD call n ops ops tm cx (births ops h) h.next [births ops h] [] k Q := (rfl)
theorem RD_nil : RD call n [] all tm cx h nk hs rds k Q = dE call n (rdsOk rds hs) tm cx h k Q := by
  apply propext
  show WP (cond (rdsOk rds hs) (some (.normal, ⟨tm, cx⟩, h)) none) _ ↔ (rdsOk rds hs = true ∧ _)
  cases rdsOk rds hs with
  | true => simp only [cond_true, WP_some, true_and]
  | false => simp only [cond_false, WP_none, Bool.false_eq_true, false_and]
theorem RD_step {c : Cls} {g : Option (Nat × Bool)} (hc : op.cls = c) (hb : c = .born → g = none) :
    RD call n ((⟨d, op, g⟩, ⟨lo, hi, fin⟩) :: l) all tm cx h nk hs rds k Q = dC call n c (wants g tm) d op lo hi fin l all tm cx h nk hs rds k Q := by
  apply propext
  show WP (drawStep op.cls call all ⟨d, op, g⟩ ⟨lo, hi, fin⟩ ⟨⟨tm, cx⟩, h, nk, hs, rds⟩ (evDraw l call all)) (R call n k Q) ↔ _
  rw [hc]
  have eo : evOper ⟨d, op, g⟩ call ⟨tm, cx⟩ h = bindO (wants g tm) fun w => cond w (evUpon (evOp op tm h) call d ⟨tm, cx⟩ h) (some (.normal, (AF.mk tm cx).put d (.tup []), h)) := (rfl)
  cases c with
  | born => rw [hb rfl]; exact Iff.rfl
  | still =>
    show WP (bindO (evOper ⟨d, op, g⟩ call ⟨tm, cx⟩ h) fun p => drawStill p.1 _ p.2.1 _) _ ↔ _
    rw [eo]
    cases wants g tm with
    | none => exact WP_none
    | some w => cases w <;> exact Iff.rfl
  | reads =>
    show WP (bindO (wants g tm) fun w => cond w (drawVal (evOp op tm h) ⟨⟨tm, cx⟩, h, nk, hs, rds⟩ ⟨d, op, g⟩ ⟨lo, hi, fin⟩ (evDraw l call all)) (evDraw l call all ⟨(AF.mk tm cx).put d (.tup []), h, nk, hs, rds⟩)) _ ↔ _
    cases wants g tm with
    | none => exact WP_none
    | some w => cases w with
      | false => exact Iff.rfl
      | true =>
        rw [bindO_some, cond_true]
        show _ ↔ WP (drawVal (evOp op tm h) ⟨⟨tm, cx⟩, h, nk, hs, rds⟩ ⟨d, op, none⟩ ⟨lo, hi, false⟩ (evDraw l call all)) (R call n k Q)
        cases evOp op tm h <;> exact Iff.rfl
  | acts =>
    show WP (bindO (evOper ⟨d, op, g⟩ call ⟨tm, cx⟩ h) fun p => drawAct p.1 all fin _ p.2.1 p.2.2 _) _ ↔ _
    rw [eo]
    cases wants g tm with
    | none => exact WP_none
    | some w => cases w <;> exact Iff.rfl
theorem RD_mv (x : AX) {g : Option (Nat × Bool)} : RD call n ((⟨d, (.mv x), g⟩, ⟨lo, hi, fin⟩) :: l) all tm cx h nk hs rds k Q = dC call n .still (wants g tm) d (.mv x) lo hi fin l all tm cx h nk hs rds k Q := RD_step rfl (by intro e; cases e)
theorem RD_pick (a b c : AX) {g : Option (Nat × Bool)} : RD call n ((⟨d, (.pick a b c), g⟩, ⟨lo, hi, fin⟩) :: l) all tm cx h nk hs rds k Q = dC call n .still (wants g tm) d (.pick a b c) lo hi fin l all tm cx h nk hs rds k Q := RD_step rfl (by intro e; cases e)
theorem RD_build (z : List AV) (ps : List (Nat × Nat × AX)) {g : Option (Nat × Bool)} : RD call n ((⟨d, (.build z ps), g⟩, ⟨lo, hi, fin⟩) :: l) all tm cx h nk hs rds k Q = dC call n .still (wants g tm) d (.build z ps) lo hi fin l all tm cx h nk hs rds k Q := RD_step rfl (by intro e; cases e)
theorem RD_litT (agg : Bool) (sz : Nat) (z : List AV) (m : Nat) (ps : List (Nat × AX)) {g : Option (Nat × Bool)} : RD call n ((⟨d, (.lit true agg sz z m ps), g⟩, ⟨lo, hi, fin⟩) :: l) all tm cx h nk hs rds k Q = dC call n .still (wants g tm) d (.lit true agg sz z m ps) lo hi fin l all tm cx h nk hs rds k Q := RD_step rfl (by intro e; cases e)
theorem RD_load (agg : Bool) (sz : Nat) (x : AX) {g : Option (Nat × Bool)} : RD call n ((⟨d, (.load agg sz x), g⟩, ⟨lo, hi, fin⟩) :: l) all tm cx h nk hs rds k Q = dC call n .reads (wants g tm) d (.load agg sz x) lo hi fin l all tm cx h nk hs rds k Q := RD_step rfl (by intro e; cases e)
theorem RD_store (sz : Nat) (a x : AX) {g : Option (Nat × Bool)} : RD call n ((⟨d, (.store sz a x), g⟩, ⟨lo, hi, fin⟩) :: l) all tm cx h nk hs rds k Q = dC call n .acts (wants g tm) d (.store sz a x) lo hi fin l all tm cx h nk hs rds k Q := RD_step rfl (by intro e; cases e)
theorem RD_nilChk (x : AX) {g : Option (Nat × Bool)} : RD call n ((⟨d, (.nilChk x), g⟩, ⟨lo, hi, fin⟩) :: l) all tm cx h nk hs rds k Q = dC call n .still (wants g tm) d (.nilChk x) lo hi fin l all tm cx h nk hs rds k Q := RD_step rfl (by intro e; cases e)
theorem RD_bin (o : BinOp) (e : EqK) (x y : AX) {g : Option (Nat × Bool)} : RD call n ((⟨d, (.bin o e x y), g⟩, ⟨lo, hi, fin⟩) :: l) all tm cx h nk hs rds k Q = dC call n .still (wants g tm) d (.bin o e x y) lo hi fin l all tm cx h nk hs rds k Q := RD_step rfl (by intro e; cases e)
theorem RD_un (o : UnOp) (x : AX) {g : Option (Nat × Bool)} : RD call n ((⟨d, (.un o x), g⟩, ⟨lo, hi, fin⟩) :: l) all tm cx h nk hs rds k Q = dC call n .still (wants g tm) d (.un o x) lo hi fin l all tm cx h nk hs rds k Q := RD_step rfl (by intro e; cases e)
theorem RD_slice (str : Bool) (sz : Nat) (x : AX) (l1 l2 : Option AX) {g : Option (Nat × Bool)} : RD call n ((⟨d, (.slice str sz x l1 l2 none), g⟩, ⟨lo, hi, fin⟩) :: l) all tm cx h nk hs rds k Q = dC call n .still (wants g tm) d (.slice str sz x l1 l2 none) lo hi fin l all tm cx h nk hs rds k Q := RD_step rfl (by intro e; cases e)
theorem RD_faddr (o sz : Nat) (agg : Bool) (x : AX) {g : Option (Nat × Bool)} : RD call n ((⟨d, (.faddr o sz agg x), g⟩, ⟨lo, hi, fin⟩) :: l) all tm cx h nk hs rds k Q = dC call n .still (wants g tm) d (.faddr o sz agg x) lo hi fin l all tm cx h nk hs rds k Q := RD_step rfl (by intro e; cases e)
theorem RD_iaddr (sz : Nat) (x i : AX) {g : Option (Nat × Bool)} : RD call n ((⟨d, (.iaddr sz x i), g⟩, ⟨lo, hi, fin⟩) :: l) all tm cx h nk hs rds k Q = dC call n .still (wants g tm) d (.iaddr sz x i) lo hi fin l all tm cx h nk hs rds k Q := RD_step rfl (by intro e; cases e)
theorem RD_extract (x : AX) (i : Nat) {g : Option (Nat × Bool)} : RD call n ((⟨d, (.extract x i), g⟩, ⟨lo, hi, fin⟩) :: l) all tm cx h nk hs rds k Q = dC call n .still (wants g tm) d (.extract x i) lo hi fin l all tm cx h nk hs rds k Q := RD_step rfl (by intro e; cases e)
theorem RD_len (m : Nat) (as : List AX) {g : Option (Nat × Bool)} : RD call n ((⟨d, (.builtin (.len m) as), g⟩, ⟨lo, hi, fin⟩) :: l) all tm cx h nk hs rds k Q = dC call n .reads (wants g tm) d (.builtin (.len m) as) lo hi fin l all tm cx h nk hs rds k Q := RD_step rfl (by intro e; cases e)
theorem RD_append (sz : Nat) (agg : Bool) (z : List AV) (b : Nat) (as : List AX) {g : Option (Nat × Bool)} : RD call n ((⟨d, (.builtin (.append sz agg z b) as), g⟩, ⟨lo, hi, fin⟩) :: l) all tm cx h nk hs rds k Q = dC call n .acts (wants g tm) d (.builtin (.append sz agg z b) as) lo hi fin l all tm cx h nk hs rds k Q := RD_step rfl (by intro e; cases e)
theorem RD_call (f : AX) (as : List AX) {g : Option (Nat × Bool)} : RD call n ((⟨d, (.call f as), g⟩, ⟨lo, hi, fin⟩) :: l) all tm cx h nk hs rds k Q = dC call n .acts (wants g tm) d (.call f as) lo hi fin l all tm cx h nk hs rds k Q := RD_step rfl (by intro e; cases e)
theorem RD_new (z : List AV) : RD call n ((⟨d, (.new z), none⟩, ⟨lo, hi, fin⟩) :: l) all tm cx h nk hs rds k Q = RD call n l all (putD d tm (.ptr nk 0 0)) cx h (nk + 1) hs rds k Q := RD_step rfl (fun _ => rfl)
theorem dC_still : dC call n .still (some true) d op lo hi fin l all tm cx h nk hs rds k Q = dS call n (evOp op tm h) d l all tm cx h nk hs rds k Q := (rfl)
theorem dC_still0 : dC call n .still (some false) d op lo hi fin l all tm cx h nk hs rds k Q = RD call n l all (putD d tm (.tup [])) cx h nk hs rds k Q := (rfl)
theorem dC_reads : dC call n .reads (some true) d op lo hi fin l all tm cx h nk hs rds k Q = dV call n (evOp op tm h) d op lo hi l all tm cx h nk hs rds k Q := (rfl)
theorem dC_reads0 : dC call n .reads (some false) d op lo hi fin l all tm cx h nk hs rds k Q = RD call n l all (putD d tm (.tup [])) cx h nk hs rds k Q := (rfl)
theorem dC_acts : dC call n .acts (some true) d op lo hi fin l all tm cx h nk hs rds k Q = dA call n (evOp op tm h) fin d l all tm cx h nk hs rds k Q := (rfl)
theorem dC_acts0 : dC call n .acts (some false) d op lo hi fin l all tm cx h nk hs rds k Q = RD call n l all (putD d tm (.tup [])) cx h nk (hs ++ [h]) rds k Q := (rfl)
theorem dS_val : dS call n (.val v h1) d l all tm cx h nk hs rds k Q = RD call n l all (putD d tm v) cx h nk hs rds k Q := (rfl)
theorem dV_val : dV call n (.val v h1) d op lo hi l all tm cx h nk hs rds k Q = RD call n l all (putD d tm v) cx h nk hs (cond (Nat.beq lo hi) rds (⟨tm, op, v, lo, hi⟩ :: rds)) k Q := (rfl)
theorem dA_val : dA call n (.val v h1) fin d l all tm cx h nk hs rds k Q = RD call n l all (putD d tm v) cx h1 nk (hs ++ [h1]) rds k Q := (rfl)
theorem dA_call {f : AV} {args : List AV} : dA call n (.call f args) fin d l all tm cx h nk hs rds k Q = dK call n (call f args .no h) fin d l all tm cx h nk hs rds k Q := (rfl)
theorem dK_ret : dK call n (some (.ret v, rc, h1)) fin d l all tm cx h nk hs rds k Q = RD call n l all (putD d tm v) cx h1 nk (hs ++ [h1]) rds k Q := (rfl)
theorem dE_eq {ok : Bool} : dE call n ok tm cx h k Q = (ok = true ∧ R call n k Q .normal ⟨tm, cx⟩ h) := (rfl)
theorem dC_bool {c : Cls} {b : Bool} (h1 : b = true → dC call n c (some true) d op lo hi fin l all tm cx h nk hs rds k Q) (h2 : b = false → dC call n c (some false) d op lo hi fin l all tm cx h nk hs rds k Q) :
    dC call n c (some b) d op lo hi fin l all tm cx h nk hs rds k Q := by
  cases b with
  | true => exact h1 rfl
  | false => exact h2 rfl
theorem dC_nbool {c : Cls} {b : Bool} (h1 : b = false → dC call n c (some true) d op lo hi fin l all tm cx h nk hs rds k Q) (h2 : b = true → dC call n c (some false) d op lo hi fin l all tm cx h nk hs rds k Q) :
    dC call n c (some (!b)) d op lo hi fin l all tm cx h nk hs rds k Q := by
  cases b with
  | true => exact h2 rfl
  | false => exact h1 rfl
theorem wants_n (tm : Tm) : wants none tm = some true := (rfl)
theorem wants_s (g : Nat × Bool) (tm : Tm) : wants (some g) tm = wantV (nth tm g.1) g.2 := (rfl)
theorem rdsOk_nil : rdsOk [] hs = true := (rfl)
theorem rdsOk_cons (r : Rd) (l : List Rd) : rdsOk (r :: l) hs = (rdOkFrom hs r 0 && rdsOk l hs) := (rfl)
theorem rdOk_nil (r : Rd) (m : Nat) : rdOkFrom [] r m = true := (rfl)
theorem rdOk_cons (tm : Tm) (op : AOp) (v : AV) (lo hi m : Nat) (h : AH) (l : List AH) : rdOkFrom (h :: l) ⟨tm, op, v, lo, hi⟩ m = ((decide (m < lo) || (decide (hi < m) || sameVal (evOp op tm h) v)) && rdOkFrom l ⟨tm, op, v, lo, hi⟩ (m + 1)) := by
  have hb : ∀ a b : Nat, Nat.blt a b = decide (a < b) := by
    intro a b
    by_cases hab : a < b
    · rw [decide_eq_true hab]; exact Nat.ble_eq_true_of_le hab
    · rw [decide_eq_false hab]
      cases hq : Nat.blt a b with
      | false => rfl
      | true => exact absurd (blt_lt hq) hab
  rw [← hb, ← hb]; rfl
theorem sameVal_val (u : AV) : sameVal (.val u h) v = AV.beq u v := (rfl)
end
mutual
theorem beq_free : ∀ {a : AV}, a.free = true → AV.beq a a = true
  | .bool b, _ => by simp [AV.beq]
  | .int k n, _ => by cases k <;> simp [AV.beq]
  | .str s, _ => by rw [AV.beq, ← beqS_eq', beqS_eq]; simp
  | .nilp, _ => by simp [AV.beq]
  | .ptr _ _ _, h => by simp [AV.free] at h
  | .vptr v, h => by simp only [AV.beq]; exact beq_free (by simpa [AV.free] using h)
  | .nils, _ => by simp [AV.beq]
  | .lst es, h => by simp only [AV.beq]; exact beqs_free (by simpa [AV.free] using h)
  | .clip es, h => by simp only [AV.beq]; exact beqs_free (by simpa [AV.free] using h)
  | .row _ _ _ _ _, h => by simp [AV.free] at h
  | .nilm, _ => by simp [AV.beq]
  | .map _, h => by simp [AV.free] at h
  | .fn f a b, h => by
    simp only [AV.free, Bool.and_eq_true] at h
    simp only [AV.beq, beqs_free h.1, beqs_free h.2, Bool.and_true]
    exact Nat.beq_refl f
  | .yld _, h => by simp [AV.free] at h
  | .nilf, _ => by simp [AV.beq]
  | .ifc t v, h => by
    simp only [AV.beq, beq_free (show v.free = true by simpa [AV.free] using h), Bool.and_true]
    exact Nat.beq_refl t
  | .nili, _ => by simp [AV.beq]
  | .agg cs, h => by simp only [AV.beq]; exact beqs_free (by simpa [AV.free] using h)
  | .tup vs, h => by simp only [AV.beq]; exact beqs_free (by simpa [AV.free] using h)
  | .any, h => by simp [AV.free] at h
theorem beqs_free : ∀ {l : List AV}, AV.frees l = true → AV.beqs l l = true
  | [], _ => by simp [AV.beqs]
  | a :: l, h => by
    simp only [AV.frees, Bool.and_eq_true] at h
    simp only [AV.beqs, beq_free h.1, beqs_free h.2, Bool.and_self]
end
theorem beq_row (k g z o n : Nat) : AV.beq (.row k g z o n) (.row k g z o n) = true := by simp [AV.beq]
theorem beq_int (k : IntKind) (n : Int) : AV.beq (.int k n) (.int k n) = true := beq_free (by simp [AV.free])
theorem beq_enc (t : T) : AV.beq (enc t) (enc t) = true := beq_free (enc_free t)
theorem beq_lstT (ks : List T) : AV.beq (.lst (ks.map enc)) (.lst (ks.map enc)) = true := beq_free (by simp [AV.free, encT_frees])
section
theorem births_n (h : AH) : births [] h = h := (rfl)
theorem births_c (p : AOper × DI) (l : List (AOper × DI)) (h : AH) : births (p :: l) h = births l (birth p.1.op h) := (rfl)
theorem birth_new (z : List AV) (h : AH) : birth (.new z) h = h.new (.box z) := (rfl)
theorem birth_mv (x : AX) (h : AH) : birth (.mv x) h = h := (rfl)
theorem birth_pick (a b c : AX) (h : AH) : birth (.pick a b c) h = h := (rfl)
theorem birth_build (z : List AV) (ps : List (Nat × Nat × AX)) (h : AH) : birth (.build z ps) h = h := (rfl)
theorem birth_lit (f agg : Bool) (sz : Nat) (z : List AV) (n : Nat) (ps : List (Nat × AX)) (h : AH) : birth (.lit f agg sz z n ps) h = h := (rfl)
theorem birth_load (agg : Bool) (sz : Nat) (x : AX) (h : AH) : birth (.load agg sz x) h = h := (rfl)
theorem birth_store (sz : Nat) (a x : AX) (h : AH) : birth (.store sz a x) h = h := (rfl)
theorem birth_nilChk (x : AX) (h : AH) : birth (.nilChk x) h = h := (rfl)
theorem birth_bin (op : BinOp) (e : EqK) (x y : AX) (h : AH) : birth (.bin op e x y) h = h := (rfl)
theorem birth_un (op : UnOp) (x : AX) (h : AH) : birth (.un op x) h = h := (rfl)
theorem birth_slice (str : Bool) (sz : Nat) (x : AX) (lo hi mx : Option AX) (h : AH) : birth (.slice str sz x lo hi mx) h = h := (rfl)
theorem birth_faddr (o sz : Nat) (agg : Bool) (x : AX) (h : AH) : birth (.faddr o sz agg x) h = h := (rfl)
theorem birth_iaddr (sz : Nat) (x i : AX) (h : AH) : birth (.iaddr sz x i) h = h := (rfl)
theorem birth_extract (x : AX) (i : Nat) (h : AH) : birth (.extract x i) h = h := (rfl)
theorem birth_builtin (b : ABI) (l : List AX) (h : AH) : birth (.builtin b l) h = h := (rfl)
theorem birth_call (f : AX) (l : List AX) (h : AH) : birth (.call f l) h = h := (rfl)
theorem ite_lohi (n : Nat) {α : Type} (a b : α) : cond (Nat.beq n n) a b = a := by
  have : Nat.beq n n = true := Nat.beq_refl n
  rw [this]; rfl
theorem ite_01 {α : Type} (a b : α) : cond (Nat.beq 0 1) a b = b := (rfl)
end
end Go.AG
