/- AbsGo: symbolic runs of compiled code: one rule for each step (no condition). -/
import Derived.Test.YtnacljdablhbgaaGreatAk
namespace Go.AG
inductive It where
  | code (c : ACode)
  | out (id : Nat)
  | ops (l : List AOper)
def WP (r : RX) (Q : AEx → AF → AH → Prop) : Prop := ∃ e fr h, r = some (e, fr, h) ∧ Q e fr h
theorem WP_some {e : AEx} {fr : AF} {h : AH} {Q : AEx → AF → AH → Prop} : WP (some (e, fr, h)) Q ↔ Q e fr h := by
  constructor
  · rintro ⟨e', fr', h', q, r⟩; cases q; exact r
  · intro r; exact ⟨e, fr, h, rfl, r⟩
theorem WP_none {Q : AEx → AF → AH → Prop} : WP none Q ↔ False := by
  constructor
  · rintro ⟨e', fr', h', q, r⟩; cases q
  · intro r; exact r.elim
section
variable (call : CallF) (n : Nat)
def R : List It → (AEx → AF → AH → Prop) → AEx → AF → AH → Prop
  | [], Q => Q
  | .code c :: k, Q => fun e fr h => match e with
    | .normal => WP (evCode c call n fr h) (R k Q)
    | e => R k Q e fr h
  | .ops l :: k, Q => fun e fr h => match e with
    | .normal => WP (evOps l call fr h) (R k Q)
    | e => R k Q e fr h
  | .out id :: k, Q => fun e fr h => R k Q (outEx e id) fr h
def sC (r : Option (AOut × RC × AH)) (d : Option Nat) (l : List AOper) (k : List It) (Q : AEx → AF → AH → Prop) (tm : Tm) (cx : AC) : Prop :=
  match r with
  | some (.ret v, _, h1) => R call n (.ops l :: k) Q .normal ⟨putD d tm v, cx⟩ h1
  | some (.pan v, _, h1) => R call n k Q (.panic v) ⟨tm, cx⟩ h1
  | none => False
def sX (r : RX) (l : List AOper) (k : List It) (Q : AEx → AF → AH → Prop) : Prop :=
  match r with
  | some (e, fr, h) => R call n (.ops l :: k) Q e fr h
  | none => False
def sR (r : OpR) (d : Option Nat) (l : List AOper) (k : List It) (Q : AEx → AF → AH → Prop) (tm : Tm) (cx : AC) (h : AH) : Prop :=
  match r with
  | .val v h1 => R call n (.ops l :: k) Q .normal ⟨putD d tm v, cx⟩ h1
  | .call f args => sC call n (call f args .no h) d l k Q tm cx
  | .pan v => R call n k Q (.panic v) ⟨tm, cx⟩ h
  | .rcv => sX call n (evRcv d ⟨tm, cx⟩ h) l k Q
  | .dfr f args => sX call n (evDfr d f args ⟨tm, cx⟩ h) l k Q
  | .bad => False
def sG (w : Option Bool) (d : Option Nat) (op : AOp) (l : List AOper) (k : List It) (Q : AEx → AF → AH → Prop) (tm : Tm) (cx : AC) (h : AH) : Prop :=
  match w with
  | some true => sR call n (evOp op tm h) d l k Q tm cx h
  | some false => R call n (.ops l :: k) Q .normal ⟨putD d tm (.tup []), cx⟩ h
  | none => False
def sB (v : AV) (a b : ACode) (k : List It) (Q : AEx → AF → AH → Prop) (fr : AF) (h : AH) : Prop :=
  match v with
  | .bool true => R call n (.code a :: k) Q .normal fr h
  | .bool false => R call n (.code b :: k) Q .normal fr h
  | _ => False
end
section
variable {call : CallF} {n : Nat} {k : List It} {Q : AEx → AF → AH → Prop} {e : AEx} {fr : AF} {h h1 : AH} {tm : Tm} {cx : AC} {a b c : ACode} {id j : Nat} {l : List AOper} {d : Option Nat} {op : AOp} {v : AV} {rc : RC}
theorem WP_then {r : RX} {f : AF → AH → RX} {Q : AEx → AF → AH → Prop} : WP (andThen r f) Q ↔ WP r (fun e fr h => match e with | .normal => WP (f fr h) Q | e => Q e fr h) := by
  unfold andThen
  cases r with
  | none => simp only [bindO_none, WP_none]
  | some p =>
    obtain ⟨e, ⟨tm, cx⟩, ⟨x, y, z⟩⟩ := p
    rw [bindO_some, WP_some]
    cases e with
    | normal => exact Iff.rfl
    | _ => exact WP_some
theorem R_nil : R call n [] Q e fr h = Q e fr h := (rfl)
theorem R_skip : R call n (.code .skip :: k) Q .normal fr h = R call n k Q .normal fr h := propext WP_some
theorem R_seq : R call n (.code (.seq a b) :: k) Q .normal fr h = R call n (.code a :: .code b :: k) Q .normal fr h := propext WP_then
theorem R_region : R call n (.code (.region l) :: k) Q .normal fr h = R call n (.ops l :: k) Q .normal fr h := (rfl)
theorem R_scope : R call n (.code (.scope a) :: k) Q .normal fr h = R call n (.code a :: k) Q .normal fr h := (rfl)
theorem R_exit : R call n (.code (.exit id) :: k) Q .normal fr h = R call n k Q (.exit id) fr h := propext WP_some
theorem R_ret : R call n (.code .ret :: k) Q .normal fr h = R call n k Q .ret fr h := propext WP_some
theorem R_block : R call n (.code (.block id a) :: k) Q .normal fr h = R call n (.code a :: .out id :: k) Q .normal fr h := by
  apply propext
  show WP (outOf id (evCode a call n fr h)) (R call n k Q) ↔ WP (evCode a call n fr h) fun e fr h => R call n k Q (outEx e id) fr h
  unfold outOf
  cases evCode a call n fr h with
  | none => simp only [bindO_none, WP_none]
  | some p => obtain ⟨e, fr, h⟩ := p; rw [bindO_some, WP_some, WP_some]
theorem R_cond {x : AX} : R call n (.code (.cond x a b) :: k) Q .normal ⟨tm, cx⟩ h = sB call n (ev x tm) a b k Q ⟨tm, cx⟩ h := by
  apply propext
  show WP (atCond (ev x tm) (evCode a call n) (evCode b call n) ⟨tm, cx⟩ h) (R call n k Q) ↔ _
  cases ev x tm <;> first | exact WP_none | skip
  rename_i t
  cases t <;> exact Iff.rfl
theorem sB_true : sB call n (.bool true) a b k Q fr h = R call n (.code a :: k) Q .normal fr h := (rfl)
theorem sB_false : sB call n (.bool false) a b k Q fr h = R call n (.code b :: k) Q .normal fr h := (rfl)
theorem R_code_exit : R call n (.code c :: k) Q (.exit id) fr h = R call n k Q (.exit id) fr h := (rfl)
theorem R_code_ret : R call n (.code c :: k) Q .ret fr h = R call n k Q .ret fr h := (rfl)
theorem R_out_normal : R call n (.out id :: k) Q .normal fr h = R call n k Q .normal fr h := (rfl)
theorem R_out_ret : R call n (.out id :: k) Q .ret fr h = R call n k Q .ret fr h := (rfl)
theorem R_out_exit : R call n (.out id :: k) Q (.exit j) fr h = R call n k Q (cond (Nat.beq j id) .normal (.exit j)) fr h := (rfl)
theorem R_ops_nil : R call n (.ops [] :: k) Q .normal fr h = R call n k Q .normal fr h := propext WP_some
theorem sR_upon {r : OpR} : WP (evUpon r call d ⟨tm, cx⟩ h) (fun e fr h => match e with | .normal => WP (evOps l call fr h) (R call n k Q) | e => R call n k Q e fr h) ↔ sR call n r d l k Q tm cx h := by
  have hx : ∀ r : RX, WP r (fun e fr h => match e with | .normal => WP (evOps l call fr h) (R call n k Q) | e => R call n k Q e fr h) ↔ sX call n r l k Q := by
    intro r
    cases r with
    | none => exact WP_none
    | some p => obtain ⟨e, fr, h⟩ := p; rw [WP_some]; cases e <;> exact Iff.rfl
  cases r with
  | val v h1 => exact WP_some
  | call f args =>
    show WP (evRet d ⟨tm, cx⟩ (call f args .no h)) _ ↔ sC call n (call f args .no h) d l k Q tm cx
    unfold evRet
    cases call f args .no h with
    | none => rw [bindO_none]; exact WP_none
    | some p =>
      obtain ⟨o, rc, h1⟩ := p
      rw [bindO_some]
      cases o <;> exact WP_some
  | rcv => exact hx _
  | dfr f args => exact hx _
  | pan v => exact WP_some
  | bad => exact WP_none
theorem R_op : R call n (.ops (⟨d, op, none⟩ :: l) :: k) Q .normal ⟨tm, cx⟩ h = sR call n (evOp op tm h) d l k Q tm cx h := by
  apply propext
  exact (WP_then (r := evOper ⟨d, op, none⟩ call ⟨tm, cx⟩ h) (f := evOps l call)).trans sR_upon
theorem R_opg {g : Nat × Bool} : R call n (.ops (⟨d, op, some g⟩ :: l) :: k) Q .normal ⟨tm, cx⟩ h = sG call n (wantV (nth tm g.1) g.2) d op l k Q tm cx h := by
  apply propext
  refine (WP_then (r := evOper ⟨d, op, some g⟩ call ⟨tm, cx⟩ h) (f := evOps l call)).trans ?_
  show WP (bindO (wantV (nth tm g.1) g.2) fun w => cond w (evUpon (evOp op tm h) call d ⟨tm, cx⟩ h) (some (.normal, (AF.mk tm cx).put d (.tup []), h))) _ ↔ _
  cases wantV (nth tm g.1) g.2 with
  | none => exact WP_none
  | some w => cases w with
    | true => exact sR_upon
    | false => exact WP_some
theorem sG_true : sG call n (some true) d op l k Q tm cx h = sR call n (evOp op tm h) d l k Q tm cx h := (rfl)
theorem sG_false : sG call n (some false) d op l k Q tm cx h = R call n (.ops l :: k) Q .normal ⟨putD d tm (.tup []), cx⟩ h := (rfl)
theorem sR_val : sR call n (.val v h1) d l k Q tm cx h = R call n (.ops l :: k) Q .normal ⟨putD d tm v, cx⟩ h1 := (rfl)
theorem sR_call {f : AV} {args : List AV} : sR call n (.call f args) d l k Q tm cx h = sC call n (call f args .no h) d l k Q tm cx := (rfl)
theorem sC_ret : sC call n (some (.ret v, rc, h1)) d l k Q tm cx = R call n (.ops l :: k) Q .normal ⟨putD d tm v, cx⟩ h1 := (rfl)
def LQ (call : CallF) (n : Nat) (I : Nat → AF → AH → Prop) (j : Nat) (k : List It) (Q : AEx → AF → AH → Prop) (e : AEx) (fr : AF) (h : AH) : Prop :=
  match e with
  | .normal => ∃ j', j' < j ∧ I j' fr h
  | e => R call n k Q e fr h
theorem LQ_normal {I : Nat → AF → AH → Prop} : LQ call n I j k Q .normal fr h = ∃ j', j' < j ∧ I j' fr h := (rfl)
theorem LQ_exit {I : Nat → AF → AH → Prop} : LQ call n I j k Q (.exit id) fr h = R call n k Q (.exit id) fr h := (rfl)
theorem LQ_ret {I : Nat → AF → AH → Prop} : LQ call n I j k Q .ret fr h = R call n k Q .ret fr h := (rfl)
theorem R_loop (I : Nat → AF → AH → Prop) (m : Nat) (hm : m < n) (h0 : I m fr h)
    (hstep : ∀ j fr h, I j fr h → R call n [.code a] (LQ call n I j k Q) .normal fr h) : R call n (.code (.loop a) :: k) Q .normal fr h := by
  show WP (iter n (evCode a call n) fr h) (R call n k Q)
  have key : ∀ m N, m < N → ∀ fr h, I m fr h → WP (iter N (evCode a call n) fr h) (R call n k Q) := by
    intro m
    induction m using Nat.strongRecOn with
    | _ m ih =>
      intro N hN fr h hI
      obtain ⟨N, rfl⟩ : ∃ M, N = M + 1 := ⟨N - 1, by omega⟩
      rw [iter_succ, WP_then]
      obtain ⟨e, fr1, h1, q, hq⟩ := hstep m fr h hI
      refine ⟨e, fr1, h1, q, ?_⟩
      cases e with
      | normal => obtain ⟨j', hj, hI'⟩ := hq; exact ih j' hj N (by omega) fr1 h1 hI'
      | _ => exact hq
  exact key m n hm fr h h0
end
section
variable {tm : Tm} {h h' : AH} {v w : AV}
theorem op_mv' (x : AX) : evOp (.mv x) tm h = .val (ev x tm) h := (rfl)
theorem op_pick' (c a b : AX) : evOp (.pick c a b) tm h = evPick (ev c tm) h (ev a tm) (ev b tm) := (rfl)
theorem op_new' (z : List AV) : evOp (.new z) tm h = .val (.ptr h.next 0 0) (h.new (.box z)) := (rfl)
theorem op_box' (n : Nat) (x : AX) : evOp (.box n x) tm h = evBox h n (ev x tm) := (rfl)
theorem op_build' (z : List AV) (ps : List (Nat × Nat × AX)) : evOp (.build z ps) tm h = evBuild h z (evParts ps tm) := (rfl)
theorem op_lit' (frz agg : Bool) (sz : Nat) (z : List AV) (n : Nat) (ps : List (Nat × AX)) : evOp (.lit frz agg sz z n ps) tm h = evLit frz agg sz z n (evLitParts ps tm sz) h := (rfl)
theorem op_load' (agg : Bool) (sz : Nat) (x : AX) : evOp (.load agg sz x) tm h = okV (evLoad (ev x tm) h agg sz) h := (rfl)
theorem op_store' (sz : Nat) (a x : AX) : evOp (.store sz a x) tm h = okH (evStore (ev a tm) h sz (ev x tm)) := (rfl)
theorem op_nilChk' (x : AX) : evOp (.nilChk x) tm h = evNilChk (ev x tm) h := (rfl)
theorem op_bin' (op : BinOp) (e : EqK) (x y : AX) : evOp (.bin op e x y) tm h = okV (evBin (ev x tm) op e (ev y tm)) h := (rfl)
theorem op_un' (op : UnOp) (x : AX) : evOp (.un op x) tm h = okV (evUn op (ev x tm)) h := (rfl)
theorem op_mkFn' (f : FuncId) (a b : List AX) : evOp (.mkFn f a b) tm h = .val (.fn f (evs a tm) (evs b tm)) h := (rfl)
theorem op_mkMap' : evOp .mkMap tm h = .val (.map h.next) (h.new (.map [])) := (rfl)
theorem op_mkSlice' (agg : Bool) (sz bytes : Nat) (z : List AV) (l c : AX) : evOp (.mkSlice agg sz bytes z l c) tm h = okVH (evMkSlice h agg sz bytes z (ev l tm) (ev c tm)) := (rfl)
theorem op_slice' (sz : Nat) (x : AX) (lo hi mx : Option AX) : evOp (.slice false sz x lo hi mx) tm h = okVH (evSlice h sz (ev x tm) tm lo hi mx) := (rfl)
theorem op_faddr' (o sz : Nat) (agg : Bool) (x : AX) : evOp (.faddr o sz agg x) tm h = evFaddr (ev x tm) h o sz agg := (rfl)
theorem op_iaddr' (sz : Nat) (x i : AX) : evOp (.iaddr sz x i) tm h = evIaddr (ev x tm) h sz (ev i tm) := (rfl)
theorem op_strIdx' (x i : AX) : evOp (.strIdx x i) tm h = okV (evStrIdx (ev x tm) (ev i tm)) h := (rfl)
theorem op_lookup' (t : Nat) (z : AV) (x i : AX) (ok : Bool) : evOp (.lookup t z x i ok) tm h = okV (evLookup h t z ok (ev x tm) (ev i tm)) h := (rfl)
theorem op_mapUp' (t : Nat) (m k v : AX) : evOp (.mapUp t m k v) tm h = okH (evMapUp h t (ev m tm) (ev k tm) (ev v tm)) := (rfl)
theorem op_extract' (x : AX) (i : Nat) : evOp (.extract x i) tm h = okV (bindO (tupL (ev x tm)) fun l => nthL i l) h := (rfl)
theorem op_len' (k : Nat) (x : AX) : evOp (.builtin (.len k) [x]) tm h = okV (bindO (lenOf (ev x tm) h k) fun n => some (.int .i64 (n : Int))) h := (rfl)
theorem op_append' (sz : Nat) (agg : Bool) (z : List AV) (bytes : Nat) (s x : AX) : evOp (.builtin (.append sz agg z bytes) [s, x]) tm h = okVH (evAppend h sz agg z bytes (ev s tm) (ev x tm)) := (rfl)
theorem op_max' (l : List AX) : evOp (.builtin .max l) tm h = okV (evMax false (evs l tm)) h := (rfl)
theorem op_call' (f : AX) (args : List AX) : evOp (.call f args) tm h = .call (ev f tm) (evs args tm) := (rfl)
theorem okV_s : okV (some v) h = .val v h := (rfl)
theorem okH_s : okH (some h) = .val (.tup []) h := (rfl)
theorem okVH_s : okVH (some (v, h)) = .val v h := (rfl)
theorem ev_t (i : Nat) : ev (.t i) tm = nth tm i := (rfl)
theorem ev_c : ev (.c v) tm = v := (rfl)
theorem putD_s (d : Nat) : putD (some d) tm v = tm.put d v := (rfl)
theorem putD_n : putD none tm v = tm := (rfl)
theorem nth_same (d : Nat) : nth (tm.put d v) d = v := by rw [nth_put]; simp
theorem nth_other {d i : Nat} (hne : i ≠ d) : nth (tm.put d v) i = nth tm i := by rw [nth_put]; simp [hne]
theorem startTm_nil : startTm [] = Tr.lf := (rfl)
theorem startTm_1 (a : AV) : startTm [a] = Tr.lf.put 0 a := (rfl)
theorem startTm_2 (a b : AV) : startTm [a, b] = (Tr.lf.put 0 a).put 1 b := (rfl)
theorem startTm_3 (a b c : AV) : startTm [a, b, c] = ((Tr.lf.put 0 a).put 1 b).put 2 c := (rfl)
theorem startTm_5 (a b c d e : AV) : startTm [a, b, c, d, e] = ((((Tr.lf.put 0 a).put 1 b).put 2 c).put 3 d).put 4 e := (rfl)
theorem startTm_6 (a b c d e f : AV) : startTm [a, b, c, d, e, f] = (((((Tr.lf.put 0 a).put 1 b).put 2 c).put 3 d).put 4 e).put 5 f := (rfl)
theorem pick_b (c : Bool) (a b : AV) : evPick (.bool c) h a b = .val (cond c a b) h := (rfl)
theorem bin_int (op : BinOp) (e : EqK) (k : IntKind) (a b : Int) : evBin (.int k a) op e (.int k b) = evInt op k a b := by
  show cond (or (isShift op) (beqK k k)) (evInt op k a b) none = _
  rw [beqK_self]; simp
theorem bin_str (op : BinOp) (e : EqK) (a b : ByteArray) : evBin (.str a) op e (.str b) = evStr op a b := (rfl)
theorem int_add (k : IntKind) (a b : Int) : evInt .add k a b = some (.int k (k.wrap (a + b))) := by show some (wrapA k (a + b)) = _; rw [wrapA_eq]
theorem int_sub (k : IntKind) (a b : Int) : evInt .sub k a b = some (.int k (k.wrap (a - b))) := by show some (wrapA k (a - b)) = _; rw [wrapA_eq]
theorem int_eql (k : IntKind) (a b : Int) : evInt .eql k a b = some (.bool (decide (a = b))) := by show some (AV.bool (beqI a b)) = _; rw [beqI_eq]; congr 2
theorem int_neq (k : IntKind) (a b : Int) : evInt .neq k a b = some (.bool (!decide (a = b))) := by show some (AV.bool (!beqI a b)) = _; rw [beqI_eq]; congr 2
theorem int_lss (k : IntKind) (a b : Int) : evInt .lss k a b = some (.bool (decide (a < b))) := by show some (AV.bool (!leI b a)) = _; rw [not_leI]
theorem int_leq (k : IntKind) (a b : Int) : evInt .leq k a b = some (.bool (decide (a ≤ b))) := by show some (AV.bool (leI a b)) = _; rw [leI_eq]
theorem int_gtr (k : IntKind) (a b : Int) : evInt .gtr k a b = some (.bool (decide (b < a))) := by show some (AV.bool (!leI a b)) = _; rw [not_leI]
theorem int_geq (k : IntKind) (a b : Int) : evInt .geq k a b = some (.bool (decide (b ≤ a))) := by show some (AV.bool (leI b a)) = _; rw [leI_eq]
theorem str_eql (a b : ByteArray) : evStr .eql a b = some (.bool (a == b)) := by show some (AV.bool (beqS a b)) = _; rw [beqS_eq']
theorem str_neq (a b : ByteArray) : evStr .neq a b = some (.bool (!(a == b))) := by show some (AV.bool (!beqS a b)) = _; rw [beqS_eq']
theorem un_not (b : Bool) : evUn .not (.bool b) = some (.bool (!b)) := (rfl)
theorem un_neg (k : IntKind) (a : Int) : evUn .neg (.int k a) = some (.int k (k.wrap (0 - a))) := by show some (wrapA k (0 - a)) = _; rw [wrapA_eq]
theorem len_str (s : ByteArray) : lenOf (.str s) h 0 = some s.size := (rfl)
theorem len_nils : lenOf .nils h 1 = some 0 := (rfl)
theorem len_lst (es : List AV) : lenOf (.lst es) h 1 = some es.length := by show some (len es) = _; rw [len_eq]
theorem len_row (k g sz off n : Nat) : lenOf (.row k g sz off n) h 1 = some n := (rfl)
theorem want_t (b : Bool) : wantV (.tup []) b = some false := (rfl)
theorem load_vptr (agg : Bool) (sz : Nat) (h1 : v.isAgg = agg) (h2 : v.cells.length = sz) : evLoad (.vptr v) h agg sz = some v := by
  show cond (and (sameB v.isAgg agg) (Nat.beq (len v.cells) sz)) (some v) none = _
  rw [len_eq, h2, h1]
  have : Nat.beq sz sz = true := Nat.beq_refl sz
  rw [this]
  cases agg <;> rfl
theorem iaddr_lst {es : List AV} {sz : Nat} {i : Int} {k : IntKind} {x : AV} (hi : 0 ≤ i) (hx : es[i.toNat]? = some x) (hs : x.cells.length = sz) : evIaddr (.lst es) h sz (.int k i) = .val (.vptr x) h := by
  obtain ⟨m, rfl⟩ := Int.eq_ofNat_of_zero_le hi
  have hx : es[m]? = some x := by simpa using hx
  show okV (bindO (some m) fun n => bindO (nthL n es) fun v => cond (Nat.beq (len v.cells) sz) (some (.vptr v)) none) h = _
  rw [bindO_some, nthL_eq, hx, bindO_some, len_eq, hs]
  have : Nat.beq sz sz = true := Nat.beq_refl sz
  rw [this]; rfl
end
mutual
def AV.norm : AV → AV
  | .nils => .lst []
  | .lst es => .lst (AV.norms es)
  | .clip es => .lst (AV.norms es)
  | .fn f a b => .fn f (AV.norms a) (AV.norms b)
  | .agg cs => .agg (AV.norms cs)
  | .tup vs => .tup (AV.norms vs)
  | .bool b => .bool b
  | .int k n => .int k n
  | .str s => .str s
  | .nilp => .nilp
  | .ptr k g o => .ptr k g o
  | .vptr v => .vptr v
  | .row k g sz off n => .row k g sz off n
  | .nilm => .nilm
  | .map k => .map k
  | .yld l => .yld l
  | .nilf => .nilf
  | .ifc t v => .ifc t v
  | .nili => .nili
  | .any => .any
def AV.norms : List AV → List AV
  | [] => []
  | a :: l => a.norm :: AV.norms l
end
theorem norms_map (l : List AV) : AV.norms l = l.map AV.norm := by
  induction l with
  | nil => rfl
  | cons a l ih => simp [AV.norms, ih]
theorem norms_length (l : List AV) : (AV.norms l).length = l.length := by rw [norms_map]; simp
theorem norms_append (l m : List AV) : AV.norms (l ++ m) = AV.norms l ++ AV.norms m := by simp [norms_map]
theorem norm_isCell (a : AV) : a.norm.isCell = a.isCell := by cases a <;> rfl
theorem norm_cells (a : AV) : a.norm.cells = AV.norms a.cells := by cases a <;> simp [AV.norm, AV.norms, AV.cells]
theorem norms_allCells (l : List AV) : allCells (AV.norms l) = allCells l := by
  induction l with
  | nil => rfl
  | cons a l ih => simp only [AV.norms, allCells_cons, ih, norm_isCell]
theorem norms_flat (l : List AV) : flat (AV.norms l) = AV.norms (flat l) := by
  induction l with
  | nil => rfl
  | cons a l ih => simp only [AV.norms, flat_cons, norm_cells, ih, norms_append]
theorem norms_size {l : List AV} {sz : Nat} (h : ∀ e ∈ l, e.cells.length = sz) : ∀ e ∈ AV.norms l, e.cells.length = sz := by
  intro e he
  rw [norms_map] at he
  obtain ⟨x, hx, rfl⟩ := List.mem_map.1 he
  rw [norm_cells, norms_length]; exact h x hx
mutual
theorem VRel.norm {g : Gh} : ∀ {a : AV} {u : Value}, VRel g a u → VRel g a.norm u
  | _, _, .bool b => .bool b
  | _, _, .int k n => .int k n
  | _, _, .str s => .str s
  | _, _, .nilp => .nilp
  | _, _, .ptr h => .ptr h
  | _, _, .vptr hc h => .vptr hc h
  | _, _, .nils => .lst0
  | _, _, .lst hs ha hn hl h => .lst (norms_size hs) (by rw [norms_flat, norms_allCells]; exact ha) (by rw [norms_length]; exact hn) (by rw [norms_length]; exact hl) (by rw [norms_flat]; exact CRel.norm h)
  | _, _, .lst0 => .lst0
  | _, _, .clip hs ha hn hl h => .lst (norms_size hs) (by rw [norms_flat, norms_allCells]; exact ha) (by rw [norms_length]; exact hn) (by rw [norms_length]; omega) (by rw [norms_flat]; exact CRel.norm h)
  | _, _, .clip0 => .lst0
  | _, _, .row h hs hl => .row h hs hl
  | _, _, .row0 h hs hl => .row0 h hs hl
  | _, _, .nilm => .nilm
  | _, _, .map h => .map h
  | _, _, .fn h h' => .fn (VRels.norm h) (VRels.norm h')
  | _, _, .yld h => .yld h
  | _, _, .nilf => .nilf
  | _, _, .ifc h => .ifc h
  | _, _, .nili => .nili
  | _, _, .agg hc h => .agg (by rw [norms_allCells]; exact hc) (VRels.norm h)
  | _, _, .tup h => .tup (VRels.norm h)
  | _, _, .any u => .any u
theorem VRels.norm {g : Gh} : ∀ {a : List AV} {u : List Value}, VRels g a u → VRels g (AV.norms a) u
  | _, _, .nil => .nil
  | _, _, .cons h t => .cons (VRel.norm h) (VRels.norm t)
theorem CRel.norm {g : Gh} : ∀ {b off : Nat} {l : List AV}, CRel g b off l → CRel g b off (AV.norms l)
  | _, _, _, .nil b off => .nil b off
  | _, _, _, .cons hu h t => .cons hu (VRel.norm h) (CRel.norm t)
end
mutual
theorem norm_free : ∀ a : AV, a.norm.free = a.free
  | .bool _ | .int _ _ | .str _ | .nilp | .ptr _ _ _ | .vptr _ | .row _ _ _ _ _ | .nilm | .map _ | .yld _ | .nilf | .ifc _ _ | .nili | .any => rfl
  | .nils => by simp [AV.norm, AV.free, AV.frees]
  | .lst es => by simp only [AV.norm, AV.free]; exact norms_frees es
  | .clip es => by simp only [AV.norm, AV.free]; exact norms_frees es
  | .fn f a b => by simp only [AV.norm, AV.free, norms_frees a, norms_frees b]
  | .agg cs => by simp only [AV.norm, AV.free]; exact norms_frees cs
  | .tup vs => by simp only [AV.norm, AV.free]; exact norms_frees vs
theorem norms_frees : ∀ l : List AV, AV.frees (AV.norms l) = AV.frees l
  | [] => rfl
  | a :: l => by simp only [AV.norms, AV.frees, norm_free a, norms_frees l]
end
def AOut.norm : AOut → AOut
  | .ret v => .ret v.norm
  | .pan v => .pan v.norm
theorem out_norm_free (o : AOut) : o.norm.free = o.free := by cases o <;> exact norm_free _
def Ans (C : Cx) (f : AV) (a : List AV) (o : AOut) : Prop :=
  f.free = true ∧ AV.frees a = true ∧ o.free = true ∧ ∃ call h' o', CallOk C call ∧ call f a .no emptyH = some (o', .no, h') ∧ o'.norm = o
def tblCall (K : AV → List AV → Option AOut) : CallF := fun f a rc h =>
  match rc with
  | .no => match K f.norm (AV.norms a) with
    | some o => some (o, .no, h)
    | none => none
  | _ => none
theorem tbl_ok {C : Cx} {K : AV → List AV → Option AOut} (hK : ∀ f a o, K f a = some o → Ans C f a o) : CallOk C (tblCall K) := by
  intro f args rc h out rc' h' q g U w fv us K' kind s hf ha hr hK'
  cases rc with
  | no =>
    cases hkn : K f.norm (AV.norms args) with
    | none => simp [tblCall, hkn] at q
    | some o =>
      have q : some (o, RC.no, h) = some (out, rc', h') := by simpa [tblCall, hkn] using q
      cases q
      obtain ⟨k1, k2, k3, call2, h2, o2, c1, c2, c3⟩ := hK _ _ _ hkn
      have hF : ∀ b o v, g.F b o = some v → (g.void w).F b o = some v := fun _ _ _ e => e
      obtain ⟨d, fr0, hd, hent, g2, U2, w', x2, _, s2, _, hrc, hland⟩ := c1 _ _ .no emptyH o2 .no h2 c2 (g.void w) (fun _ => none) w fv us K' kind s.void
        (VRel.local hF hf.norm k1) (VRels.local hF ha.norm ((frees_iff _).1 k2)) hr hK'
      obtain ⟨ex, s3, hF3⟩ := s.back x2 s2
      refine ⟨d, fr0, hd, hent, g.back w w', U, w', ex, .refl _ U, s3, .refl _, hr, ?_⟩
      have k4 : o2.free = true := by rw [← c3, out_norm_free] at k3; exact k3
      subst c3
      cases o2 with
      | ret v => obtain ⟨u, hv, st⟩ := hland; exact ⟨u, (VRel.local hF3 hv k4).norm, st⟩
      | pan v => obtain ⟨u, hv, st⟩ := hland; exact ⟨u, (VRel.local hF3 hv k4).norm, st⟩
  | _ => simp [tblCall] at q
structure Spec where
  α : Type
  fid : FuncId
  caps : α → List AV
  args : α → List AV
  out : α → AOut
  dom : α → Prop
  func : ∀ x y, dom x → dom y → caps x = caps y → args x = args y → out x = out y
def Spec.Meets (C : Cx) (s : Spec) : Prop := ∀ x, s.dom x → Ans C (.fn s.fid [] (s.caps x)) (s.args x) (s.out x)
def Spec.Used (s : Spec) (call : CallF) : Prop := ∀ x fc a h, s.dom x → AV.norms fc = s.caps x → AV.norms a = s.args x → call (.fn s.fid [] fc) a .no h = some (s.out x, .no, h)
def Spec.below (s : Spec) (p : s.α → Prop) : Spec := { s with dom := fun x => s.dom x ∧ p x, func := fun x y hx hy => s.func x y hx.1 hy.1 }
open Classical in
noncomputable def Spec.tbl (s : Spec) (f : AV) (a : List AV) : Option AOut :=
  if h : ∃ x, s.dom x ∧ f = .fn s.fid [] (s.caps x) ∧ a = s.args x then some (s.out h.choose) else none
theorem Spec.tbl_ans {C : Cx} {s : Spec} (hm : s.Meets C) {f : AV} {a : List AV} {o : AOut} (e : s.tbl f a = some o) : Ans C f a o := by
  unfold Spec.tbl at e
  split at e
  · rename_i h
    cases e
    obtain ⟨h1, h2, h3⟩ := h.choose_spec
    have := hm _ h1
    rw [← h2, ← h3] at this
    exact this
  · cases e
theorem Spec.tbl_at {s : Spec} {x : s.α} (hx : s.dom x) : s.tbl (.fn s.fid [] (s.caps x)) (s.args x) = some (s.out x) := by
  have h : ∃ y, s.dom y ∧ AV.fn s.fid [] (s.caps x) = .fn s.fid [] (s.caps y) ∧ s.args x = s.args y := ⟨x, hx, rfl, rfl⟩
  unfold Spec.tbl
  rw [dif_pos h]
  obtain ⟨h1, h2, h3⟩ := h.choose_spec
  congr 1
  refine (s.func _ _ hx h1 ?_ h3).symm
  injection h2
theorem Spec.tbl_other {s : Spec} {k : Nat} {c a : List AV} (h : k ≠ s.fid) : s.tbl (.fn k [] c) a = none := by
  unfold Spec.tbl
  rw [dif_neg]
  rintro ⟨y, _, e, _⟩
  injection e with e1
  exact h e1
noncomputable def tblAll (l : List Spec) (f : AV) (a : List AV) : Option AOut :=
  match l with
  | [] => none
  | s :: l => match s.tbl f a with
    | some o => some o
    | none => tblAll l f a
theorem oracles {C : Cx} (l : List Spec) (hl : ∀ s ∈ l, s.Meets C) (hd : (l.map Spec.fid).Nodup) : ∃ call, CallOk C call ∧ ∀ s ∈ l, s.Used call := by
  refine ⟨tblCall (tblAll l), tbl_ok ?_, ?_⟩
  · induction l with
    | nil => intro f a o e; cases e
    | cons s l ih =>
      intro f a o e
      unfold tblAll at e
      cases hs : s.tbl f a with
      | some o' => rw [hs] at e; cases e; exact Spec.tbl_ans (hl s (by simp)) hs
      | none => rw [hs] at e; exact ih (fun s hs => hl s (by simp [hs])) (by simp at hd; exact hd.2) f a o e
  · have key : ∀ s ∈ l, ∀ x, s.dom x → tblAll l (.fn s.fid [] (s.caps x)) (s.args x) = some (s.out x) := by
      clear hl
      induction l with
      | nil => intro s hs; simp at hs
      | cons t l ih =>
        intro s hs x hx
        unfold tblAll
        rcases List.mem_cons.1 hs with rfl | hs
        · rw [Spec.tbl_at hx]
        · have hne : s.fid ≠ t.fid := by
            intro e
            simp only [List.map_cons, List.nodup_cons, List.mem_map, not_exists, not_and] at hd
            exact hd.1 s hs e
          rw [Spec.tbl_other hne]
          exact ih (by simp only [List.map_cons, List.nodup_cons] at hd; exact hd.2) s hs x hx
    intro s hs x fc a h hx hc ha
    have e : tblAll l (AV.fn s.fid [] fc).norm (AV.norms a) = some (s.out x) := by
      simp only [AV.norm, AV.norms, hc, ha]
      exact key s hs x hx
    simp only [tblCall, e]
theorem step_ok {C : Cx} {E : Env} (hE : EnvOk C E) {call : CallF} (hcall : CallOk C call) (n : Nat) : CallOk C (fun fv args rc h => evVal fv E call n args rc h) := by
  have hdraw := draw_ok hcall
  intro f args rc h out rc' h' q g U w fv us K kind s hf ha hr hK
  replace q : evVal f E call n args rc h = some (out, rc', h') := q
  cases f <;> first | (cases q; done) | skip
  case fn fi first caps =>
    obtain ⟨x, y, hx, hy, rfl⟩ := hf.fn_inv
    have q : evFn E call n fi (app first (app args caps)) rc h = some (out, rc', h') := q
    rw [app_eq, app_eq] at q
    obtain ⟨h1, h2⟩ := fn_sim (K := K) hcall hdraw hE q s (hx.append (ha.append hy)) hr hK
    refine ⟨_, Frame.enter C.P fi ⟨x ++ (us ++ y)⟩ kind, fun w => ofValue_fn (C := C) (.fn hx hy) rfl w, .inl ⟨fi, ⟨x ++ (us ++ y)⟩, ?_, rfl⟩, h2⟩
    have : (⟨x ++ us⟩ : Array Value) ++ (⟨y⟩ : Array Value) = ⟨x ++ (us ++ y)⟩ := by apply Array.ext'; simp
    show (callFunc fi ((⟨x ++ us⟩ : Array Value) ++ (⟨y⟩ : Array Value))).run C.P w = _
    rw [this]; exact h1
  case yld j =>
    obtain ⟨lc, hl, rfl⟩ := hf.yld_inv
    obtain ⟨hrc, q⟩ := cond_some (show cond (isNo rc) (evYld call n j args h) none = some (out, rc', h') from q)
    cases rc <;> first | (cases hrc; done) | skip
    have hk : kind = .normal := hr
    subst hk
    obtain ⟨ff, ts, xx, yy, h1, h2⟩ := yld_sim (K := K) hcall hdraw q s hl ha hK
    refine ⟨{ target := .fn (.yield lc.block) #[], args := ⟨us⟩ }, Frame.round lc.block ff ts xx yy .normal, fun w => by simp [Deferred.ofValue], .inr ⟨rfl, lc.block, ff, ts, xx, yy, ?_, rfl⟩, h2⟩
    show (Instr.yield lc.block ⟨us⟩).run C.P w = _
    exact h1
def FQ (rs : List ARes) (o : AOut) (e : AEx) (fr : AF) (h : AH) : Prop :=
  fr.cx.dfs = [] ∧ fr.cx.rc = .no ∧ match e with
  | .normal => ∃ vs, evRes rs fr.tm h = some vs ∧ AOut.ret (frz 4 h 0 (one vs)).norm = o
  | .ret => ∃ vs, evRes rs fr.tm h = some vs ∧ AOut.ret (frz 4 h 0 (one vs)).norm = o
  | .panic v => AOut.pan v.norm = o
  | .exit _ => False
theorem FQ_ret {rs : List ARes} {o : AOut} {tm : Tm} {rnd : Option Nat} {f : FuncId} {h : AH} : FQ rs o .ret ⟨tm, ⟨[], .no, rnd, f⟩⟩ h = ∃ vs, evRes rs tm h = some vs ∧ AOut.ret (frz 4 h 0 (one vs)).norm = o := by
  simp [FQ]
theorem evFn_R {E : Env} {call : CallF} {n : Nat} {f : FuncId} {as : List AV} {o : AOut} {nt : Nat} {rs : List ARes} {body : ACode} (hcf : E.cf f = some ⟨nt, rs, body⟩) (hp : E.pure f = true)
    (hR : R call n [.code body] (FQ rs o) .normal ⟨startTm as, ⟨[], .no, none, f⟩⟩ emptyH) : ∃ h' o', evFn E call n f as .no emptyH = some (o', .no, h') ∧ o'.norm = o := by
  obtain ⟨e, ⟨tm, ⟨dfs, rc, rnd, fid⟩⟩, h, q, q1, q2, q3⟩ := hR
  replace q1 : dfs = [] := q1
  replace q2 : rc = .no := q2
  subst q1 q2
  have q' : evCode body call n ⟨startTm as, ⟨[], .no, none, f⟩⟩ (lowered (E.pure f) emptyH) = some (e, ⟨tm, ⟨[], .no, rnd, fid⟩⟩, h) := by rw [hp]; exact q
  unfold evFn
  rw [hcf, bindO_some]
  simp only [q', bindO_some]
  cases e with
  | exit id => exact q3.elim
  | normal =>
    obtain ⟨vs, r1, r2⟩ := q3
    refine ⟨⟨h.next, 0, .lf⟩, .ret (frz 4 h 0 (one vs)), ?_, r2⟩
    show bindO (evRes rs tm h) (fun vs => finRet (E.pure f) emptyH h .no vs) = _
    rw [r1, bindO_some, hp]
    rfl
  | ret =>
    obtain ⟨vs, r1, r2⟩ := q3
    refine ⟨⟨h.next, 0, .lf⟩, .ret (frz 4 h 0 (one vs)), ?_, r2⟩
    show bindO (evRes rs tm h) (fun vs => finRet (E.pure f) emptyH h .no vs) = _
    rw [r1, bindO_some, hp]
    rfl
  | panic v => exact ⟨_, .pan v, rfl, q3⟩
end Go.AG
