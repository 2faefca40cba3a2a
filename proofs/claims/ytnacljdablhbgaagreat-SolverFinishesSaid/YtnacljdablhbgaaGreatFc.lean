/- SolverFinishes: the whole table (no condition). -/
import Derived.Test.YtnacljdablhbgaaGreatFa
import Derived.Test.YtnacljdablhbgaaGreatFb
namespace Go.Proofs.YtnacljdablhbgaaGreat
open Go.AG
theorem hE2 : EnvOk CI E2 := env_ok Tryz.prog keepI _ _ (by kernel_rfl)
theorem A13 : ∃ o, o = .ret (.bool true) ∧ Ans CI (.fn 13 [] []) (a0 ()) o := by
  have e := ev13
  have hc : CallOk CI (evCall E2 100000) := evCall_ok hE2 100000
  generalize evCall E2 100000 = call at e hc
  cases hv : call (.fn 13 [] []) [] .no emptyH with
  | none => rw [hv] at e; cases e
  | some r =>
    obtain ⟨o, rc, h'⟩ := r
    rw [hv] at e
    injection e with e
    injection e with e1 e2
    subst e1 e2
    exact ⟨_, rfl, by simp [AV.free, AV.frees], by simp [a0, AV.frees], by simp [AOut.free, AV.free], _, h', _, hc, hv, by simp [AOut.norm, AV.norm]⟩
noncomputable def KZ : CallF := fun f a rc h => match GZ f a rc h with
  | some r => some r
  | none => keyCall f a rc h
theorem KZ_ok : CallOk CI KZ := by
  intro f args rc h out rc' h' q
  unfold KZ at q
  cases hk : GZ f args rc h with
  | some r => rw [hk] at q; exact GZ_both.1 f args rc h out rc' h' (by rw [hk]; exact q)
  | none => rw [hk] at q; exact key_ok f args rc h out rc' h' q
theorem KZ_of {f : AV} {a : List AV} {rc : RC} {h : AH} {r : AOut × RC × AH} (e : GZ f a rc h = some r) : KZ f a rc h = some r := by simp only [KZ, e]
theorem key_none {f : FuncId} {c a : List AV} {rc : RC} {h : AH} (hf : f ≠ 209) : keyCall (.fn f [] c) a rc h = none := by
  unfold keyCall
  split
  · rename_i e; injection e with e1; exact absurd e1 hf
  · rfl
theorem key_yld {k : Nat} {a : List AV} {rc : RC} {h : AH} : keyCall (.yld k) a rc h = none := by
  unfold keyCall
  split
  · rename_i e; cases e
  · rfl
theorem KZ_none {f : FuncId} {c a : List AV} {rc : RC} {h : AH} (hf : f ∉ allZ.map AG.Spec.fid) (h2 : f ≠ 209) : KZ (.fn f [] c) a rc h = none := by
  simp only [KZ, GZ_none hf, key_none h2]
theorem KZ_runs : Runs KZ := by
  refine ⟨fun f hf c a rc h => ?_, fun l a rc h => ?_⟩
  · have hd : ∀ f ∈ runF, f ∉ allZ.map AG.Spec.fid ∧ f ≠ 209 := by rw [allZ_fids]; decide
    exact KZ_none (hd f hf).1 (hd f hf).2
  · simp only [KZ, GZ_yld, key_yld]
theorem KZ_KV : KV KZ := ⟨fun a x h ha hl => KZ_of (GZ_KV.r135 a x h ha hl), fun a x h ha hl => KZ_of (GZ_KV.r21 a x h ha hl)⟩
theorem KZ_K58 : K58 KZ := ⟨fun a b x h ha hb hl => KZ_of (GZ_K58.r58 a b x h ha hb hl)⟩
theorem KZ_KS : KS KZ := ⟨fun H kb km L h1 h2 h3 h4 h5 h6 => by
  have : GZ (.fn 209 [] []) [.fn 254 [] [.ptr kb 0 0]] .no H = none := GZ_none (by rw [allZ_fids]; decide)
  simp only [KZ, this]
  exact key_known h1 h2 h4 h5 h6⟩
theorem KZ_KG : KG KZ where
  r48 := fun ms hl hf => by
    obtain ⟨b, h1, h2⟩ := GZ_KG.r48 ms hl hf
    exact ⟨b, h1, fun h => KZ_of (h2 h)⟩
  r20 := fun t n hf => by
    obtain ⟨b, h⟩ := GZ_KG.r20 t n hf
    exact ⟨b, fun a h' ha => KZ_of (h a h' ha)⟩
  r18 := fun ms ctx ts h1 h2 h3 h4 h5 => by
    obtain ⟨b, h⟩ := GZ_KG.r18 ms ctx ts h1 h2 h3 h4 h5
    exact ⟨b, fun a h' ha => KZ_of (h a h' ha)⟩
  r49 := fun n ctx h1 h2 => by
    obtain ⟨b, h⟩ := GZ_KG.r49 n ctx h1 h2
    exact ⟨b, fun h' => KZ_of (h h')⟩
theorem KZ_13 (h : AH) : KZ (.fn 13 [] []) [] .no h = some (.ret (.bool true), .no, h) := by
  obtain ⟨o, rfl, hu⟩ := mkS_use (GZ_both.2 Z13 (by simp [allZ])) () A13
  exact KZ_of (hu _ h rfl)
attribute [local go_sem] RD_max RD_lookup birth_lookup build_1i build_2i build_p1 load_vptrB
theorem iter_Pm {bs : List (LL × LL)} : ∀ (k : Nat) {vals r : List LL}, (∀ b ∈ bs, Okb vals.length b) → (∀ y ∈ vals, Pm y) → iterP bs k vals = some r → (∀ y ∈ r, Pm y) ∧ r.length = vals.length
  | 0, vals, r, _, _, e => by cases e
  | k + 1, vals, r, hb, hv, e => by
    unfold iterP at e
    cases hp : passP bs vals with
    | none => rw [hp] at e; cases e
    | some q =>
      obtain ⟨v, c⟩ := q
      rw [hp] at e
      obtain ⟨g1, g2, g3⟩ := fold_grow bs hb hv hp
      have g2 : v.length = vals.length := g2
      cases c with
      | false => cases e; exact ⟨g1, g2⟩
      | true =>
        obtain ⟨h1, h2⟩ := iter_Pm k (by rw [g2]; exact hb) g1 e
        exact ⟨h1, h2.trans g2⟩
theorem isFin_two {s : SV} {n : Nat} {v v' : AV} (h : isFin s n v) (h' : isFin s n v') :
    (∃ e : Int, v = .tup [.nils, .int .i64 e] ∧ v' = .tup [.nils, .int .i64 e]) ∨ (∃ vals a b, solP s.bs (List.replicate n ⟨0, []⟩) = some vals ∧ v = .tup [a, .int .i64 0] ∧ v' = .tup [b, .int .i64 0] ∧ isLs vals a ∧ isLs vals b) := by
  unfold isFin at h h'
  by_cases h1 : 0 < s.qs.length
  · rw [if_pos h1] at h h'
    exact .inl ⟨_, h, h'⟩
  · rw [if_neg h1] at h h'
    by_cases h2 : unk s.ms = true
    · rw [if_pos h2] at h h'
      exact .inl ⟨_, h, h'⟩
    · rw [if_neg h2] at h h'
      cases hs : solP s.bs (List.replicate n ⟨0, []⟩) with
      | none =>
        rw [hs] at h h'
        exact .inl ⟨_, h, h'⟩
      | some vals =>
        rw [hs] at h h'
        obtain ⟨a, ha, ha'⟩ := h
        obtain ⟨b, hb, hb'⟩ := h'
        exact .inr ⟨vals, a, b, rfl, ha, hb, ha', hb'⟩
theorem encS_free (s : SV) : (encS s).free = true := by
  have h1 : AV.frees (s.ms.map encM) = true := frees_map encM_free s.ms
  have h2 : AV.frees (s.qs.map encQ) = true := frees_map encQ_free s.qs
  have h3 : AV.frees (s.bs.map encBd) = true := frees_map encBd_free s.bs
  simp [encS, AV.free, AV.frees, h1, h2, h3]
theorem c16 {K : CallF} (h16 : ∀ c a rc h, K (.fn 16 [] c) a rc h = none) (m0 : Nat) (h : AH) :
    ∃ v nx, h.next ≤ nx ∧ cK K (m0 + 1) (.fn 16 [] []) [] .no h = some (.ret v, .no, ⟨nx, h.low, h.objs⟩) := by
  have e0 : cK K (m0 + 1) (.fn 16 [] []) [] .no h = evFn EF (cK K m0) 30000 16 ([] ++ []) .no h := mix_run (h16 [] [] .no h)
  rw [e0]
  have key : ∃ v h', evFn EF (cK K m0) 30000 16 [] .no h = some (.ret v, .no, h') ∧ Gx (fun _ => True) h v h' := by
    refine evFn_H cf16 (pureF _) ?_
    unfold b16
    have eb : ∀ h : AH, evBuild h [.int .i64 0, .int .i64 0, .int .i64 0, .int .i64 0, .bool false] [(3, 1, .int .i64 1000)] = .val (.agg [.int .i64 0, .int .i64 0, .int .i64 0, .int .i64 1000, .bool false]) h := fun _ => rfl
    have ep : ∀ tm : Tm, evParts [(3, 1, AX.c (.int .i64 1000))] tm = [(3, 1, .int .i64 1000)] := fun _ => rfl
    simp only [go_sem, Nat.reduceAdd, s16_0, ep, eb]
    exact HQ_gx (.inr rfl) (Nat.le_refl _) (by show h.next ≤ h.next + 1; omega) (by simp only [go_sem, r16]; rfl) trivial
  obtain ⟨v, h', e, g⟩ := key
  obtain ⟨nx, h1, rfl⟩ := Gx_eq g
  exact ⟨v, nx, h1, e⟩
theorem KZ_16 (c a : List AV) (rc : RC) (h : AH) : KZ (.fn 16 [] c) a rc h = none := KZ_none (by rw [allZ_fids]; decide) (by decide)
theorem law4 (s : SV) (fs : FitS s) (h : AH) : ∃ v h', evFn EF (cK KZ 20) 30000 4 [encS s] .no h = some (.ret v, .no, h') ∧ Gx (fun v => v = .bool true) h v h' := by
  refine evFn_H cf4 (pureF _) ?_
  unfold b4 encS
  obtain ⟨ob, hob⟩ : ∃ ob, ob = h.objs.put h.next (.box [.lst (s.ms.map encM), .lst (s.qs.map encQ), .lst (s.bs.map encBd), .int .i64 s.n]) := ⟨_, rfl⟩
  have g1 : ob.get h.next = some (.box [.lst (s.ms.map encM), .lst (s.qs.map encQ), .lst (s.bs.map encBd), .int .i64 s.n]) := by rw [hob, Tr.get_put_same]
  obtain ⟨v1, nx1, w1, w2, b, rfl, hG⟩ := c12 KZ_runs KZ_KV KZ_KG 18 s fs ⟨h.next + 1, h.next, ob⟩
  have w1 : h.next + 1 ≤ nx1 := w1
  have e13 := fun h => cK_known (KZ_13 h) 20
  have fin : ∀ tm nx, h.next ≤ nx → nth tm 2 = .bool true → HQ h r4 (Gx (fun v => v = .bool true) h) .ret ⟨tm, ⟨[], .no, none, 4⟩⟩ ⟨nx, h.next, ob⟩ := fun tm nx h1 h2 =>
    HQ_gx (.inr rfl) (Nat.le_refl _) h1 (by simp only [go_sem, r4]; rfl) (by rw [one_1, h2, frz_bool])
  simp only [go_sem, Nat.reduceAdd]
  rw [← hob]
  cases b with
  | false =>
    simp only [go_sem, Nat.reduceEqDiff, Nat.reduceAdd, s4_3, g1, w2, e13]
    exact fin _ _ (by omega) (by simp only [go_sem])
  | true =>
    obtain ⟨n, hn, n20, hms, hqs, hbs, hok⟩ := hG rfl
    have hb : ∀ b ∈ s.bs, Okb n b ∧ b.1.vars.length ≤ 10 ∧ b.2.vars.length ≤ 10 := fun b hb => by
      obtain ⟨o1, o2, o3⟩ := hok b hb
      exact ⟨o1, by omega, by omega⟩
    obtain ⟨v2, nx2, x1, x2, x3⟩ := c14 KZ_runs KZ_KV KZ_KS 5 s n hn .nils ⟨nx1, h.next, ob⟩ (by omega) (by omega) (by omega) (by omega) hb
    have x1 : nx1 ≤ nx2 := x1
    obtain ⟨v3, nx3, y1, y2⟩ := c16 KZ_16 19 ⟨nx2, h.next, ob⟩
    have y1 : nx2 ≤ nx3 := y1
    obtain ⟨v4, nx4, z1, z2, z3⟩ := c15 KZ_runs KZ_KV 11 s n hn .nils v3 ⟨nx3, h.next, ob⟩ (by omega) (by omega) (by omega) (by omega) hb
    have z1 : nx3 ≤ nx4 := z1
    have bqS : AV.beq (.agg [.lst (s.ms.map encM), .lst (s.qs.map encQ), .lst (s.bs.map encBd), .int .i64 s.n]) (.agg [.lst (s.ms.map encM), .lst (s.qs.map encQ), .lst (s.bs.map encBd), .int .i64 s.n]) = true := beq_free (encS_free s)
    rcases isFin_two x3 z3 with ⟨e, rfl, rfl⟩ | ⟨vals, a, b, hsol, rfl, rfl, ha, hb'⟩
    · obtain ⟨nx5, q1, q2⟩ := c17n KZ_runs 19 ⟨nx4, h.next, ob⟩
      have q1 : nx4 ≤ nx5 := q1
      simp only [go_sem, Nat.reduceEqDiff, Nat.reduceAdd, Nat.reduceLT, s4_3, g1, w2, s4_2, x2, s4_1, y2, z2, bqS, s4_0, e13, q2]
      exact fin _ _ (by omega) (by simp only [go_sem])
    · obtain ⟨p1, p2⟩ := iter_Pm _ (vals := List.replicate n ⟨0, []⟩) (r := vals) (fun b hh => by rw [List.length_replicate]; exact (hb b hh).1) (fun y hy => by rw [List.eq_of_mem_replicate hy]; exact Pm.zero) hsol
      rw [List.length_replicate] at p2
      obtain ⟨nx5, q1, q2⟩ := c17 KZ_runs KZ_K58 19 vals a b ⟨nx4, h.next, ob⟩ ha hb' (by omega) (fun x hx => by have := (p1 x hx).len; omega)
      have q1 : nx4 ≤ nx5 := q1
      simp only [go_sem, Nat.reduceEqDiff, Nat.reduceAdd, Nat.reduceLT, s4_3, g1, w2, s4_2, x2, s4_1, y2, z2, bqS, s4_0, e13, q2]
      exact fin _ _ (by omega) (by simp only [go_sem])
end Go.Proofs.YtnacljdablhbgaaGreat
