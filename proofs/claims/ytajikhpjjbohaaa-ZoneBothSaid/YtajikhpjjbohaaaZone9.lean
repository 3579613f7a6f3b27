/- The five given statements on zones (ZoneOf, ZoneTells, ZoneBoth, ZoneHas, ZoneLaws) are proved: for every input that the row speaks of, the law returns true and its arguments read as before. No condition is added. Part 9 of 11: AvZT, AvZU, AvZV. -/
import Derived.Test.YtajikhpjjbohaaaZone8

/- Zones: the contracts as the laws want them; a live question. -/
namespace Go.Proofs.Ytajikhpjjbohaaa.Av
open Go
set_option linter.unusedSimpArgs false
set_option linter.unusedVariables false
set_option maxRecDepth 100000
set_option maxHeartbeats 4000000
set_option pp.maxSteps 300

theorem cutsOf_len (l : List Rg) : (cutsOf l).length ≤ 1 + 2 * l.length := Nat.le_trans (cutsFrom_len _ _ _) (by have := above_le (cutsAll l) (-1); rw [cutsAll_len] at this; exact this)
/-- The one result or the other. -/
def ofAV (l : List Rg) : AV := if l.any (fun r => decide (r.hi < r.lo)) then .tup [.sl 0 [] true, .raw (.int .i64 31)] else .tup [zAV (refOfZ l) false, .raw (.int .i64 0)]
theorem ofAV_ok {l : List Rg} (ho : ∀ r ∈ l, r.lo ≤ r.hi) : ofAV l = .tup [zAV (refOfZ l) false, .raw (.int .i64 0)] := by
  unfold ofAV
  rw [if_neg]
  rw [List.any_eq_true]
  rintro ⟨r, hr, k⟩
  have := ho r hr
  simp at k; omega
theorem ofAV_bad {l : List Rg} (ho : l.any (fun r => decide (r.hi < r.lo)) = true) : ofAV l = .tup [.sl 0 [] true, .raw (.int .i64 31)] := by
  unfold ofAV; rw [if_pos ho]
theorem any_bad (l : List Rg) : l.any (fun r => decide (r.hi < r.lo)) = true ∨ ∀ r ∈ l, r.lo ≤ r.hi := by
  cases h : l.any (fun r => decide (r.hi < r.lo)) with
  | true => exact .inl rfl
  | false =>
    refine .inr fun r hr => ?_
    have := List.any_eq_false.1 h r hr
    simp at this; exact this

theorem zoneOf_calls (z : List Rg) (fz : Bool) (hz : InZ z) (hl : z.length < 256) : PCalls Try.prog 9 [zAV z fz] (ofAV z) := by
  rcases any_bad z with h | h
  · rw [ofAV_bad h]
    refine pbody Try.func9 rfl (N := 19) rfl rfl (by simp) (by simp [noIds]) fun σ => ?_
    have hc := containsFunc_calls (g := 28) (p := fun r => decide (r.hi < r.lo)) z fz (by omega) fun r _ => of1_calls r
    rw [h] at hc
    (try (first | (with_reducible refine dops_go ?_; simp) | (with_reducible refine OKv_go ?_; simp) | (with_reducible refine OKr_go ?_; simp))); repeat' (first | refine awp_seq ?_ | refine awp_block ?_ | (refine awp_skip ?_; try simp) | (refine awp_exit ?_; try simp) | (refine awp_ret ?_; try simp) | (refine retP_same (by simp) ?_; simp) | (refine retP_flat (by simp) (by simp) (by simp) ?_; simp) | (refine awp_reg ?_; simp) | (refine awp_drawT (fun _ => false) mixed (by decide +kernel) ?_; simp) | (refine guarded_split ?_ ?_ <;> (intro hg; simp only [hg]; simp)) | (apply awp_cond_t; focus (simp; done)) | (apply awp_cond_f; focus (simp; done)) | (refine awp_cond ?_; simp; refine ⟨?_, ?_⟩ <;> intro hc))
    refine PCalls.use hc ?_
    (try (first | (with_reducible refine dops_go ?_; simp) | (with_reducible refine OKv_go ?_; simp) | (with_reducible refine OKr_go ?_; simp))); repeat' (first | refine awp_seq ?_ | refine awp_block ?_ | (refine awp_skip ?_; try simp) | (refine awp_exit ?_; try simp) | (refine awp_ret ?_; try simp) | (refine retP_same (by simp) ?_; simp) | (refine retP_flat (by simp) (by simp) (by simp) ?_; simp) | (refine awp_reg ?_; simp) | (refine awp_drawT (fun _ => false) mixed (by decide +kernel) ?_; simp) | (refine guarded_split ?_ ?_ <;> (intro hg; simp only [hg]; simp)) | (apply awp_cond_t; focus (simp; done)) | (apply awp_cond_f; focus (simp; done)) | (refine awp_cond ?_; simp; refine ⟨?_, ?_⟩ <;> intro hc))
  · rw [ofAV_ok h]
    exact of_calls z fz hz hl _ (of_is hz h) h
theorem docOf_calls (z : List Rg) (fz : Bool) (hz : InZ z) (hl : z.length < 256) : PCalls Try.prog 10 [zAV z fz] (ofAV z) := by
  rcases any_bad z with h | h
  · rw [ofAV_bad h]
    refine pbody Try.func10 rfl (N := 52) rfl rfl (by simp) (by simp [noIds]) fun σ => ?_
    (try (first | (with_reducible refine dops_go ?_; simp) | (with_reducible refine OKv_go ?_; simp) | (with_reducible refine OKr_go ?_; simp))); repeat' (first | refine awp_seq ?_ | refine awp_block ?_ | (refine awp_skip ?_; try simp) | (refine awp_exit ?_; try simp) | (refine awp_ret ?_; try simp) | (refine retP_same (by simp) ?_; simp) | (refine retP_flat (by simp) (by simp) (by simp) ?_; simp) | (refine awp_reg ?_; simp) | (refine awp_drawT (fun _ => false) mixed (by decide +kernel) ?_; simp) | (refine guarded_split ?_ ?_ <;> (intro hg; simp only [hg]; simp)) | (apply awp_cond_t; focus (simp; done)) | (apply awp_cond_f; focus (simp; done)) | (refine awp_cond ?_; simp; refine ⟨?_, ?_⟩ <;> intro hc))
    refine awp_loopH (fun n A τ => ∃ i : Nat, A 0 = zAV z fz ∧ A 4 = .raw (.int .i64 i) ∧ τ = σ ∧ i ≤ z.length ∧ n = z.length - i ∧ ∀ j, j < i → ∀ r, z[j]? = some r → r.lo ≤ r.hi) z.length ?_ ?_
    · exact ⟨0, by simp, by simp, rfl, by omega, by omega, fun j h => by omega⟩
    rintro n A τ ⟨i, a0, a4, rfl, hi, rfl, hno⟩ I1 hI1
    by_cases hlt : i < z.length
    · have hx : z[i]? = some z[i] := List.getElem?_eq_getElem hlt
      have w1 : IntKind.i64.wrap ((i : Int) + 1) = ((i + 1 : Nat) : Int) := by rw [wrap64 (by omega) (by omega)]; omega
      by_cases c1 : z[i].hi < z[i].lo
      · (try (first | (with_reducible refine dops_go ?_; simp [a0, a4, zAV, rgAV, hlt, c1, w1]) | (with_reducible refine OKv_go ?_; simp [a0, a4, zAV, rgAV, hlt, c1, w1]) | (with_reducible refine OKr_go ?_; simp [a0, a4, zAV, rgAV, hlt, c1, w1]))); repeat' (first | refine awp_seq ?_ | refine awp_block ?_ | (refine awp_skip ?_; try simp) | (refine awp_exit ?_; try simp) | (refine awp_ret ?_; try simp) | (refine retP_same (by simp) ?_; simp) | (refine retP_flat (by simp) (by simp) (by simp [a0, a4, zAV, rgAV, hlt, c1, w1]) ?_; simp) | (refine awp_reg ?_; simp [a0, a4, zAV, rgAV, hlt, c1, w1]) | (refine awp_drawT (fun _ => false) mixed (by decide +kernel) ?_; simp [a0, a4, zAV, rgAV, hlt, c1, w1]) | (refine guarded_split ?_ ?_ <;> (intro hg; simp only [hg]; simp [a0, a4, zAV, rgAV, hlt, c1, w1])) | (apply awp_cond_t; focus (simp [a0, a4, zAV, rgAV, hlt, c1, w1]; done)) | (apply awp_cond_f; focus (simp [a0, a4, zAV, rgAV, hlt, c1, w1]; done)) | (refine awp_cond ?_; simp [a0, a4, zAV, rgAV, hlt, c1, w1]; refine ⟨?_, ?_⟩ <;> intro hc))
      · (try (first | (with_reducible refine dops_go ?_; simp [a0, a4, zAV, rgAV, hlt, c1, w1]) | (with_reducible refine OKv_go ?_; simp [a0, a4, zAV, rgAV, hlt, c1, w1]) | (with_reducible refine OKr_go ?_; simp [a0, a4, zAV, rgAV, hlt, c1, w1]))); repeat' (first | refine awp_seq ?_ | refine awp_block ?_ | (refine awp_skip ?_; try simp) | (refine awp_exit ?_; try simp) | (refine awp_ret ?_; try simp) | (refine retP_same (by simp) ?_; simp) | (refine retP_flat (by simp) (by simp) (by simp [a0, a4, zAV, rgAV, hlt, c1, w1]) ?_; simp) | (refine awp_reg ?_; simp [a0, a4, zAV, rgAV, hlt, c1, w1]) | (refine awp_drawT (fun _ => false) mixed (by decide +kernel) ?_; simp [a0, a4, zAV, rgAV, hlt, c1, w1]) | (refine guarded_split ?_ ?_ <;> (intro hg; simp only [hg]; simp [a0, a4, zAV, rgAV, hlt, c1, w1])) | (apply awp_cond_t; focus (simp [a0, a4, zAV, rgAV, hlt, c1, w1]; done)) | (apply awp_cond_f; focus (simp [a0, a4, zAV, rgAV, hlt, c1, w1]; done)) | (refine awp_cond ?_; simp [a0, a4, zAV, rgAV, hlt, c1, w1]; refine ⟨?_, ?_⟩ <;> intro hc))
        refine hI1 (z.length - (i + 1)) _ _ (by omega) ⟨i + 1, by simp [a0, zAV, rgAV], by simp, rfl, by omega, rfl, fun j hj r hr => ?_⟩
        by_cases e : j = i
        · subst e; rw [hx] at hr; injection hr with hr; subst hr; omega
        · exact hno j (by omega) r hr
    · exfalso
      obtain ⟨r, hr, k⟩ := List.any_eq_true.1 h
      obtain ⟨j, hj⟩ := List.getElem?_of_mem hr
      have := hno j (by have := (List.getElem?_eq_some_iff.1 hj).1; omega) r hj
      simp at k; omega
  · rw [ofAV_ok h]
    have hC := cuts_of z hz
    exact refOf_calls z fz hz (by omega) h hC.rng hC.pos

/-- A right zone, of not too many ranges. -/
structure Good (n : Nat) (z : List Rg) : Prop where
  inz : InZ z
  rz : RZ (-1) z
  len : z.length ≤ n
theorem RZ.ord : ∀ {z : List Rg} {b : Int}, RZ b z → ∀ r ∈ z, r.lo ≤ r.hi
  | [], _, _, r, h => by cases h
  | s :: z, b, h, r, hr => by
    rcases List.mem_cons.1 hr with rfl | hr
    · exact h.2.1
    · exact h.2.2.ord r hr
theorem Good.mono {n m : Nat} {z : List Rg} (h : Good n z) (hm : n ≤ m) : Good m z := ⟨h.inz, h.rz, Nat.le_trans h.len hm⟩
theorem good_and {n m : Nat} {x y : List Rg} (h : Good n x) (k : Good m y) : Good (n + m) (andZ x y) := by
  obtain ⟨k1, k2, k3, k4⟩ := andZ_spec _ x y (-1) (-1) (Nat.le_refl _) h.rz k.rz
  exact ⟨k3 h.inz k.inz, k1.weaken (by omega), Nat.le_trans k4 (Nat.add_le_add h.len k.len)⟩
theorem good_not {n : Nat} {y : List Rg} (k : Good n y) : Good (n + 1) (notZ 0 y) := by
  obtain ⟨n1, n2, n3, n4⟩ := notZ_spec y 0 (by simpa using k.rz) k.inz (Int.le_refl _)
  exact ⟨n3, by simpa using n1, Nat.le_trans n4 (Nat.succ_le_succ k.len)⟩
theorem good_all : Good 1 allZ := ⟨fun r hr => by simp [allZ] at hr; subst hr; exact ⟨by decide, by decide, by decide, by decide⟩, ⟨by decide, by decide, trivial⟩, by decide⟩
theorem ofLen {z : List Rg} (hz : InZ z) (ho : ∀ r ∈ z, r.lo ≤ r.hi) : (refOfZ z).length ≤ z.length := by
  let le : Rg → Rg → Bool := fun r s => decide (r.lo ≤ s.lo)
  have hp := List.mergeSort_perm z le
  have hs : SortedBy (fun r s => cmpI r.lo s.lo) (z.mergeSort le) := by
    have := List.pairwise_mergeSort (le := le) (fun a b c h1 h2 => by simp [le] at *; omega) (fun a b => by simp [le]; omega) z
    exact this.imp fun h => by rw [cmpI_neg]; simp [le] at h; omega
  rw [← of_is hz ho _ hp hs]
  have hz' : InZ (z.mergeSort le) := fun r hr => hz r (hp.mem_iff.1 hr)
  obtain ⟨_, _, _, k⟩ := mergeZ_spec hz' (fun r hr => ho r (hp.mem_iff.1 hr)) (hs.imp fun h => by rw [cmpI_neg] at h; omega)
  rw [hp.length_eq] at k
  exact k
theorem good_or {n m : Nat} {x y : List Rg} (h : Good n x) (k : Good m y) : Good (n + m) (refOfZ (x ++ y)) := by
  have hz : InZ (x ++ y) := fun r hr => (List.mem_append.1 hr).elim (h.inz r) (k.inz r)
  have ho : ∀ r ∈ x ++ y, r.lo ≤ r.hi := fun r hr => (List.mem_append.1 hr).elim (h.rz.ord r) (k.rz.ord r)
  obtain ⟨k1, k2, k3⟩ := refOfZ_spec hz
  have := ofLen hz ho
  rw [List.length_append] at this
  exact ⟨k3, k1, Nat.le_trans this (Nat.add_le_add h.len k.len)⟩
theorem zoneOr_calls {n m : Nat} {x y : List Rg} (fx fy : Bool) (h : Good n x) (k : Good m y) (hn : n + m < 256) : PCalls Try.prog 22 [zAV x fx, zAV y fy] (zAV (refOfZ (x ++ y)) false) := by
  have hz : InZ (x ++ y) := fun r hr => (List.mem_append.1 hr).elim (h.inz r) (k.inz r)
  have ho : ∀ r ∈ x ++ y, r.lo ≤ r.hi := fun r hr => (List.mem_append.1 hr).elim (h.rz.ord r) (k.rz.ord r)
  have := h.len; have := k.len
  exact or_calls x y fx fy h.inz k.inz (by omega) _ (of_is hz ho) ho
theorem zoneMinus_calls {n m : Nat} {x y : List Rg} (fx fy : Bool) (h : Good n x) (k : Good m y) (hn : n + m < 2 ^ 30) : PCalls Try.prog 24 [zAV x fx, zAV y fy] (zAV (andZ x (notZ 0 y)) false) := by
  have := h.len; have := k.len
  exact minus_calls x y fx fy k.inz (by omega)
theorem zoneAnd_calls {n m : Nat} {x y : List Rg} (fx fy : Bool) (h : Good n x) (k : Good m y) (hn : n + m < 2 ^ 30) : PCalls Try.prog 20 [zAV x fx, zAV y fy] (zAV (andZ x y) false) := by
  have := h.len; have := k.len
  exact and_calls x y fx fy (by omega)
theorem zoneHas_calls {n : Nat} {x : List Rg} (fx : Bool) (a : Int) (h : Good n x) (hn : n < 2 ^ 30) : PCalls Try.prog 16 [zAV x fx, .raw (.int .u32 a)] (.raw (.bool (hasB x a))) := by
  have := h.len
  exact has_calls x fx a (by omega) (right_rz h.rz)
theorem zoneCount_calls {n : Nat} {x : List Rg} (fx : Bool) (h : Good n x) (hn : n < 2 ^ 20) : PCalls Try.prog 18 [zAV x fx] (.raw (.int .u64 (countZ x))) := by
  have := h.len
  exact count_calls x fx h.inz h.rz.ord (by omega)
theorem zoneSame_calls (x y : List Rg) (fx fy : Bool) (hl : x.length < 2 ^ 60) : PCalls Try.prog 11 [zAV x fx, zAV y fy] (.raw (.bool (decide (x = y)))) := same_calls x y fx fy hl

/-- A fresh list lent to a call that looks. -/
theorem PCalls.useLent {P : Program} {f : FuncId} {σ0 σ : St} {n : Nat} {a v r : AV} {es : List AV} {K : AV → St → Prop} (h : PCalls P f [a, .sl n es false] r) (hr : r.plain = true) (hO : OwnL σ0 σ n v es) (k : K r σ) : ACalls P f [a, v] σ K := by
  rcases hO with ⟨rfl, rfl⟩ | ⟨j, rfl, hj, hm, hn⟩
  · refine ACalls.args (bs := [a, .sl n [] false]) (fun S vs hl => ?_) (h.use k)
    simp only [LRel] at hl ⊢
    obtain ⟨v, us, e, h1, w, ws, e2, h2, h3⟩ := hl
    exact ⟨v, us, e, h1, w, ws, e2, weaker_sl _ _ h2, h3⟩
  · refine RCalls.use (.inr ⟨[a, .sl n es false], ?_, h, hr⟩) k
    simp only [lentL]
    exact ⟨a, _, rfl, .inl rfl, _, _, rfl, .inr ⟨es, hm, by simp, by simp [hj]⟩, rfl⟩

instance (r : Rg) : Decidable r.In := by unfold Rg.In; infer_instance
instance (z : List Rg) : Decidable (InZ z) := by unfold InZ; infer_instance

theorem alive_calls : PCalls Try.prog 8 [] (.raw (.bool true)) := by
  refine pbody Try.func8 rfl (N := 48) rfl rfl (by simp) (by simp [noIds]) fun σ => ?_
  have h1 := zoneOf_calls [⟨9, 12⟩, ⟨3, 5⟩, ⟨6, 6⟩] false (by decide +kernel) (by simp)
  have e1 : ofAV [⟨9, 12⟩, ⟨3, 5⟩, ⟨6, 6⟩] = .tup [zAV [⟨3, 6⟩, ⟨9, 12⟩] false, .raw (.int .i64 0)] := by
    have : refOfZ [⟨9, 12⟩, ⟨3, 5⟩, ⟨6, 6⟩] = [⟨3, 6⟩, ⟨9, 12⟩] := by decide +kernel
    unfold ofAV
    rw [if_neg (by decide +kernel), this]
  rw [e1] at h1
  have g : Good 2 [⟨3, 6⟩, ⟨9, 12⟩] := ⟨by decide +kernel, ⟨by decide, by decide, by decide, by decide, trivial⟩, by decide⟩
  have h2 := least_calls [⟨3, 6⟩, ⟨9, 12⟩] false
  have h3 := zoneSame_calls [⟨3, 6⟩, ⟨9, 12⟩] [⟨3, 6⟩, ⟨9, 12⟩] false false (by simp)
  have h4 := zoneHas_calls false 10 g (by omega)
  have h5 := zoneCount_calls false g (by omega)
  have h6 := zoneCount_calls false good_all (by omega)
  have e4 : hasB [⟨3, 6⟩, ⟨9, 12⟩] 10 = true := by decide +kernel
  have e5 : countZ [⟨3, 6⟩, ⟨9, 12⟩] = 8 := by decide +kernel
  have e6 : countZ allZ = 4294967296 := by decide +kernel
  rw [e4] at h4
  rw [e5] at h5
  rw [e6] at h6
  rw [decide_eq_true rfl] at h3
  (try (first | (with_reducible refine dops_go ?_; simp) | (with_reducible refine OKv_go ?_; simp) | (with_reducible refine OKr_go ?_; simp))); repeat' (first | refine awp_seq ?_ | refine awp_block ?_ | (refine awp_skip ?_; try simp) | (refine awp_exit ?_; try simp) | (refine awp_ret ?_; try simp) | (refine retP_same (by simp) ?_; simp) | (refine retP_flat (by simp) (by simp) (by simp) ?_; simp) | (refine awp_reg ?_; simp) | (refine awp_drawT (fun _ => false) mixed (by decide +kernel) ?_; simp) | (refine guarded_split ?_ ?_ <;> (intro hg; simp only [hg]; simp)) | (apply awp_cond_t; focus (simp; done)) | (apply awp_cond_f; focus (simp; done)) | (refine awp_cond ?_; simp; refine ⟨?_, ?_⟩ <;> intro hc))
  refine h1.useOwn (σ0 := σ) (OwnL.of rfl (by simp [rgAV]) (fresh_none _ _ _) (by simp)) (Ext.new _ _ _ _) fun τ hE => ?_
  (try (first | (with_reducible refine dops_go ?_; simp) | (with_reducible refine OKv_go ?_; simp) | (with_reducible refine OKr_go ?_; simp))); repeat' (first | refine awp_seq ?_ | refine awp_block ?_ | (refine awp_skip ?_; try simp) | (refine awp_exit ?_; try simp) | (refine awp_ret ?_; try simp) | (refine retP_same (by simp) ?_; simp) | (refine retP_flat (by simp) (by simp) (by simp) ?_; simp) | (refine awp_reg ?_; simp) | (refine awp_drawT (fun _ => false) mixed (by decide +kernel) ?_; simp) | (refine guarded_split ?_ ?_ <;> (intro hg; simp only [hg]; simp)) | (apply awp_cond_t; focus (simp; done)) | (apply awp_cond_f; focus (simp; done)) | (refine awp_cond ?_; simp; refine ⟨?_, ?_⟩ <;> intro hc))
  refine PCalls.use h2 ?_
  (try (first | (with_reducible refine dops_go ?_; simp [leastA]) | (with_reducible refine OKv_go ?_; simp [leastA]) | (with_reducible refine OKr_go ?_; simp [leastA]))); repeat' (first | refine awp_seq ?_ | refine awp_block ?_ | (refine awp_skip ?_; try simp) | (refine awp_exit ?_; try simp) | (refine awp_ret ?_; try simp) | (refine retP_same (by simp) ?_; simp) | (refine retP_flat (by simp) (by simp) (by simp [leastA]) ?_; simp) | (refine awp_reg ?_; simp [leastA]) | (refine awp_drawT (fun _ => false) mixed (by decide +kernel) ?_; simp [leastA]) | (refine guarded_split ?_ ?_ <;> (intro hg; simp only [hg]; simp [leastA])) | (apply awp_cond_t; focus (simp [leastA]; done)) | (apply awp_cond_f; focus (simp [leastA]; done)) | (refine awp_cond ?_; simp [leastA]; refine ⟨?_, ?_⟩ <;> intro hc))
  refine h3.useLent rfl (σ0 := τ) (OwnL.of rfl (by simp [rgAV]) (fresh_none _ _ _) (by simp)) ?_
  have hE2 := hE.trans (Ext.new τ 24 2 (.buf [AV.agg [.raw (.int .u32 3), .raw (.int .u32 6)], AV.agg [.raw (.int .u32 9), .raw (.int .u32 12)]]))
  (try (first | (with_reducible refine dops_go ?_; simp) | (with_reducible refine OKv_go ?_; simp) | (with_reducible refine OKr_go ?_; simp))); repeat' (first | refine awp_seq ?_ | refine awp_block ?_ | (refine awp_skip ?_; try simp) | (refine awp_exit ?_; try simp) | (refine awp_ret ?_; try simp) | (refine retP_same (by simp) ?_; simp) | (refine retP_flat (by simp) (by simp) (by simp) ?_; simp) | (refine awp_reg ?_; simp) | (refine awp_drawT (fun _ => false) mixed (by decide +kernel) ?_; simp) | (refine guarded_split ?_ ?_ <;> (intro hg; simp only [hg]; simp)) | (apply awp_cond_t; focus (simp; done)) | (apply awp_cond_f; focus (simp; done)) | (refine awp_cond ?_; simp; refine ⟨?_, ?_⟩ <;> intro hc))
  refine PCalls.use h4 ?_
  (try (first | (with_reducible refine dops_go ?_; simp) | (with_reducible refine OKv_go ?_; simp) | (with_reducible refine OKr_go ?_; simp))); repeat' (first | refine awp_seq ?_ | refine awp_block ?_ | (refine awp_skip ?_; try simp) | (refine awp_exit ?_; try simp) | (refine awp_ret ?_; try simp) | (refine retP_same (by simp) ?_; simp) | (refine retP_flat (by simp) (by simp) (by simp) ?_; simp) | (refine awp_reg ?_; simp) | (refine awp_drawT (fun _ => false) mixed (by decide +kernel) ?_; simp) | (refine guarded_split ?_ ?_ <;> (intro hg; simp only [hg]; simp)) | (apply awp_cond_t; focus (simp; done)) | (apply awp_cond_f; focus (simp; done)) | (refine awp_cond ?_; simp; refine ⟨?_, ?_⟩ <;> intro hc))
  refine PCalls.use h5 ?_
  (try (first | (with_reducible refine dops_go ?_; simp) | (with_reducible refine OKv_go ?_; simp) | (with_reducible refine OKr_go ?_; simp))); repeat' (first | refine awp_seq ?_ | refine awp_block ?_ | (refine awp_skip ?_; try simp) | (refine awp_exit ?_; try simp) | (refine awp_ret ?_; try simp) | (refine retP_same (by simp) ?_; simp) | (refine retP_flat (by simp) (by simp) (by simp) ?_; simp) | (refine awp_reg ?_; simp) | (refine awp_drawT (fun _ => false) mixed (by decide +kernel) ?_; simp) | (refine guarded_split ?_ ?_ <;> (intro hg; simp only [hg]; simp)) | (apply awp_cond_t; focus (simp; done)) | (apply awp_cond_f; focus (simp; done)) | (refine awp_cond ?_; simp; refine ⟨?_, ?_⟩ <;> intro hc))
  refine PCalls.use all_calls ?_
  (try (first | (with_reducible refine dops_go ?_; simp) | (with_reducible refine OKv_go ?_; simp) | (with_reducible refine OKr_go ?_; simp))); repeat' (first | refine awp_seq ?_ | refine awp_block ?_ | (refine awp_skip ?_; try simp) | (refine awp_exit ?_; try simp) | (refine awp_ret ?_; try simp) | (refine retP_same (by simp) ?_; simp) | (refine retP_flat (by simp) (by simp) (by simp) ?_; simp) | (refine awp_reg ?_; simp) | (refine awp_drawT (fun _ => false) mixed (by decide +kernel) ?_; simp) | (refine guarded_split ?_ ?_ <;> (intro hg; simp only [hg]; simp)) | (apply awp_cond_t; focus (simp; done)) | (apply awp_cond_f; focus (simp; done)) | (refine awp_cond ?_; simp; refine ⟨?_, ?_⟩ <;> intro hc))
  refine PCalls.use h6 ?_
  (try (first | (with_reducible refine dops_go ?_; simp) | (with_reducible refine OKv_go ?_; simp) | (with_reducible refine OKr_go ?_; simp))); repeat' (first | refine awp_seq ?_ | refine awp_block ?_ | (refine awp_skip ?_; try simp) | (refine awp_exit ?_; try simp) | (refine awp_ret ?_; try simp) | (refine awp_reg ?_; simp) | (refine awp_drawT (fun _ => false) mixed (by decide +kernel) ?_; simp) | (refine guarded_split ?_ ?_ <;> (intro hg; simp only [hg]; simp)) | (apply awp_cond_t; focus (simp; done)) | (apply awp_cond_f; focus (simp; done)) | (refine awp_cond ?_; simp; refine ⟨?_, ?_⟩ <;> intro hc))
  exact retP_flat (rv := .raw (.bool true)) (.inr rfl) rfl hE2 (by simp)
end Go.Proofs.Ytajikhpjjbohaaa.Av

/- Zones: the laws, walked. -/
namespace Go.Proofs.Ytajikhpjjbohaaa.Av
open Go
set_option linter.unusedSimpArgs false
set_option linter.unusedVariables false
set_option maxRecDepth 100000
set_option maxHeartbeats 8000000
set_option pp.maxSteps 300

theorem docBoth_calls {n m : Nat} {x y : List Rg} (fx fy : Bool) (how : Int) (hhow : how = 1 ∨ how = 2 ∨ how = 3) (h : Good n x) (k : Good m y) (hn : n + m < 2 ^ 29) : PCalls Try.prog 39 [zAV x fx, zAV y fy, .raw (.int .i64 how)] (zAV (refBothZ how x y) false) := by
  have h1 := h.len; have h2 := k.len
  have hC := cuts_of (x ++ y) (fun r hr => (List.mem_append.1 hr).elim (h.inz r) (k.inz r))
  exact both_calls x y fx fy how hhow h.inz k.inz (by omega) hC.rng hC.pos
theorem docAnd_calls {n m : Nat} {x y : List Rg} (fx fy : Bool) (h : Good n x) (k : Good m y) (hn : n + m < 2 ^ 29) : PCalls Try.prog 21 [zAV x fx, zAV y fy] (zAV (andZ x y) false) := by
  rw [and_is h.inz k.inz h.rz k.rz]
  refine pbody Try.func21 rfl (N := 8) rfl rfl (by simp) (noIds_zAV _ _) fun σ => ?_
  (try (first | (with_reducible refine dops_go ?_; simp) | (with_reducible refine OKv_go ?_; simp) | (with_reducible refine OKr_go ?_; simp))); repeat' (first | refine awp_seq ?_ | refine awp_block ?_ | (refine awp_skip ?_; try simp) | (refine awp_exit ?_; try simp) | (refine awp_ret ?_; try simp) | (refine retP_same (by simp) ?_; simp) | (refine retP_flat (by simp) (by simp) (by simp) ?_; simp) | (refine awp_reg ?_; simp) | (refine awp_drawT (fun _ => false) mixed (by decide +kernel) ?_; simp) | (refine guarded_split ?_ ?_ <;> (intro hg; simp only [hg]; simp)) | (apply awp_cond_t; focus (simp; done)) | (apply awp_cond_f; focus (simp; done)) | (refine awp_cond ?_; simp; refine ⟨?_, ?_⟩ <;> intro hc))
  refine PCalls.use (docBoth_calls fx fy 1 (by simp) h k hn) ?_
  (try (first | (with_reducible refine dops_go ?_; simp) | (with_reducible refine OKv_go ?_; simp) | (with_reducible refine OKr_go ?_; simp))); repeat' (first | refine awp_seq ?_ | refine awp_block ?_ | (refine awp_skip ?_; try simp) | (refine awp_exit ?_; try simp) | (refine awp_ret ?_; try simp) | (refine retP_same (by simp) ?_; simp) | (refine retP_flat (by simp) (by simp) (by simp) ?_; simp) | (refine awp_reg ?_; simp) | (refine awp_drawT (fun _ => false) mixed (by decide +kernel) ?_; simp) | (refine guarded_split ?_ ?_ <;> (intro hg; simp only [hg]; simp)) | (apply awp_cond_t; focus (simp; done)) | (apply awp_cond_f; focus (simp; done)) | (refine awp_cond ?_; simp; refine ⟨?_, ?_⟩ <;> intro hc))
theorem docOr_calls {n m : Nat} {x y : List Rg} (fx fy : Bool) (h : Good n x) (k : Good m y) (hn : n + m < 2 ^ 29) : PCalls Try.prog 23 [zAV x fx, zAV y fy] (zAV (refOfZ (x ++ y)) false) := by
  rw [or_is h.inz k.inz]
  refine pbody Try.func23 rfl (N := 8) rfl rfl (by simp) (noIds_zAV _ _) fun σ => ?_
  (try (first | (with_reducible refine dops_go ?_; simp) | (with_reducible refine OKv_go ?_; simp) | (with_reducible refine OKr_go ?_; simp))); repeat' (first | refine awp_seq ?_ | refine awp_block ?_ | (refine awp_skip ?_; try simp) | (refine awp_exit ?_; try simp) | (refine awp_ret ?_; try simp) | (refine retP_same (by simp) ?_; simp) | (refine retP_flat (by simp) (by simp) (by simp) ?_; simp) | (refine awp_reg ?_; simp) | (refine awp_drawT (fun _ => false) mixed (by decide +kernel) ?_; simp) | (refine guarded_split ?_ ?_ <;> (intro hg; simp only [hg]; simp)) | (apply awp_cond_t; focus (simp; done)) | (apply awp_cond_f; focus (simp; done)) | (refine awp_cond ?_; simp; refine ⟨?_, ?_⟩ <;> intro hc))
  refine PCalls.use (docBoth_calls fx fy 2 (by simp) h k hn) ?_
  (try (first | (with_reducible refine dops_go ?_; simp) | (with_reducible refine OKv_go ?_; simp) | (with_reducible refine OKr_go ?_; simp))); repeat' (first | refine awp_seq ?_ | refine awp_block ?_ | (refine awp_skip ?_; try simp) | (refine awp_exit ?_; try simp) | (refine awp_ret ?_; try simp) | (refine retP_same (by simp) ?_; simp) | (refine retP_flat (by simp) (by simp) (by simp) ?_; simp) | (refine awp_reg ?_; simp) | (refine awp_drawT (fun _ => false) mixed (by decide +kernel) ?_; simp) | (refine guarded_split ?_ ?_ <;> (intro hg; simp only [hg]; simp)) | (apply awp_cond_t; focus (simp; done)) | (apply awp_cond_f; focus (simp; done)) | (refine awp_cond ?_; simp; refine ⟨?_, ?_⟩ <;> intro hc))
theorem docMinus_calls {n m : Nat} {x y : List Rg} (fx fy : Bool) (h : Good n x) (k : Good m y) (hn : n + m < 2 ^ 29) : PCalls Try.prog 25 [zAV x fx, zAV y fy] (zAV (andZ x (notZ 0 y)) false) := by
  rw [minus_is h.inz k.inz h.rz k.rz]
  refine pbody Try.func25 rfl (N := 8) rfl rfl (by simp) (noIds_zAV _ _) fun σ => ?_
  (try (first | (with_reducible refine dops_go ?_; simp) | (with_reducible refine OKv_go ?_; simp) | (with_reducible refine OKr_go ?_; simp))); repeat' (first | refine awp_seq ?_ | refine awp_block ?_ | (refine awp_skip ?_; try simp) | (refine awp_exit ?_; try simp) | (refine awp_ret ?_; try simp) | (refine retP_same (by simp) ?_; simp) | (refine retP_flat (by simp) (by simp) (by simp) ?_; simp) | (refine awp_reg ?_; simp) | (refine awp_drawT (fun _ => false) mixed (by decide +kernel) ?_; simp) | (refine guarded_split ?_ ?_ <;> (intro hg; simp only [hg]; simp)) | (apply awp_cond_t; focus (simp; done)) | (apply awp_cond_f; focus (simp; done)) | (refine awp_cond ?_; simp; refine ⟨?_, ?_⟩ <;> intro hc))
  refine PCalls.use (docBoth_calls fx fy 3 (by simp) h k hn) ?_
  (try (first | (with_reducible refine dops_go ?_; simp) | (with_reducible refine OKv_go ?_; simp) | (with_reducible refine OKr_go ?_; simp))); repeat' (first | refine awp_seq ?_ | refine awp_block ?_ | (refine awp_skip ?_; try simp) | (refine awp_exit ?_; try simp) | (refine awp_ret ?_; try simp) | (refine retP_same (by simp) ?_; simp) | (refine retP_flat (by simp) (by simp) (by simp) ?_; simp) | (refine awp_reg ?_; simp) | (refine awp_drawT (fun _ => false) mixed (by decide +kernel) ?_; simp) | (refine guarded_split ?_ ?_ <;> (intro hg; simp only [hg]; simp)) | (apply awp_cond_t; focus (simp; done)) | (apply awp_cond_f; focus (simp; done)) | (refine awp_cond ?_; simp; refine ⟨?_, ?_⟩ <;> intro hc))

theorem ok_map (z : List Rg) : cellsOK (cellsL (z.map rgAV)) = true := by
  induction z with
  | nil => rfl
  | cons r z ih => simp [cellsL, rgAV, cellsOK, cellOK] at ih ⊢; try exact ih
/-- A copy of a list. -/
theorem okr_copy {σ : St} {slot : Nat} {z : List Rg} {f : Bool} {k : AV → St → Prop} (hl : z.length < 2 ^ 30) (n0 : Nat)
    (hk : ∀ v τ, OwnL σ τ 2 v (z.map rgAV) → Ext σ τ → k v τ) : OKr (opAppend Try.prog (σ.new n0 2 (.buf [])).m 22 (.rs ⟨n0, σ.nx n0, 2⟩ 0 0) (zAV z f)) (Res.go slot (σ.new n0 2 (.buf [])) k) := by
  refine okr_append slt22 (σ0 := σ) (es := []) (OwnL.of rfl (by simp) (fresh_none _ _ _) rfl) (Ext.new _ _ _ _) (ys := z.map rgAV) (by simp [zAV]) (.inr rfl) (ok_map z) (by simp; omega) ?_
  intro v1 τ1 hO1 hE1 _ _
  exact hk v1 τ1 (by simpa using hO1) hE1

theorem lawOf_calls (l : List Rg) (f : Bool) (hz : InZ l) (hl : l.length < 2 ^ 50) : PCalls Try.prog 3 [zAV l f] (.raw (.bool true)) := by
  refine pbody Try.func3 rfl (N := 41) rfl rfl (by simp) (by simp [noIds]) fun σ => ?_
  by_cases h40 : l.length ≤ 40
  · have c1 : ¬ (40 : Int) < l.length := by omega
    have h1 := zoneOf_calls l f hz (by omega)
    have h2 := docOf_calls l f hz (by omega)
    have h4 := zoneSame_calls l l f false (by omega)
    rw [decide_eq_true rfl] at h4
    have hlen : ∀ g, (zAV l g) = .sl 2 (l.map rgAV) g := fun g => rfl
    (try (first | (with_reducible refine dops_go ?_; simp [-opAppend, hlen, c1]) | (with_reducible refine OKv_go ?_; simp [-opAppend, hlen, c1]) | (with_reducible refine OKr_go ?_; simp [-opAppend, hlen, c1]))); repeat' (first | refine awp_seq ?_ | refine awp_block ?_ | (refine awp_skip ?_; try simp) | (refine awp_exit ?_; try simp) | (refine awp_ret ?_; try simp) | (refine awp_reg ?_; simp [-opAppend, hlen, c1]) | (refine awp_drawT (fun _ => false) mixed (by decide +kernel) ?_; simp [-opAppend, hlen, c1]) | (refine guarded_split ?_ ?_ <;> (intro hg; simp only [hg]; simp [-opAppend, hlen, c1])) | (apply awp_cond_t; focus (simp [-opAppend, hlen, c1]; done)) | (apply awp_cond_f; focus (simp [-opAppend, hlen, c1]; done)) | (refine awp_cond ?_; simp [-opAppend, hlen, c1]; refine ⟨?_, ?_⟩ <;> intro hc))
    refine okr_copy (f := f) (by omega) 12 fun v τ hO hE => ?_
    rcases any_bad l with hb | ho
    · rw [ofAV_bad hb] at h1 h2
      have h3 := zoneSame_calls [] [] true true (by simp)
      rw [decide_eq_true rfl] at h3
      have h3' : PCalls Try.prog 11 [.sl 0 [] true, .sl 0 [] true] (.raw (.bool true)) := ⟨h3.1, fun σ => ACalls.args (bs := [zAV [] true, zAV [] true]) (fun S vs hv => by
        have w : ∀ S u, VRel S (.sl 0 [] true) u → VRel S (zAV [] true) u := fun S u hu => by
          simp only [VRel, zAV] at hu ⊢
          obtain ⟨b, c, e, k1, k2, k3⟩ := hu
          exact ⟨b, c, e, k1, k2, by simp⟩
        simp only [LRel] at hv ⊢
        obtain ⟨v, us, e, h1, w1, ws, e2, h2, h3⟩ := hv
        exact ⟨v, us, e, w _ _ h1, w1, ws, e2, w _ _ h2, h3⟩) (h3.2 σ)⟩
      (try (first | (with_reducible refine dops_go ?_; simp [-opAppend]) | (with_reducible refine OKv_go ?_; simp [-opAppend]) | (with_reducible refine OKr_go ?_; simp [-opAppend]))); repeat' (first | refine awp_seq ?_ | refine awp_block ?_ | (refine awp_skip ?_; try simp) | (refine awp_exit ?_; try simp) | (refine awp_ret ?_; try simp) | (refine awp_reg ?_; simp [-opAppend]) | (refine awp_drawT (fun _ => false) mixed (by decide +kernel) ?_; simp [-opAppend]) | (refine guarded_split ?_ ?_ <;> (intro hg; simp only [hg]; simp [-opAppend])) | (apply awp_cond_t; focus (simp [-opAppend]; done)) | (apply awp_cond_f; focus (simp [-opAppend]; done)) | (refine awp_cond ?_; simp [-opAppend]; refine ⟨?_, ?_⟩ <;> intro hc))
      refine PCalls.use h1 ?_
      (try (first | (with_reducible refine dops_go ?_; simp [-opAppend]) | (with_reducible refine OKv_go ?_; simp [-opAppend]) | (with_reducible refine OKr_go ?_; simp [-opAppend]))); repeat' (first | refine awp_seq ?_ | refine awp_block ?_ | (refine awp_skip ?_; try simp) | (refine awp_exit ?_; try simp) | (refine awp_ret ?_; try simp) | (refine awp_reg ?_; simp [-opAppend]) | (refine awp_drawT (fun _ => false) mixed (by decide +kernel) ?_; simp [-opAppend]) | (refine guarded_split ?_ ?_ <;> (intro hg; simp only [hg]; simp [-opAppend])) | (apply awp_cond_t; focus (simp [-opAppend]; done)) | (apply awp_cond_f; focus (simp [-opAppend]; done)) | (refine awp_cond ?_; simp [-opAppend]; refine ⟨?_, ?_⟩ <;> intro hc))
      refine PCalls.use h2 ?_
      (try (first | (with_reducible refine dops_go ?_; simp [-opAppend]) | (with_reducible refine OKv_go ?_; simp [-opAppend]) | (with_reducible refine OKr_go ?_; simp [-opAppend]))); repeat' (first | refine awp_seq ?_ | refine awp_block ?_ | (refine awp_skip ?_; try simp) | (refine awp_exit ?_; try simp) | (refine awp_ret ?_; try simp) | (refine awp_reg ?_; simp [-opAppend]) | (refine awp_drawT (fun _ => false) mixed (by decide +kernel) ?_; simp [-opAppend]) | (refine guarded_split ?_ ?_ <;> (intro hg; simp only [hg]; simp [-opAppend])) | (apply awp_cond_t; focus (simp [-opAppend]; done)) | (apply awp_cond_f; focus (simp [-opAppend]; done)) | (refine awp_cond ?_; simp [-opAppend]; refine ⟨?_, ?_⟩ <;> intro hc))
      refine PCalls.use alive_calls ?_
      (try (first | (with_reducible refine dops_go ?_; simp [-opAppend]) | (with_reducible refine OKv_go ?_; simp [-opAppend]) | (with_reducible refine OKr_go ?_; simp [-opAppend]))); repeat' (first | refine awp_seq ?_ | refine awp_block ?_ | (refine awp_skip ?_; try simp) | (refine awp_exit ?_; try simp) | (refine awp_ret ?_; try simp) | (refine awp_reg ?_; simp [-opAppend]) | (refine awp_drawT (fun _ => false) mixed (by decide +kernel) ?_; simp [-opAppend]) | (refine guarded_split ?_ ?_ <;> (intro hg; simp only [hg]; simp [-opAppend])) | (apply awp_cond_t; focus (simp [-opAppend]; done)) | (apply awp_cond_f; focus (simp [-opAppend]; done)) | (refine awp_cond ?_; simp [-opAppend]; refine ⟨?_, ?_⟩ <;> intro hc))
      refine PCalls.use h3' ?_
      (try (first | (with_reducible refine dops_go ?_; simp [-opAppend]) | (with_reducible refine OKv_go ?_; simp [-opAppend]) | (with_reducible refine OKr_go ?_; simp [-opAppend]))); repeat' (first | refine awp_seq ?_ | refine awp_block ?_ | (refine awp_skip ?_; try simp) | (refine awp_exit ?_; try simp) | (refine awp_ret ?_; try simp) | (refine awp_reg ?_; simp [-opAppend]) | (refine awp_drawT (fun _ => false) mixed (by decide +kernel) ?_; simp [-opAppend]) | (refine guarded_split ?_ ?_ <;> (intro hg; simp only [hg]; simp [-opAppend])) | (apply awp_cond_t; focus (simp [-opAppend]; done)) | (apply awp_cond_f; focus (simp [-opAppend]; done)) | (refine awp_cond ?_; simp [-opAppend]; refine ⟨?_, ?_⟩ <;> intro hc))
      refine h4.useLent rfl hO ?_
      (try (first | (with_reducible refine dops_go ?_; simp [-opAppend]) | (with_reducible refine OKv_go ?_; simp [-opAppend]) | (with_reducible refine OKr_go ?_; simp [-opAppend]))); repeat' (first | refine awp_seq ?_ | refine awp_block ?_ | (refine awp_skip ?_; try simp) | (refine awp_exit ?_; try simp) | (refine awp_ret ?_; try simp) | (refine awp_reg ?_; simp [-opAppend]) | (refine awp_drawT (fun _ => false) mixed (by decide +kernel) ?_; simp [-opAppend]) | (refine guarded_split ?_ ?_ <;> (intro hg; simp only [hg]; simp [-opAppend])) | (apply awp_cond_t; focus (simp [-opAppend]; done)) | (apply awp_cond_f; focus (simp [-opAppend]; done)) | (refine awp_cond ?_; simp [-opAppend]; refine ⟨?_, ?_⟩ <;> intro hc))
      exact retP_flat (rv := .raw (.bool true)) (.inr rfl) rfl hE (by simp)
    · rw [ofAV_ok ho] at h1 h2
      have h3 := zoneSame_calls (refOfZ l) (refOfZ l) false false (by have := ofLen hz ho; omega)
      rw [decide_eq_true rfl] at h3
      (try (first | (with_reducible refine dops_go ?_; simp [-opAppend]) | (with_reducible refine OKv_go ?_; simp [-opAppend]) | (with_reducible refine OKr_go ?_; simp [-opAppend]))); repeat' (first | refine awp_seq ?_ | refine awp_block ?_ | (refine awp_skip ?_; try simp) | (refine awp_exit ?_; try simp) | (refine awp_ret ?_; try simp) | (refine awp_reg ?_; simp [-opAppend]) | (refine awp_drawT (fun _ => false) mixed (by decide +kernel) ?_; simp [-opAppend]) | (refine guarded_split ?_ ?_ <;> (intro hg; simp only [hg]; simp [-opAppend])) | (apply awp_cond_t; focus (simp [-opAppend]; done)) | (apply awp_cond_f; focus (simp [-opAppend]; done)) | (refine awp_cond ?_; simp [-opAppend]; refine ⟨?_, ?_⟩ <;> intro hc))
      refine PCalls.use h1 ?_
      (try (first | (with_reducible refine dops_go ?_; simp [-opAppend]) | (with_reducible refine OKv_go ?_; simp [-opAppend]) | (with_reducible refine OKr_go ?_; simp [-opAppend]))); repeat' (first | refine awp_seq ?_ | refine awp_block ?_ | (refine awp_skip ?_; try simp) | (refine awp_exit ?_; try simp) | (refine awp_ret ?_; try simp) | (refine awp_reg ?_; simp [-opAppend]) | (refine awp_drawT (fun _ => false) mixed (by decide +kernel) ?_; simp [-opAppend]) | (refine guarded_split ?_ ?_ <;> (intro hg; simp only [hg]; simp [-opAppend])) | (apply awp_cond_t; focus (simp [-opAppend]; done)) | (apply awp_cond_f; focus (simp [-opAppend]; done)) | (refine awp_cond ?_; simp [-opAppend]; refine ⟨?_, ?_⟩ <;> intro hc))
      refine PCalls.use h2 ?_
      (try (first | (with_reducible refine dops_go ?_; simp [-opAppend]) | (with_reducible refine OKv_go ?_; simp [-opAppend]) | (with_reducible refine OKr_go ?_; simp [-opAppend]))); repeat' (first | refine awp_seq ?_ | refine awp_block ?_ | (refine awp_skip ?_; try simp) | (refine awp_exit ?_; try simp) | (refine awp_ret ?_; try simp) | (refine awp_reg ?_; simp [-opAppend]) | (refine awp_drawT (fun _ => false) mixed (by decide +kernel) ?_; simp [-opAppend]) | (refine guarded_split ?_ ?_ <;> (intro hg; simp only [hg]; simp [-opAppend])) | (apply awp_cond_t; focus (simp [-opAppend]; done)) | (apply awp_cond_f; focus (simp [-opAppend]; done)) | (refine awp_cond ?_; simp [-opAppend]; refine ⟨?_, ?_⟩ <;> intro hc))
      refine PCalls.use alive_calls ?_
      (try (first | (with_reducible refine dops_go ?_; simp [-opAppend]) | (with_reducible refine OKv_go ?_; simp [-opAppend]) | (with_reducible refine OKr_go ?_; simp [-opAppend]))); repeat' (first | refine awp_seq ?_ | refine awp_block ?_ | (refine awp_skip ?_; try simp) | (refine awp_exit ?_; try simp) | (refine awp_ret ?_; try simp) | (refine awp_reg ?_; simp [-opAppend]) | (refine awp_drawT (fun _ => false) mixed (by decide +kernel) ?_; simp [-opAppend]) | (refine guarded_split ?_ ?_ <;> (intro hg; simp only [hg]; simp [-opAppend])) | (apply awp_cond_t; focus (simp [-opAppend]; done)) | (apply awp_cond_f; focus (simp [-opAppend]; done)) | (refine awp_cond ?_; simp [-opAppend]; refine ⟨?_, ?_⟩ <;> intro hc))
      refine PCalls.use h3 ?_
      (try (first | (with_reducible refine dops_go ?_; simp [-opAppend]) | (with_reducible refine OKv_go ?_; simp [-opAppend]) | (with_reducible refine OKr_go ?_; simp [-opAppend]))); repeat' (first | refine awp_seq ?_ | refine awp_block ?_ | (refine awp_skip ?_; try simp) | (refine awp_exit ?_; try simp) | (refine awp_ret ?_; try simp) | (refine awp_reg ?_; simp [-opAppend]) | (refine awp_drawT (fun _ => false) mixed (by decide +kernel) ?_; simp [-opAppend]) | (refine guarded_split ?_ ?_ <;> (intro hg; simp only [hg]; simp [-opAppend])) | (apply awp_cond_t; focus (simp [-opAppend]; done)) | (apply awp_cond_f; focus (simp [-opAppend]; done)) | (refine awp_cond ?_; simp [-opAppend]; refine ⟨?_, ?_⟩ <;> intro hc))
      refine h4.useLent rfl hO ?_
      (try (first | (with_reducible refine dops_go ?_; simp [-opAppend]) | (with_reducible refine OKv_go ?_; simp [-opAppend]) | (with_reducible refine OKr_go ?_; simp [-opAppend]))); repeat' (first | refine awp_seq ?_ | refine awp_block ?_ | (refine awp_skip ?_; try simp) | (refine awp_exit ?_; try simp) | (refine awp_ret ?_; try simp) | (refine awp_reg ?_; simp [-opAppend]) | (refine awp_drawT (fun _ => false) mixed (by decide +kernel) ?_; simp [-opAppend]) | (refine guarded_split ?_ ?_ <;> (intro hg; simp only [hg]; simp [-opAppend])) | (apply awp_cond_t; focus (simp [-opAppend]; done)) | (apply awp_cond_f; focus (simp [-opAppend]; done)) | (refine awp_cond ?_; simp [-opAppend]; refine ⟨?_, ?_⟩ <;> intro hc))
      exact retP_flat (rv := .raw (.bool true)) (.inr rfl) rfl hE (by simp)
  · have c1 : (40 : Int) < l.length := by omega
    (try (first | (with_reducible refine dops_go ?_; simp [zAV, c1]) | (with_reducible refine OKv_go ?_; simp [zAV, c1]) | (with_reducible refine OKr_go ?_; simp [zAV, c1]))); repeat' (first | refine awp_seq ?_ | refine awp_block ?_ | (refine awp_skip ?_; try simp) | (refine awp_exit ?_; try simp) | (refine awp_ret ?_; try simp) | (refine retP_same (by simp) ?_; simp) | (refine retP_flat (by simp) (by simp) (by simp [zAV, c1]) ?_; simp) | (refine awp_reg ?_; simp [zAV, c1]) | (refine awp_drawT (fun _ => false) mixed (by decide +kernel) ?_; simp [zAV, c1]) | (refine guarded_split ?_ ?_ <;> (intro hg; simp only [hg]; simp [zAV, c1])) | (apply awp_cond_t; focus (simp [zAV, c1]; done)) | (apply awp_cond_f; focus (simp [zAV, c1]; done)) | (refine awp_cond ?_; simp [zAV, c1]; refine ⟨?_, ?_⟩ <;> intro hc))
    refine PCalls.use alive_calls ?_
    (try (first | (with_reducible refine dops_go ?_; simp) | (with_reducible refine OKv_go ?_; simp) | (with_reducible refine OKr_go ?_; simp))); repeat' (first | refine awp_seq ?_ | refine awp_block ?_ | (refine awp_skip ?_; try simp) | (refine awp_exit ?_; try simp) | (refine awp_ret ?_; try simp) | (refine retP_same (by simp) ?_; simp) | (refine retP_flat (by simp) (by simp) (by simp) ?_; simp) | (refine awp_reg ?_; simp) | (refine awp_drawT (fun _ => false) mixed (by decide +kernel) ?_; simp) | (refine guarded_split ?_ ?_ <;> (intro hg; simp only [hg]; simp)) | (apply awp_cond_t; focus (simp; done)) | (apply awp_cond_f; focus (simp; done)) | (refine awp_cond ?_; simp; refine ⟨?_, ?_⟩ <;> intro hc))

theorem good_of {z : List Rg} (hz : InZ z) (hl : z.length ≤ 40) (hr : rightB z = true) : Good 40 z := ⟨hz, rz_right hz hr, hl⟩
theorem lawTells_calls (z : List Rg) (f : Bool) (a : Int) (hz : InZ z) (hl : z.length < 2 ^ 50) : PCalls Try.prog 4 [zAV z f, .raw (.int .u32 a)] (.raw (.bool true)) := by
  refine pbody Try.func4 rfl (N := 68) rfl rfl (by simp) (by simp [noIds]) fun σ => ?_
  by_cases h40 : z.length ≤ 40
  · have c1 : ¬ (40 : Int) < z.length := by omega
    have h1 := right_calls z f hz (by omega)
    have h2 := refRight_calls z f hz (by omega)
    have h3 := fits_calls z f hz (by omega)
    rw [decide_eq_true h40, Bool.true_and] at h3
    have hlen : ∀ g, (zAV z g) = .sl 2 (z.map rgAV) g := fun g => rfl
    have hZ : zAV z f = zAV z f := rfl
    (try (first | (with_reducible refine dops_go ?_; simp [zAV, c1]) | (with_reducible refine OKv_go ?_; simp [zAV, c1]) | (with_reducible refine OKr_go ?_; simp [zAV, c1]))); repeat' (first | refine awp_seq ?_ | refine awp_block ?_ | (refine awp_skip ?_; try simp) | (refine awp_exit ?_; try simp) | (refine awp_ret ?_; try simp) | (refine retP_same (by simp) ?_; simp) | (refine retP_flat (by simp) (by simp) (by simp [zAV, c1]) ?_; simp) | (refine awp_reg ?_; simp [zAV, c1]) | (refine awp_drawT (fun _ => false) mixed (by decide +kernel) ?_; simp [zAV, c1]) | (refine guarded_split ?_ ?_ <;> (intro hg; simp only [hg]; simp [zAV, c1])) | (apply awp_cond_t; focus (simp [zAV, c1]; done)) | (apply awp_cond_f; focus (simp [zAV, c1]; done)) | (refine awp_cond ?_; simp [zAV, c1]; refine ⟨?_, ?_⟩ <;> intro hc))
    refine PCalls.use h1 ?_
    (try (first | (with_reducible refine dops_go ?_; simp [zAV]) | (with_reducible refine OKv_go ?_; simp [zAV]) | (with_reducible refine OKr_go ?_; simp [zAV]))); repeat' (first | refine awp_seq ?_ | refine awp_block ?_ | (refine awp_skip ?_; try simp) | (refine awp_exit ?_; try simp) | (refine awp_ret ?_; try simp) | (refine retP_same (by simp) ?_; simp) | (refine retP_flat (by simp) (by simp) (by simp [zAV]) ?_; simp) | (refine awp_reg ?_; simp [zAV]) | (refine awp_drawT (fun _ => false) mixed (by decide +kernel) ?_; simp [zAV]) | (refine guarded_split ?_ ?_ <;> (intro hg; simp only [hg]; simp [zAV])) | (apply awp_cond_t; focus (simp [zAV]; done)) | (apply awp_cond_f; focus (simp [zAV]; done)) | (refine awp_cond ?_; simp [zAV]; refine ⟨?_, ?_⟩ <;> intro hc))
    refine PCalls.use h2 ?_
    (try (first | (with_reducible refine dops_go ?_; simp [zAV]) | (with_reducible refine OKv_go ?_; simp [zAV]) | (with_reducible refine OKr_go ?_; simp [zAV]))); repeat' (first | refine awp_seq ?_ | refine awp_block ?_ | (refine awp_skip ?_; try simp) | (refine awp_exit ?_; try simp) | (refine awp_ret ?_; try simp) | (refine retP_same (by simp) ?_; simp) | (refine retP_flat (by simp) (by simp) (by simp [zAV]) ?_; simp) | (refine awp_reg ?_; simp [zAV]) | (refine awp_drawT (fun _ => false) mixed (by decide +kernel) ?_; simp [zAV]) | (refine guarded_split ?_ ?_ <;> (intro hg; simp only [hg]; simp [zAV])) | (apply awp_cond_t; focus (simp [zAV]; done)) | (apply awp_cond_f; focus (simp [zAV]; done)) | (refine awp_cond ?_; simp [zAV]; refine ⟨?_, ?_⟩ <;> intro hc))
    refine PCalls.use h3 ?_
    cases hr : rightB z with
    | false =>
      (try (first | (with_reducible refine dops_go ?_; simp [zAV]) | (with_reducible refine OKv_go ?_; simp [zAV]) | (with_reducible refine OKr_go ?_; simp [zAV]))); repeat' (first | refine awp_seq ?_ | refine awp_block ?_ | (refine awp_skip ?_; try simp) | (refine awp_exit ?_; try simp) | (refine awp_ret ?_; try simp) | (refine retP_same (by simp) ?_; simp) | (refine retP_flat (by simp) (by simp) (by simp [zAV]) ?_; simp) | (refine awp_reg ?_; simp [zAV]) | (refine awp_drawT (fun _ => false) mixed (by decide +kernel) ?_; simp [zAV]) | (refine guarded_split ?_ ?_ <;> (intro hg; simp only [hg]; simp [zAV])) | (apply awp_cond_t; focus (simp [zAV]; done)) | (apply awp_cond_f; focus (simp [zAV]; done)) | (refine awp_cond ?_; simp [zAV]; refine ⟨?_, ?_⟩ <;> intro hc))
      refine PCalls.use alive_calls ?_
      (try (first | (with_reducible refine dops_go ?_; simp) | (with_reducible refine OKv_go ?_; simp) | (with_reducible refine OKr_go ?_; simp))); repeat' (first | refine awp_seq ?_ | refine awp_block ?_ | (refine awp_skip ?_; try simp) | (refine awp_exit ?_; try simp) | (refine awp_ret ?_; try simp) | (refine retP_same (by simp) ?_; simp) | (refine retP_flat (by simp) (by simp) (by simp) ?_; simp) | (refine awp_reg ?_; simp) | (refine awp_drawT (fun _ => false) mixed (by decide +kernel) ?_; simp) | (refine guarded_split ?_ ?_ <;> (intro hg; simp only [hg]; simp)) | (apply awp_cond_t; focus (simp; done)) | (apply awp_cond_f; focus (simp; done)) | (refine awp_cond ?_; simp; refine ⟨?_, ?_⟩ <;> intro hc))
    | true =>
      have g := good_of hz h40 hr
      have h4 := least_calls z f
      have h5 := zoneHas_calls f a g (by omega)
      have h6 := refHas_calls z f a (by omega)
      have h7 := zoneCount_calls f g (by omega)
      have h8 := refCount_calls z f hz g.rz.ord (by omega)
      (try (first | (with_reducible refine dops_go ?_; simp [zAV]) | (with_reducible refine OKv_go ?_; simp [zAV]) | (with_reducible refine OKr_go ?_; simp [zAV]))); repeat' (first | refine awp_seq ?_ | refine awp_block ?_ | (refine awp_skip ?_; try simp) | (refine awp_exit ?_; try simp) | (refine awp_ret ?_; try simp) | (refine retP_same (by simp) ?_; simp) | (refine retP_flat (by simp) (by simp) (by simp [zAV]) ?_; simp) | (refine awp_reg ?_; simp [zAV]) | (refine awp_drawT (fun _ => false) mixed (by decide +kernel) ?_; simp [zAV]) | (refine guarded_split ?_ ?_ <;> (intro hg; simp only [hg]; simp [zAV])) | (apply awp_cond_t; focus (simp [zAV]; done)) | (apply awp_cond_f; focus (simp [zAV]; done)) | (refine awp_cond ?_; simp [zAV]; refine ⟨?_, ?_⟩ <;> intro hc))
      refine PCalls.use h4 ?_
      cases z with
      | nil =>
        (try (first | (with_reducible refine dops_go ?_; simp [zAV, leastA]) | (with_reducible refine OKv_go ?_; simp [zAV, leastA]) | (with_reducible refine OKr_go ?_; simp [zAV, leastA]))); repeat' (first | refine awp_seq ?_ | refine awp_block ?_ | (refine awp_skip ?_; try simp) | (refine awp_exit ?_; try simp) | (refine awp_ret ?_; try simp) | (refine retP_same (by simp) ?_; simp) | (refine retP_flat (by simp) (by simp) (by simp [zAV, leastA]) ?_; simp) | (refine awp_reg ?_; simp [zAV, leastA]) | (refine awp_drawT (fun _ => false) mixed (by decide +kernel) ?_; simp [zAV, leastA]) | (refine guarded_split ?_ ?_ <;> (intro hg; simp only [hg]; simp [zAV, leastA])) | (apply awp_cond_t; focus (simp [zAV, leastA]; done)) | (apply awp_cond_f; focus (simp [zAV, leastA]; done)) | (refine awp_cond ?_; simp [zAV, leastA]; refine ⟨?_, ?_⟩ <;> intro hc))
        refine PCalls.use alive_calls ?_
        (try (first | (with_reducible refine dops_go ?_; simp [zAV]) | (with_reducible refine OKv_go ?_; simp [zAV]) | (with_reducible refine OKr_go ?_; simp [zAV]))); repeat' (first | refine awp_seq ?_ | refine awp_block ?_ | (refine awp_skip ?_; try simp) | (refine awp_exit ?_; try simp) | (refine awp_ret ?_; try simp) | (refine retP_same (by simp) ?_; simp) | (refine retP_flat (by simp) (by simp) (by simp [zAV]) ?_; simp) | (refine awp_reg ?_; simp [zAV]) | (refine awp_drawT (fun _ => false) mixed (by decide +kernel) ?_; simp [zAV]) | (refine guarded_split ?_ ?_ <;> (intro hg; simp only [hg]; simp [zAV])) | (apply awp_cond_t; focus (simp [zAV]; done)) | (apply awp_cond_f; focus (simp [zAV]; done)) | (refine awp_cond ?_; simp [zAV]; refine ⟨?_, ?_⟩ <;> intro hc))
        refine PCalls.use h5 ?_
        (try (first | (with_reducible refine dops_go ?_; simp [zAV]) | (with_reducible refine OKv_go ?_; simp [zAV]) | (with_reducible refine OKr_go ?_; simp [zAV]))); repeat' (first | refine awp_seq ?_ | refine awp_block ?_ | (refine awp_skip ?_; try simp) | (refine awp_exit ?_; try simp) | (refine awp_ret ?_; try simp) | (refine retP_same (by simp) ?_; simp) | (refine retP_flat (by simp) (by simp) (by simp [zAV]) ?_; simp) | (refine awp_reg ?_; simp [zAV]) | (refine awp_drawT (fun _ => false) mixed (by decide +kernel) ?_; simp [zAV]) | (refine guarded_split ?_ ?_ <;> (intro hg; simp only [hg]; simp [zAV])) | (apply awp_cond_t; focus (simp [zAV]; done)) | (apply awp_cond_f; focus (simp [zAV]; done)) | (refine awp_cond ?_; simp [zAV]; refine ⟨?_, ?_⟩ <;> intro hc))
        refine PCalls.use h6 ?_
        (try (first | (with_reducible refine dops_go ?_; simp [zAV]) | (with_reducible refine OKv_go ?_; simp [zAV]) | (with_reducible refine OKr_go ?_; simp [zAV]))); repeat' (first | refine awp_seq ?_ | refine awp_block ?_ | (refine awp_skip ?_; try simp) | (refine awp_exit ?_; try simp) | (refine awp_ret ?_; try simp) | (refine retP_same (by simp) ?_; simp) | (refine retP_flat (by simp) (by simp) (by simp [zAV]) ?_; simp) | (refine awp_reg ?_; simp [zAV]) | (refine awp_drawT (fun _ => false) mixed (by decide +kernel) ?_; simp [zAV]) | (refine guarded_split ?_ ?_ <;> (intro hg; simp only [hg]; simp [zAV])) | (apply awp_cond_t; focus (simp [zAV]; done)) | (apply awp_cond_f; focus (simp [zAV]; done)) | (refine awp_cond ?_; simp [zAV]; refine ⟨?_, ?_⟩ <;> intro hc))
        refine PCalls.use h7 ?_
        (try (first | (with_reducible refine dops_go ?_; simp [zAV]) | (with_reducible refine OKv_go ?_; simp [zAV]) | (with_reducible refine OKr_go ?_; simp [zAV]))); repeat' (first | refine awp_seq ?_ | refine awp_block ?_ | (refine awp_skip ?_; try simp) | (refine awp_exit ?_; try simp) | (refine awp_ret ?_; try simp) | (refine retP_same (by simp) ?_; simp) | (refine retP_flat (by simp) (by simp) (by simp [zAV]) ?_; simp) | (refine awp_reg ?_; simp [zAV]) | (refine awp_drawT (fun _ => false) mixed (by decide +kernel) ?_; simp [zAV]) | (refine guarded_split ?_ ?_ <;> (intro hg; simp only [hg]; simp [zAV])) | (apply awp_cond_t; focus (simp [zAV]; done)) | (apply awp_cond_f; focus (simp [zAV]; done)) | (refine awp_cond ?_; simp [zAV]; refine ⟨?_, ?_⟩ <;> intro hc))
        refine PCalls.use h8 ?_
        (try (first | (with_reducible refine dops_go ?_; simp [zAV]) | (with_reducible refine OKv_go ?_; simp [zAV]) | (with_reducible refine OKr_go ?_; simp [zAV]))); repeat' (first | refine awp_seq ?_ | refine awp_block ?_ | (refine awp_skip ?_; try simp) | (refine awp_exit ?_; try simp) | (refine awp_ret ?_; try simp) | (refine retP_same (by simp) ?_; simp) | (refine retP_flat (by simp) (by simp) (by simp [zAV]) ?_; simp) | (refine awp_reg ?_; simp [zAV]) | (refine awp_drawT (fun _ => false) mixed (by decide +kernel) ?_; simp [zAV]) | (refine guarded_split ?_ ?_ <;> (intro hg; simp only [hg]; simp [zAV])) | (apply awp_cond_t; focus (simp [zAV]; done)) | (apply awp_cond_f; focus (simp [zAV]; done)) | (refine awp_cond ?_; simp [zAV]; refine ⟨?_, ?_⟩ <;> intro hc))
      | cons r z =>
        have c2 : (0 : Int) < (z.length : Int) + 1 := by omega
        (try (first | (with_reducible refine dops_go ?_; simp [zAV, leastA, rgAV, c2]) | (with_reducible refine OKv_go ?_; simp [zAV, leastA, rgAV, c2]) | (with_reducible refine OKr_go ?_; simp [zAV, leastA, rgAV, c2]))); repeat' (first | refine awp_seq ?_ | refine awp_block ?_ | (refine awp_skip ?_; try simp) | (refine awp_exit ?_; try simp) | (refine awp_ret ?_; try simp) | (refine retP_same (by simp) ?_; simp) | (refine retP_flat (by simp) (by simp) (by simp [zAV, leastA, rgAV, c2]) ?_; simp) | (refine awp_reg ?_; simp [zAV, leastA, rgAV, c2]) | (refine awp_drawT (fun _ => false) mixed (by decide +kernel) ?_; simp [zAV, leastA, rgAV, c2]) | (refine guarded_split ?_ ?_ <;> (intro hg; simp only [hg]; simp [zAV, leastA, rgAV, c2])) | (apply awp_cond_t; focus (simp [zAV, leastA, rgAV, c2]; done)) | (apply awp_cond_f; focus (simp [zAV, leastA, rgAV, c2]; done)) | (refine awp_cond ?_; simp [zAV, leastA, rgAV, c2]; refine ⟨?_, ?_⟩ <;> intro hc))
        refine PCalls.use alive_calls ?_
        (try (first | (with_reducible refine dops_go ?_; simp [zAV]) | (with_reducible refine OKv_go ?_; simp [zAV]) | (with_reducible refine OKr_go ?_; simp [zAV]))); repeat' (first | refine awp_seq ?_ | refine awp_block ?_ | (refine awp_skip ?_; try simp) | (refine awp_exit ?_; try simp) | (refine awp_ret ?_; try simp) | (refine retP_same (by simp) ?_; simp) | (refine retP_flat (by simp) (by simp) (by simp [zAV]) ?_; simp) | (refine awp_reg ?_; simp [zAV]) | (refine awp_drawT (fun _ => false) mixed (by decide +kernel) ?_; simp [zAV]) | (refine guarded_split ?_ ?_ <;> (intro hg; simp only [hg]; simp [zAV])) | (apply awp_cond_t; focus (simp [zAV]; done)) | (apply awp_cond_f; focus (simp [zAV]; done)) | (refine awp_cond ?_; simp [zAV]; refine ⟨?_, ?_⟩ <;> intro hc))
        refine PCalls.use h5 ?_
        (try (first | (with_reducible refine dops_go ?_; simp [zAV]) | (with_reducible refine OKv_go ?_; simp [zAV]) | (with_reducible refine OKr_go ?_; simp [zAV]))); repeat' (first | refine awp_seq ?_ | refine awp_block ?_ | (refine awp_skip ?_; try simp) | (refine awp_exit ?_; try simp) | (refine awp_ret ?_; try simp) | (refine retP_same (by simp) ?_; simp) | (refine retP_flat (by simp) (by simp) (by simp [zAV]) ?_; simp) | (refine awp_reg ?_; simp [zAV]) | (refine awp_drawT (fun _ => false) mixed (by decide +kernel) ?_; simp [zAV]) | (refine guarded_split ?_ ?_ <;> (intro hg; simp only [hg]; simp [zAV])) | (apply awp_cond_t; focus (simp [zAV]; done)) | (apply awp_cond_f; focus (simp [zAV]; done)) | (refine awp_cond ?_; simp [zAV]; refine ⟨?_, ?_⟩ <;> intro hc))
        refine PCalls.use h6 ?_
        (try (first | (with_reducible refine dops_go ?_; simp [zAV]) | (with_reducible refine OKv_go ?_; simp [zAV]) | (with_reducible refine OKr_go ?_; simp [zAV]))); repeat' (first | refine awp_seq ?_ | refine awp_block ?_ | (refine awp_skip ?_; try simp) | (refine awp_exit ?_; try simp) | (refine awp_ret ?_; try simp) | (refine retP_same (by simp) ?_; simp) | (refine retP_flat (by simp) (by simp) (by simp [zAV]) ?_; simp) | (refine awp_reg ?_; simp [zAV]) | (refine awp_drawT (fun _ => false) mixed (by decide +kernel) ?_; simp [zAV]) | (refine guarded_split ?_ ?_ <;> (intro hg; simp only [hg]; simp [zAV])) | (apply awp_cond_t; focus (simp [zAV]; done)) | (apply awp_cond_f; focus (simp [zAV]; done)) | (refine awp_cond ?_; simp [zAV]; refine ⟨?_, ?_⟩ <;> intro hc))
        refine PCalls.use h7 ?_
        (try (first | (with_reducible refine dops_go ?_; simp [zAV]) | (with_reducible refine OKv_go ?_; simp [zAV]) | (with_reducible refine OKr_go ?_; simp [zAV]))); repeat' (first | refine awp_seq ?_ | refine awp_block ?_ | (refine awp_skip ?_; try simp) | (refine awp_exit ?_; try simp) | (refine awp_ret ?_; try simp) | (refine retP_same (by simp) ?_; simp) | (refine retP_flat (by simp) (by simp) (by simp [zAV]) ?_; simp) | (refine awp_reg ?_; simp [zAV]) | (refine awp_drawT (fun _ => false) mixed (by decide +kernel) ?_; simp [zAV]) | (refine guarded_split ?_ ?_ <;> (intro hg; simp only [hg]; simp [zAV])) | (apply awp_cond_t; focus (simp [zAV]; done)) | (apply awp_cond_f; focus (simp [zAV]; done)) | (refine awp_cond ?_; simp [zAV]; refine ⟨?_, ?_⟩ <;> intro hc))
        refine PCalls.use h8 ?_
        (try (first | (with_reducible refine dops_go ?_; simp [zAV]) | (with_reducible refine OKv_go ?_; simp [zAV]) | (with_reducible refine OKr_go ?_; simp [zAV]))); repeat' (first | refine awp_seq ?_ | refine awp_block ?_ | (refine awp_skip ?_; try simp) | (refine awp_exit ?_; try simp) | (refine awp_ret ?_; try simp) | (refine retP_same (by simp) ?_; simp) | (refine retP_flat (by simp) (by simp) (by simp [zAV]) ?_; simp) | (refine awp_reg ?_; simp [zAV]) | (refine awp_drawT (fun _ => false) mixed (by decide +kernel) ?_; simp [zAV]) | (refine guarded_split ?_ ?_ <;> (intro hg; simp only [hg]; simp [zAV])) | (apply awp_cond_t; focus (simp [zAV]; done)) | (apply awp_cond_f; focus (simp [zAV]; done)) | (refine awp_cond ?_; simp [zAV]; refine ⟨?_, ?_⟩ <;> intro hc))
  · have c1 : (40 : Int) < z.length := by omega
    (try (first | (with_reducible refine dops_go ?_; simp [zAV, c1]) | (with_reducible refine OKv_go ?_; simp [zAV, c1]) | (with_reducible refine OKr_go ?_; simp [zAV, c1]))); repeat' (first | refine awp_seq ?_ | refine awp_block ?_ | (refine awp_skip ?_; try simp) | (refine awp_exit ?_; try simp) | (refine awp_ret ?_; try simp) | (refine retP_same (by simp) ?_; simp) | (refine retP_flat (by simp) (by simp) (by simp [zAV, c1]) ?_; simp) | (refine awp_reg ?_; simp [zAV, c1]) | (refine awp_drawT (fun _ => false) mixed (by decide +kernel) ?_; simp [zAV, c1]) | (refine guarded_split ?_ ?_ <;> (intro hg; simp only [hg]; simp [zAV, c1])) | (apply awp_cond_t; focus (simp [zAV, c1]; done)) | (apply awp_cond_f; focus (simp [zAV, c1]; done)) | (refine awp_cond ?_; simp [zAV, c1]; refine ⟨?_, ?_⟩ <;> intro hc))
    refine PCalls.use alive_calls ?_
    (try (first | (with_reducible refine dops_go ?_; simp) | (with_reducible refine OKv_go ?_; simp) | (with_reducible refine OKr_go ?_; simp))); repeat' (first | refine awp_seq ?_ | refine awp_block ?_ | (refine awp_skip ?_; try simp) | (refine awp_exit ?_; try simp) | (refine awp_ret ?_; try simp) | (refine retP_same (by simp) ?_; simp) | (refine retP_flat (by simp) (by simp) (by simp) ?_; simp) | (refine awp_reg ?_; simp) | (refine awp_drawT (fun _ => false) mixed (by decide +kernel) ?_; simp) | (refine guarded_split ?_ ?_ <;> (intro hg; simp only [hg]; simp)) | (apply awp_cond_t; focus (simp; done)) | (apply awp_cond_f; focus (simp; done)) | (refine awp_cond ?_; simp; refine ⟨?_, ?_⟩ <;> intro hc))

theorem lawBoth_calls (x y : List Rg) (fx fy : Bool) (hx : InZ x) (hy : InZ y) (hlx : x.length < 2 ^ 50) (hly : y.length < 2 ^ 50) : PCalls Try.prog 5 [zAV x fx, zAV y fy] (.raw (.bool true)) := by
  refine pbody Try.func5 rfl (N := 70) rfl rfl (by simp) (by simp [noIds]) fun σ => ?_
  have f1 := fits_calls x fx hx (by omega)
  have f2 := fits_calls y fy hy (by omega)
  by_cases hp : decide (x.length ≤ 40) && rightB x
  · by_cases hq : decide (y.length ≤ 40) && rightB y
    · rw [hp] at f1
      rw [hq] at f2
      rw [Bool.and_eq_true, decide_eq_true_eq] at hp hq
      have gx := good_of hx hp.1 hp.2
      have gy := good_of hy hq.1 hq.2
      have b1 := zoneAnd_calls fx fy gx gy (by omega)
      have b2 := docAnd_calls fx fy gx gy (by omega)
      have b3 := zoneOr_calls fx fy gx gy (by omega)
      have b4 := docOr_calls fx fy gx gy (by omega)
      have b5 := zoneMinus_calls fx fy gx gy (by omega)
      have b6 := docMinus_calls fx fy gx gy (by omega)
      have s1 := zoneSame_calls (andZ x y) (andZ x y) false false (by have := (good_and gx gy).len; omega)
      have s2 := zoneSame_calls (refOfZ (x ++ y)) (refOfZ (x ++ y)) false false (by have := (good_or gx gy).len; omega)
      have s3 := zoneSame_calls (andZ x (notZ 0 y)) (andZ x (notZ 0 y)) false false (by have := (good_and gx (good_not gy)).len; omega)
      have s4 := zoneSame_calls x x fx false (by omega)
      have s5 := zoneSame_calls y y fy false (by omega)
      rw [decide_eq_true rfl] at s1 s2 s3 s4 s5
      (try (first | (with_reducible refine dops_go ?_; simp [-opAppend]) | (with_reducible refine OKv_go ?_; simp [-opAppend]) | (with_reducible refine OKr_go ?_; simp [-opAppend]))); repeat' (first | refine awp_seq ?_ | refine awp_block ?_ | (refine awp_skip ?_; try simp) | (refine awp_exit ?_; try simp) | (refine awp_ret ?_; try simp) | (refine awp_reg ?_; simp [-opAppend]) | (refine awp_drawT (fun _ => false) mixed (by decide +kernel) ?_; simp [-opAppend]) | (refine guarded_split ?_ ?_ <;> (intro hg; simp only [hg]; simp [-opAppend])) | (apply awp_cond_t; focus (simp [-opAppend]; done)) | (apply awp_cond_f; focus (simp [-opAppend]; done)) | (refine awp_cond ?_; simp [-opAppend]; refine ⟨?_, ?_⟩ <;> intro hc))
      refine PCalls.use f1 ?_
      (try (first | (with_reducible refine dops_go ?_; simp [-opAppend]) | (with_reducible refine OKv_go ?_; simp [-opAppend]) | (with_reducible refine OKr_go ?_; simp [-opAppend]))); repeat' (first | refine awp_seq ?_ | refine awp_block ?_ | (refine awp_skip ?_; try simp) | (refine awp_exit ?_; try simp) | (refine awp_ret ?_; try simp) | (refine awp_reg ?_; simp [-opAppend]) | (refine awp_drawT (fun _ => false) mixed (by decide +kernel) ?_; simp [-opAppend]) | (refine guarded_split ?_ ?_ <;> (intro hg; simp only [hg]; simp [-opAppend])) | (apply awp_cond_t; focus (simp [-opAppend]; done)) | (apply awp_cond_f; focus (simp [-opAppend]; done)) | (refine awp_cond ?_; simp [-opAppend]; refine ⟨?_, ?_⟩ <;> intro hc))
      refine PCalls.use f2 ?_
      (try (first | (with_reducible refine dops_go ?_; simp [-opAppend]) | (with_reducible refine OKv_go ?_; simp [-opAppend]) | (with_reducible refine OKr_go ?_; simp [-opAppend]))); repeat' (first | refine awp_seq ?_ | refine awp_block ?_ | (refine awp_skip ?_; try simp) | (refine awp_exit ?_; try simp) | (refine awp_ret ?_; try simp) | (refine awp_reg ?_; simp [-opAppend]) | (refine awp_drawT (fun _ => false) mixed (by decide +kernel) ?_; simp [-opAppend]) | (refine guarded_split ?_ ?_ <;> (intro hg; simp only [hg]; simp [-opAppend])) | (apply awp_cond_t; focus (simp [-opAppend]; done)) | (apply awp_cond_f; focus (simp [-opAppend]; done)) | (refine awp_cond ?_; simp [-opAppend]; refine ⟨?_, ?_⟩ <;> intro hc))
      refine okr_copy (f := fx) (by omega) 23 fun v1 τ1 hO1 hE1 => ?_
      (try (first | (with_reducible refine dops_go ?_; simp [-opAppend]) | (with_reducible refine OKv_go ?_; simp [-opAppend]) | (with_reducible refine OKr_go ?_; simp [-opAppend]))); repeat' (first | refine awp_seq ?_ | refine awp_block ?_ | (refine awp_skip ?_; try simp) | (refine awp_exit ?_; try simp) | (refine awp_ret ?_; try simp) | (refine awp_reg ?_; simp [-opAppend]) | (refine awp_drawT (fun _ => false) mixed (by decide +kernel) ?_; simp [-opAppend]) | (refine guarded_split ?_ ?_ <;> (intro hg; simp only [hg]; simp [-opAppend])) | (apply awp_cond_t; focus (simp [-opAppend]; done)) | (apply awp_cond_f; focus (simp [-opAppend]; done)) | (refine awp_cond ?_; simp [-opAppend]; refine ⟨?_, ?_⟩ <;> intro hc))
      refine okr_copy (f := fy) (by omega) 26 fun v2 τ hO2 hE2 => ?_
      have hO1 := hO1.ext hE2
      have hE := hE1.trans hE2
      (try (first | (with_reducible refine dops_go ?_; simp [-opAppend]) | (with_reducible refine OKv_go ?_; simp [-opAppend]) | (with_reducible refine OKr_go ?_; simp [-opAppend]))); repeat' (first | refine awp_seq ?_ | refine awp_block ?_ | (refine awp_skip ?_; try simp) | (refine awp_exit ?_; try simp) | (refine awp_ret ?_; try simp) | (refine awp_reg ?_; simp [-opAppend]) | (refine awp_drawT (fun _ => false) mixed (by decide +kernel) ?_; simp [-opAppend]) | (refine guarded_split ?_ ?_ <;> (intro hg; simp only [hg]; simp [-opAppend])) | (apply awp_cond_t; focus (simp [-opAppend]; done)) | (apply awp_cond_f; focus (simp [-opAppend]; done)) | (refine awp_cond ?_; simp [-opAppend]; refine ⟨?_, ?_⟩ <;> intro hc))
      refine PCalls.use b1 ?_
      (try (first | (with_reducible refine dops_go ?_; simp [-opAppend]) | (with_reducible refine OKv_go ?_; simp [-opAppend]) | (with_reducible refine OKr_go ?_; simp [-opAppend]))); repeat' (first | refine awp_seq ?_ | refine awp_block ?_ | (refine awp_skip ?_; try simp) | (refine awp_exit ?_; try simp) | (refine awp_ret ?_; try simp) | (refine awp_reg ?_; simp [-opAppend]) | (refine awp_drawT (fun _ => false) mixed (by decide +kernel) ?_; simp [-opAppend]) | (refine guarded_split ?_ ?_ <;> (intro hg; simp only [hg]; simp [-opAppend])) | (apply awp_cond_t; focus (simp [-opAppend]; done)) | (apply awp_cond_f; focus (simp [-opAppend]; done)) | (refine awp_cond ?_; simp [-opAppend]; refine ⟨?_, ?_⟩ <;> intro hc))
      refine PCalls.use b2 ?_
      (try (first | (with_reducible refine dops_go ?_; simp [-opAppend]) | (with_reducible refine OKv_go ?_; simp [-opAppend]) | (with_reducible refine OKr_go ?_; simp [-opAppend]))); repeat' (first | refine awp_seq ?_ | refine awp_block ?_ | (refine awp_skip ?_; try simp) | (refine awp_exit ?_; try simp) | (refine awp_ret ?_; try simp) | (refine awp_reg ?_; simp [-opAppend]) | (refine awp_drawT (fun _ => false) mixed (by decide +kernel) ?_; simp [-opAppend]) | (refine guarded_split ?_ ?_ <;> (intro hg; simp only [hg]; simp [-opAppend])) | (apply awp_cond_t; focus (simp [-opAppend]; done)) | (apply awp_cond_f; focus (simp [-opAppend]; done)) | (refine awp_cond ?_; simp [-opAppend]; refine ⟨?_, ?_⟩ <;> intro hc))
      refine PCalls.use s1 ?_
      (try (first | (with_reducible refine dops_go ?_; simp [-opAppend]) | (with_reducible refine OKv_go ?_; simp [-opAppend]) | (with_reducible refine OKr_go ?_; simp [-opAppend]))); repeat' (first | refine awp_seq ?_ | refine awp_block ?_ | (refine awp_skip ?_; try simp) | (refine awp_exit ?_; try simp) | (refine awp_ret ?_; try simp) | (refine awp_reg ?_; simp [-opAppend]) | (refine awp_drawT (fun _ => false) mixed (by decide +kernel) ?_; simp [-opAppend]) | (refine guarded_split ?_ ?_ <;> (intro hg; simp only [hg]; simp [-opAppend])) | (apply awp_cond_t; focus (simp [-opAppend]; done)) | (apply awp_cond_f; focus (simp [-opAppend]; done)) | (refine awp_cond ?_; simp [-opAppend]; refine ⟨?_, ?_⟩ <;> intro hc))
      refine PCalls.use b3 ?_
      (try (first | (with_reducible refine dops_go ?_; simp [-opAppend]) | (with_reducible refine OKv_go ?_; simp [-opAppend]) | (with_reducible refine OKr_go ?_; simp [-opAppend]))); repeat' (first | refine awp_seq ?_ | refine awp_block ?_ | (refine awp_skip ?_; try simp) | (refine awp_exit ?_; try simp) | (refine awp_ret ?_; try simp) | (refine awp_reg ?_; simp [-opAppend]) | (refine awp_drawT (fun _ => false) mixed (by decide +kernel) ?_; simp [-opAppend]) | (refine guarded_split ?_ ?_ <;> (intro hg; simp only [hg]; simp [-opAppend])) | (apply awp_cond_t; focus (simp [-opAppend]; done)) | (apply awp_cond_f; focus (simp [-opAppend]; done)) | (refine awp_cond ?_; simp [-opAppend]; refine ⟨?_, ?_⟩ <;> intro hc))
      refine PCalls.use b4 ?_
      (try (first | (with_reducible refine dops_go ?_; simp [-opAppend]) | (with_reducible refine OKv_go ?_; simp [-opAppend]) | (with_reducible refine OKr_go ?_; simp [-opAppend]))); repeat' (first | refine awp_seq ?_ | refine awp_block ?_ | (refine awp_skip ?_; try simp) | (refine awp_exit ?_; try simp) | (refine awp_ret ?_; try simp) | (refine awp_reg ?_; simp [-opAppend]) | (refine awp_drawT (fun _ => false) mixed (by decide +kernel) ?_; simp [-opAppend]) | (refine guarded_split ?_ ?_ <;> (intro hg; simp only [hg]; simp [-opAppend])) | (apply awp_cond_t; focus (simp [-opAppend]; done)) | (apply awp_cond_f; focus (simp [-opAppend]; done)) | (refine awp_cond ?_; simp [-opAppend]; refine ⟨?_, ?_⟩ <;> intro hc))
      refine PCalls.use s2 ?_
      (try (first | (with_reducible refine dops_go ?_; simp [-opAppend]) | (with_reducible refine OKv_go ?_; simp [-opAppend]) | (with_reducible refine OKr_go ?_; simp [-opAppend]))); repeat' (first | refine awp_seq ?_ | refine awp_block ?_ | (refine awp_skip ?_; try simp) | (refine awp_exit ?_; try simp) | (refine awp_ret ?_; try simp) | (refine awp_reg ?_; simp [-opAppend]) | (refine awp_drawT (fun _ => false) mixed (by decide +kernel) ?_; simp [-opAppend]) | (refine guarded_split ?_ ?_ <;> (intro hg; simp only [hg]; simp [-opAppend])) | (apply awp_cond_t; focus (simp [-opAppend]; done)) | (apply awp_cond_f; focus (simp [-opAppend]; done)) | (refine awp_cond ?_; simp [-opAppend]; refine ⟨?_, ?_⟩ <;> intro hc))
      refine PCalls.use b5 ?_
      (try (first | (with_reducible refine dops_go ?_; simp [-opAppend]) | (with_reducible refine OKv_go ?_; simp [-opAppend]) | (with_reducible refine OKr_go ?_; simp [-opAppend]))); repeat' (first | refine awp_seq ?_ | refine awp_block ?_ | (refine awp_skip ?_; try simp) | (refine awp_exit ?_; try simp) | (refine awp_ret ?_; try simp) | (refine awp_reg ?_; simp [-opAppend]) | (refine awp_drawT (fun _ => false) mixed (by decide +kernel) ?_; simp [-opAppend]) | (refine guarded_split ?_ ?_ <;> (intro hg; simp only [hg]; simp [-opAppend])) | (apply awp_cond_t; focus (simp [-opAppend]; done)) | (apply awp_cond_f; focus (simp [-opAppend]; done)) | (refine awp_cond ?_; simp [-opAppend]; refine ⟨?_, ?_⟩ <;> intro hc))
      refine PCalls.use b6 ?_
      (try (first | (with_reducible refine dops_go ?_; simp [-opAppend]) | (with_reducible refine OKv_go ?_; simp [-opAppend]) | (with_reducible refine OKr_go ?_; simp [-opAppend]))); repeat' (first | refine awp_seq ?_ | refine awp_block ?_ | (refine awp_skip ?_; try simp) | (refine awp_exit ?_; try simp) | (refine awp_ret ?_; try simp) | (refine awp_reg ?_; simp [-opAppend]) | (refine awp_drawT (fun _ => false) mixed (by decide +kernel) ?_; simp [-opAppend]) | (refine guarded_split ?_ ?_ <;> (intro hg; simp only [hg]; simp [-opAppend])) | (apply awp_cond_t; focus (simp [-opAppend]; done)) | (apply awp_cond_f; focus (simp [-opAppend]; done)) | (refine awp_cond ?_; simp [-opAppend]; refine ⟨?_, ?_⟩ <;> intro hc))
      refine PCalls.use s3 ?_
      (try (first | (with_reducible refine dops_go ?_; simp [-opAppend]) | (with_reducible refine OKv_go ?_; simp [-opAppend]) | (with_reducible refine OKr_go ?_; simp [-opAppend]))); repeat' (first | refine awp_seq ?_ | refine awp_block ?_ | (refine awp_skip ?_; try simp) | (refine awp_exit ?_; try simp) | (refine awp_ret ?_; try simp) | (refine awp_reg ?_; simp [-opAppend]) | (refine awp_drawT (fun _ => false) mixed (by decide +kernel) ?_; simp [-opAppend]) | (refine guarded_split ?_ ?_ <;> (intro hg; simp only [hg]; simp [-opAppend])) | (apply awp_cond_t; focus (simp [-opAppend]; done)) | (apply awp_cond_f; focus (simp [-opAppend]; done)) | (refine awp_cond ?_; simp [-opAppend]; refine ⟨?_, ?_⟩ <;> intro hc))
      refine PCalls.use alive_calls ?_
      (try (first | (with_reducible refine dops_go ?_; simp [-opAppend]) | (with_reducible refine OKv_go ?_; simp [-opAppend]) | (with_reducible refine OKr_go ?_; simp [-opAppend]))); repeat' (first | refine awp_seq ?_ | refine awp_block ?_ | (refine awp_skip ?_; try simp) | (refine awp_exit ?_; try simp) | (refine awp_ret ?_; try simp) | (refine awp_reg ?_; simp [-opAppend]) | (refine awp_drawT (fun _ => false) mixed (by decide +kernel) ?_; simp [-opAppend]) | (refine guarded_split ?_ ?_ <;> (intro hg; simp only [hg]; simp [-opAppend])) | (apply awp_cond_t; focus (simp [-opAppend]; done)) | (apply awp_cond_f; focus (simp [-opAppend]; done)) | (refine awp_cond ?_; simp [-opAppend]; refine ⟨?_, ?_⟩ <;> intro hc))
      refine s4.useLent rfl hO1 ?_
      (try (first | (with_reducible refine dops_go ?_; simp [-opAppend]) | (with_reducible refine OKv_go ?_; simp [-opAppend]) | (with_reducible refine OKr_go ?_; simp [-opAppend]))); repeat' (first | refine awp_seq ?_ | refine awp_block ?_ | (refine awp_skip ?_; try simp) | (refine awp_exit ?_; try simp) | (refine awp_ret ?_; try simp) | (refine awp_reg ?_; simp [-opAppend]) | (refine awp_drawT (fun _ => false) mixed (by decide +kernel) ?_; simp [-opAppend]) | (refine guarded_split ?_ ?_ <;> (intro hg; simp only [hg]; simp [-opAppend])) | (apply awp_cond_t; focus (simp [-opAppend]; done)) | (apply awp_cond_f; focus (simp [-opAppend]; done)) | (refine awp_cond ?_; simp [-opAppend]; refine ⟨?_, ?_⟩ <;> intro hc))
      refine s5.useLent rfl hO2 ?_
      (try (first | (with_reducible refine dops_go ?_; simp [-opAppend]) | (with_reducible refine OKv_go ?_; simp [-opAppend]) | (with_reducible refine OKr_go ?_; simp [-opAppend]))); repeat' (first | refine awp_seq ?_ | refine awp_block ?_ | (refine awp_skip ?_; try simp) | (refine awp_exit ?_; try simp) | (refine awp_ret ?_; try simp) | (refine awp_reg ?_; simp [-opAppend]) | (refine awp_drawT (fun _ => false) mixed (by decide +kernel) ?_; simp [-opAppend]) | (refine guarded_split ?_ ?_ <;> (intro hg; simp only [hg]; simp [-opAppend])) | (apply awp_cond_t; focus (simp [-opAppend]; done)) | (apply awp_cond_f; focus (simp [-opAppend]; done)) | (refine awp_cond ?_; simp [-opAppend]; refine ⟨?_, ?_⟩ <;> intro hc))
      exact retP_flat (rv := .raw (.bool true)) (.inr rfl) rfl hE (by simp)
    · rw [hp] at f1
      rw [Bool.not_eq_true] at hq
      rw [hq] at f2
      (try (first | (with_reducible refine dops_go ?_; simp) | (with_reducible refine OKv_go ?_; simp) | (with_reducible refine OKr_go ?_; simp))); repeat' (first | refine awp_seq ?_ | refine awp_block ?_ | (refine awp_skip ?_; try simp) | (refine awp_exit ?_; try simp) | (refine awp_ret ?_; try simp) | (refine retP_same (by simp) ?_; simp) | (refine retP_flat (by simp) (by simp) (by simp) ?_; simp) | (refine awp_reg ?_; simp) | (refine awp_drawT (fun _ => false) mixed (by decide +kernel) ?_; simp) | (refine guarded_split ?_ ?_ <;> (intro hg; simp only [hg]; simp)) | (apply awp_cond_t; focus (simp; done)) | (apply awp_cond_f; focus (simp; done)) | (refine awp_cond ?_; simp; refine ⟨?_, ?_⟩ <;> intro hc))
      refine PCalls.use f1 ?_
      (try (first | (with_reducible refine dops_go ?_; simp) | (with_reducible refine OKv_go ?_; simp) | (with_reducible refine OKr_go ?_; simp))); repeat' (first | refine awp_seq ?_ | refine awp_block ?_ | (refine awp_skip ?_; try simp) | (refine awp_exit ?_; try simp) | (refine awp_ret ?_; try simp) | (refine retP_same (by simp) ?_; simp) | (refine retP_flat (by simp) (by simp) (by simp) ?_; simp) | (refine awp_reg ?_; simp) | (refine awp_drawT (fun _ => false) mixed (by decide +kernel) ?_; simp) | (refine guarded_split ?_ ?_ <;> (intro hg; simp only [hg]; simp)) | (apply awp_cond_t; focus (simp; done)) | (apply awp_cond_f; focus (simp; done)) | (refine awp_cond ?_; simp; refine ⟨?_, ?_⟩ <;> intro hc))
      refine PCalls.use f2 ?_
      (try (first | (with_reducible refine dops_go ?_; simp) | (with_reducible refine OKv_go ?_; simp) | (with_reducible refine OKr_go ?_; simp))); repeat' (first | refine awp_seq ?_ | refine awp_block ?_ | (refine awp_skip ?_; try simp) | (refine awp_exit ?_; try simp) | (refine awp_ret ?_; try simp) | (refine retP_same (by simp) ?_; simp) | (refine retP_flat (by simp) (by simp) (by simp) ?_; simp) | (refine awp_reg ?_; simp) | (refine awp_drawT (fun _ => false) mixed (by decide +kernel) ?_; simp) | (refine guarded_split ?_ ?_ <;> (intro hg; simp only [hg]; simp)) | (apply awp_cond_t; focus (simp; done)) | (apply awp_cond_f; focus (simp; done)) | (refine awp_cond ?_; simp; refine ⟨?_, ?_⟩ <;> intro hc))
      refine PCalls.use alive_calls ?_
      (try (first | (with_reducible refine dops_go ?_; simp) | (with_reducible refine OKv_go ?_; simp) | (with_reducible refine OKr_go ?_; simp))); repeat' (first | refine awp_seq ?_ | refine awp_block ?_ | (refine awp_skip ?_; try simp) | (refine awp_exit ?_; try simp) | (refine awp_ret ?_; try simp) | (refine retP_same (by simp) ?_; simp) | (refine retP_flat (by simp) (by simp) (by simp) ?_; simp) | (refine awp_reg ?_; simp) | (refine awp_drawT (fun _ => false) mixed (by decide +kernel) ?_; simp) | (refine guarded_split ?_ ?_ <;> (intro hg; simp only [hg]; simp)) | (apply awp_cond_t; focus (simp; done)) | (apply awp_cond_f; focus (simp; done)) | (refine awp_cond ?_; simp; refine ⟨?_, ?_⟩ <;> intro hc))
  · rw [Bool.not_eq_true] at hp
    rw [hp] at f1
    (try (first | (with_reducible refine dops_go ?_; simp) | (with_reducible refine OKv_go ?_; simp) | (with_reducible refine OKr_go ?_; simp))); repeat' (first | refine awp_seq ?_ | refine awp_block ?_ | (refine awp_skip ?_; try simp) | (refine awp_exit ?_; try simp) | (refine awp_ret ?_; try simp) | (refine retP_same (by simp) ?_; simp) | (refine retP_flat (by simp) (by simp) (by simp) ?_; simp) | (refine awp_reg ?_; simp) | (refine awp_drawT (fun _ => false) mixed (by decide +kernel) ?_; simp) | (refine guarded_split ?_ ?_ <;> (intro hg; simp only [hg]; simp)) | (apply awp_cond_t; focus (simp; done)) | (apply awp_cond_f; focus (simp; done)) | (refine awp_cond ?_; simp; refine ⟨?_, ?_⟩ <;> intro hc))
    refine PCalls.use f1 ?_
    (try (first | (with_reducible refine dops_go ?_; simp) | (with_reducible refine OKv_go ?_; simp) | (with_reducible refine OKr_go ?_; simp))); repeat' (first | refine awp_seq ?_ | refine awp_block ?_ | (refine awp_skip ?_; try simp) | (refine awp_exit ?_; try simp) | (refine awp_ret ?_; try simp) | (refine retP_same (by simp) ?_; simp) | (refine retP_flat (by simp) (by simp) (by simp) ?_; simp) | (refine awp_reg ?_; simp) | (refine awp_drawT (fun _ => false) mixed (by decide +kernel) ?_; simp) | (refine guarded_split ?_ ?_ <;> (intro hg; simp only [hg]; simp)) | (apply awp_cond_t; focus (simp; done)) | (apply awp_cond_f; focus (simp; done)) | (refine awp_cond ?_; simp; refine ⟨?_, ?_⟩ <;> intro hc))
    refine PCalls.use f2 ?_
    (try (first | (with_reducible refine dops_go ?_; simp) | (with_reducible refine OKv_go ?_; simp) | (with_reducible refine OKr_go ?_; simp))); repeat' (first | refine awp_seq ?_ | refine awp_block ?_ | (refine awp_skip ?_; try simp) | (refine awp_exit ?_; try simp) | (refine awp_ret ?_; try simp) | (refine retP_same (by simp) ?_; simp) | (refine retP_flat (by simp) (by simp) (by simp) ?_; simp) | (refine awp_reg ?_; simp) | (refine awp_drawT (fun _ => false) mixed (by decide +kernel) ?_; simp) | (refine guarded_split ?_ ?_ <;> (intro hg; simp only [hg]; simp)) | (apply awp_cond_t; focus (simp; done)) | (apply awp_cond_f; focus (simp; done)) | (refine awp_cond ?_; simp; refine ⟨?_, ?_⟩ <;> intro hc))
    refine PCalls.use alive_calls ?_
    (try (first | (with_reducible refine dops_go ?_; simp) | (with_reducible refine OKv_go ?_; simp) | (with_reducible refine OKr_go ?_; simp))); repeat' (first | refine awp_seq ?_ | refine awp_block ?_ | (refine awp_skip ?_; try simp) | (refine awp_exit ?_; try simp) | (refine awp_ret ?_; try simp) | (refine retP_same (by simp) ?_; simp) | (refine retP_flat (by simp) (by simp) (by simp) ?_; simp) | (refine awp_reg ?_; simp) | (refine awp_drawT (fun _ => false) mixed (by decide +kernel) ?_; simp) | (refine guarded_split ?_ ?_ <;> (intro hg; simp only [hg]; simp)) | (apply awp_cond_t; focus (simp; done)) | (apply awp_cond_f; focus (simp; done)) | (refine awp_cond ?_; simp; refine ⟨?_, ?_⟩ <;> intro hc))

theorem hasB_mz {z w : List Rg} {a : Int} (h : MZ z a ↔ MZ w a) : hasB z a = hasB w a := by
  rw [Bool.eq_iff_iff, hasB_iff, hasB_iff]; exact h
theorem hasB_and {n m : Nat} {x y : List Rg} (h : Good n x) (k : Good m y) (a : Int) : hasB (andZ x y) a = (hasB x a && hasB y a) := by
  obtain ⟨_, k2, _, _⟩ := andZ_spec _ x y (-1) (-1) (Nat.le_refl _) h.rz k.rz
  rw [Bool.eq_iff_iff, Bool.and_eq_true, hasB_iff, hasB_iff, hasB_iff]; exact k2 a
theorem hasB_app (x y : List Rg) (a : Int) : hasB (x ++ y) a = (hasB x a || hasB y a) := by simp [hasB]
theorem hasB_of {l : List Rg} (hz : InZ l) (a : Int) : hasB (refOfZ l) a = hasB l a := hasB_mz ((refOfZ_spec hz).2.1 a)
theorem hasB_not {n : Nat} {y : List Rg} (k : Good n y) (a : Int) (ha : 0 ≤ a ∧ a < 4294967296) : hasB (notZ 0 y) a = !hasB y a := by
  obtain ⟨_, n2, _, _⟩ := notZ_spec y 0 (by simpa using k.rz) k.inz (Int.le_refl _)
  rw [Bool.eq_iff_iff, hasB_iff, n2, Bool.not_eq_true', ← hasB_iff, Bool.not_eq_true]
  exact ⟨fun h => h.2, fun h => ⟨ha, h⟩⟩
theorem hasB_all (a : Int) (ha : 0 ≤ a ∧ a < 4294967296) : hasB allZ a = true := by
  rw [hasB_iff]; exact ⟨⟨0, 4294967295⟩, by simp [allZ], ha.1, by simp only []; omega⟩

theorem lawHas_calls (x y : List Rg) (fx fy : Bool) (a : Int) (ha : 0 ≤ a ∧ a < 4294967296) (hx : InZ x) (hy : InZ y) (hlx : x.length < 2 ^ 50) (hly : y.length < 2 ^ 50) : PCalls Try.prog 6 [zAV x fx, zAV y fy, .raw (.int .u32 a)] (.raw (.bool true)) := by
  refine pbody Try.func6 rfl (N := 122) rfl rfl (by simp) (by simp [noIds]) fun σ => ?_
  have f1 := fits_calls x fx hx (by omega)
  have f2 := fits_calls y fy hy (by omega)
  by_cases hp : decide (x.length ≤ 40) && rightB x
  · by_cases hq : decide (y.length ≤ 40) && rightB y
    · rw [hp] at f1
      rw [hq] at f2
      rw [Bool.and_eq_true, decide_eq_true_eq] at hp hq
      have gx := good_of hx hp.1 hp.2
      have gy := good_of hy hq.1 hq.2
      have hin : InZ (y ++ x) := fun r hr => (List.mem_append.1 hr).elim (hy r) (hx r)
      have hord : ∀ r ∈ y ++ x, r.lo ≤ r.hi := fun r hr => (List.mem_append.1 hr).elim (gy.rz.ord r) (gx.rz.ord r)
      have h1 := zoneHas_calls fx a gx (by omega)
      have h2 := zoneHas_calls fy a gy (by omega)
      have h3 := zoneOf_calls (y ++ x) false hin (by have := hp.1; have := hq.1; simp; omega)
      rw [ofAV_ok hord] at h3
      have h4 := zoneHas_calls false a (good_or gy gx) (by omega)
      rw [hasB_of hin, hasB_app] at h4
      have b1 := zoneAnd_calls fx fy gx gy (by omega)
      have b2 := zoneHas_calls false a (good_and gx gy) (by omega)
      rw [hasB_and gx gy] at b2
      have b3 := zoneOr_calls fx fy gx gy (by omega)
      have b4 := zoneHas_calls false a (good_or gx gy) (by omega)
      rw [hasB_of (fun r hr => (List.mem_append.1 hr).elim (hx r) (hy r)), hasB_app] at b4
      have b5 := zoneMinus_calls fx fy gx gy (by omega)
      have b6 := zoneHas_calls false a (good_and gx (good_not gy)) (by omega)
      rw [hasB_and gx (good_not gy), hasB_not gy a ha] at b6
      have b7 := zoneHas_calls false a good_all (by omega)
      rw [hasB_all a ha] at b7
      (try (first | (with_reducible refine dops_go ?_; simp [-opAppend]) | (with_reducible refine OKv_go ?_; simp [-opAppend]) | (with_reducible refine OKr_go ?_; simp [-opAppend]))); repeat' (first | refine awp_seq ?_ | refine awp_block ?_ | (refine awp_skip ?_; try simp) | (refine awp_exit ?_; try simp) | (refine awp_ret ?_; try simp) | (refine awp_reg ?_; simp [-opAppend]) | (refine awp_drawT (fun _ => false) mixed (by decide +kernel) ?_; simp [-opAppend]) | (refine guarded_split ?_ ?_ <;> (intro hg; simp only [hg]; simp [-opAppend])) | (apply awp_cond_t; focus (simp [-opAppend]; done)) | (apply awp_cond_f; focus (simp [-opAppend]; done)) | (refine awp_cond ?_; simp [-opAppend]; refine ⟨?_, ?_⟩ <;> intro hc))
      refine PCalls.use f1 ?_
      (try (first | (with_reducible refine dops_go ?_; simp [-opAppend]) | (with_reducible refine OKv_go ?_; simp [-opAppend]) | (with_reducible refine OKr_go ?_; simp [-opAppend]))); repeat' (first | refine awp_seq ?_ | refine awp_block ?_ | (refine awp_skip ?_; try simp) | (refine awp_exit ?_; try simp) | (refine awp_ret ?_; try simp) | (refine awp_reg ?_; simp [-opAppend]) | (refine awp_drawT (fun _ => false) mixed (by decide +kernel) ?_; simp [-opAppend]) | (refine guarded_split ?_ ?_ <;> (intro hg; simp only [hg]; simp [-opAppend])) | (apply awp_cond_t; focus (simp [-opAppend]; done)) | (apply awp_cond_f; focus (simp [-opAppend]; done)) | (refine awp_cond ?_; simp [-opAppend]; refine ⟨?_, ?_⟩ <;> intro hc))
      refine PCalls.use f2 ?_
      (try (first | (with_reducible refine dops_go ?_; simp [-opAppend]) | (with_reducible refine OKv_go ?_; simp [-opAppend]) | (with_reducible refine OKr_go ?_; simp [-opAppend]))); repeat' (first | refine awp_seq ?_ | refine awp_block ?_ | (refine awp_skip ?_; try simp) | (refine awp_exit ?_; try simp) | (refine awp_ret ?_; try simp) | (refine awp_reg ?_; simp [-opAppend]) | (refine awp_drawT (fun _ => false) mixed (by decide +kernel) ?_; simp [-opAppend]) | (refine guarded_split ?_ ?_ <;> (intro hg; simp only [hg]; simp [-opAppend])) | (apply awp_cond_t; focus (simp [-opAppend]; done)) | (apply awp_cond_f; focus (simp [-opAppend]; done)) | (refine awp_cond ?_; simp [-opAppend]; refine ⟨?_, ?_⟩ <;> intro hc))
      refine PCalls.use h1 ?_
      (try (first | (with_reducible refine dops_go ?_; simp [-opAppend]) | (with_reducible refine OKv_go ?_; simp [-opAppend]) | (with_reducible refine OKr_go ?_; simp [-opAppend]))); repeat' (first | refine awp_seq ?_ | refine awp_block ?_ | (refine awp_skip ?_; try simp) | (refine awp_exit ?_; try simp) | (refine awp_ret ?_; try simp) | (refine awp_reg ?_; simp [-opAppend]) | (refine awp_drawT (fun _ => false) mixed (by decide +kernel) ?_; simp [-opAppend]) | (refine guarded_split ?_ ?_ <;> (intro hg; simp only [hg]; simp [-opAppend])) | (apply awp_cond_t; focus (simp [-opAppend]; done)) | (apply awp_cond_f; focus (simp [-opAppend]; done)) | (refine awp_cond ?_; simp [-opAppend]; refine ⟨?_, ?_⟩ <;> intro hc))
      refine PCalls.use h2 ?_
      (try (first | (with_reducible refine dops_go ?_; simp [-opAppend]) | (with_reducible refine OKv_go ?_; simp [-opAppend]) | (with_reducible refine OKr_go ?_; simp [-opAppend]))); repeat' (first | refine awp_seq ?_ | refine awp_block ?_ | (refine awp_skip ?_; try simp) | (refine awp_exit ?_; try simp) | (refine awp_ret ?_; try simp) | (refine awp_reg ?_; simp [-opAppend]) | (refine awp_drawT (fun _ => false) mixed (by decide +kernel) ?_; simp [-opAppend]) | (refine guarded_split ?_ ?_ <;> (intro hg; simp only [hg]; simp [-opAppend])) | (apply awp_cond_t; focus (simp [-opAppend]; done)) | (apply awp_cond_f; focus (simp [-opAppend]; done)) | (refine awp_cond ?_; simp [-opAppend]; refine ⟨?_, ?_⟩ <;> intro hc))
      refine okr_copy (f := fy) (by omega) 33 fun v1 τ1 hO1 hE1 => ?_
      (try (first | (with_reducible refine dops_go ?_; simp [-opAppend]) | (with_reducible refine OKv_go ?_; simp [-opAppend]) | (with_reducible refine OKr_go ?_; simp [-opAppend]))); repeat' (first | refine awp_seq ?_ | refine awp_block ?_ | (refine awp_skip ?_; try simp) | (refine awp_exit ?_; try simp) | (refine awp_ret ?_; try simp) | (refine awp_reg ?_; simp [-opAppend]) | (refine awp_drawT (fun _ => false) mixed (by decide +kernel) ?_; simp [-opAppend]) | (refine guarded_split ?_ ?_ <;> (intro hg; simp only [hg]; simp [-opAppend])) | (apply awp_cond_t; focus (simp [-opAppend]; done)) | (apply awp_cond_f; focus (simp [-opAppend]; done)) | (refine awp_cond ?_; simp [-opAppend]; refine ⟨?_, ?_⟩ <;> intro hc))
      refine okr_append slt22 hO1 hE1 (ys := x.map rgAV) (by simp [zAV]) (.inr rfl) (ok_map x) (by simp; omega) ?_
      intro v2 τ2 hO2 hE2 _ _
      rw [← List.map_append] at hO2
      (try (first | (with_reducible refine dops_go ?_; simp [-opAppend]) | (with_reducible refine OKv_go ?_; simp [-opAppend]) | (with_reducible refine OKr_go ?_; simp [-opAppend])))
      refine awp_settle 11 (n := 2) (es := (y ++ x).map rgAV) (by simp only [put_eq (show 11 < 122 by decide)]; exact hO2) hE2 ?_
      rintro A τ hE a11 hflat - - - -
      have a0 : A 0 = zAV x fx := (hflat 0 (by decide) (by simp [zAV])).trans (by simp)
      have a1 : A 1 = zAV y fy := (hflat 1 (by decide) (by simp [zAV])).trans (by simp)
      have a2 : A 2 = .raw (.int .u32 a) := (hflat 2 (by decide) (by simp)).trans (by simp)
      have a9 : A 9 = .raw (.bool (hasB x a)) := (hflat 9 (by decide) (by simp)).trans (by simp)
      have a10 : A 10 = .raw (.bool (hasB y a)) := (hflat 10 (by decide) (by simp)).trans (by simp)
      have a11 : A 11 = zAV (y ++ x) false := a11
      clear hflat hO1 hO2 hE1 hE2
      (try (first | (with_reducible refine dops_go ?_; simp [a11]) | (with_reducible refine OKv_go ?_; simp [a11]) | (with_reducible refine OKr_go ?_; simp [a11]))); repeat' (first | refine awp_seq ?_ | refine awp_block ?_ | (refine awp_skip ?_; try simp) | (refine awp_exit ?_; try simp) | (refine awp_ret ?_; try simp) | (refine retP_same (by simp) ?_; simp) | (refine retP_flat (by simp) (by simp) (by simp [a11]) ?_; simp) | (refine awp_reg ?_; simp [a11]) | (refine awp_drawT (fun _ => false) mixed (by decide +kernel) ?_; simp [a11]) | (refine guarded_split ?_ ?_ <;> (intro hg; simp only [hg]; simp [a11])) | (apply awp_cond_t; focus (simp [a11]; done)) | (apply awp_cond_f; focus (simp [a11]; done)) | (refine awp_cond ?_; simp [a11]; refine ⟨?_, ?_⟩ <;> intro hc))
      refine PCalls.use h3 ?_
      (try (first | (with_reducible refine dops_go ?_; simp [a0, a1, a2, a9, a10, a11]) | (with_reducible refine OKv_go ?_; simp [a0, a1, a2, a9, a10, a11]) | (with_reducible refine OKr_go ?_; simp [a0, a1, a2, a9, a10, a11]))); repeat' (first | refine awp_seq ?_ | refine awp_block ?_ | (refine awp_skip ?_; try simp) | (refine awp_exit ?_; try simp) | (refine awp_ret ?_; try simp) | (refine retP_same (by simp) ?_; simp) | (refine retP_flat (by simp) (by simp) (by simp [a0, a1, a2, a9, a10, a11]) ?_; simp) | (refine awp_reg ?_; simp [a0, a1, a2, a9, a10, a11]) | (refine awp_drawT (fun _ => false) mixed (by decide +kernel) ?_; simp [a0, a1, a2, a9, a10, a11]) | (refine guarded_split ?_ ?_ <;> (intro hg; simp only [hg]; simp [a0, a1, a2, a9, a10, a11])) | (apply awp_cond_t; focus (simp [a0, a1, a2, a9, a10, a11]; done)) | (apply awp_cond_f; focus (simp [a0, a1, a2, a9, a10, a11]; done)) | (refine awp_cond ?_; simp [a0, a1, a2, a9, a10, a11]; refine ⟨?_, ?_⟩ <;> intro hc))
      refine awp_block_cutH (fun A τ' => A 0 = zAV x fx ∧ A 1 = zAV y fy ∧ A 2 = .raw (.int .u32 a) ∧ A 9 = .raw (.bool (hasB x a)) ∧ A 10 = .raw (.bool (hasB y a)) ∧ A 12 = zAV (refOfZ (y ++ x)) false ∧ A 13 = .raw (.int .i64 0) ∧ A 14 = .raw (.bool (hasB (y ++ x) a)) ∧ τ' = τ) ?_ ?_
      · intro R1 hR1
        generalize hal : y ++ x = al at *
        have hall : al.length ≤ 80 := by have := hp.1; have := hq.1; rw [← hal]; simp; omega
        refine awp_loopH (fun n A τ' => ∃ i : Nat, A 0 = zAV x fx ∧ A 1 = zAV y fy ∧ A 2 = .raw (.int .u32 a) ∧ A 9 = .raw (.bool (hasB x a)) ∧ A 10 = .raw (.bool (hasB y a)) ∧ A 11 = zAV al false ∧ A 12 = zAV (refOfZ al) false ∧ A 13 = .raw (.int .i64 0) ∧ A 14 = .raw (.bool (hasB (al.take i) a)) ∧ A 15 = .raw (.int .i64 i) ∧ τ' = τ ∧ i ≤ al.length ∧ n = al.length - i) al.length ?_ ?_
        · exact ⟨0, by simp [a0], by simp [a1], by simp [a2], by simp [a9], by simp [a10], by simp [a11], by simp, by simp, by simp [hasB], by simp, rfl, by omega, by omega⟩
        clear a0 a1 a2 a9 a10 a11
        rintro n A τ' ⟨i, a0, a1, a2, a9, a10, a11, a12, a13, a14, a15, rfl, hi, rfl⟩ I1 hI1
        by_cases hlt : i < al.length
        · have hx' : al[i]? = some al[i] := List.getElem?_eq_getElem hlt
          have hst := hasB_step (a := a) hx'
          have w1 : IntKind.i64.wrap ((i : Int) + 1) = ((i + 1 : Nat) : Int) := by rw [wrap64 (by omega) (by omega)]; omega
          cases hb : hasB (al.take i) a with
          | true =>
            rw [hb] at a14 hst
            (try (first | (with_reducible refine dops_go ?_; simp [a0, a1, a2, a9, a10, a11, a12, a13, a14, a15, zAV, hlt, w1]) | (with_reducible refine OKv_go ?_; simp [a0, a1, a2, a9, a10, a11, a12, a13, a14, a15, zAV, hlt, w1]) | (with_reducible refine OKr_go ?_; simp [a0, a1, a2, a9, a10, a11, a12, a13, a14, a15, zAV, hlt, w1]))); repeat' (first | refine awp_seq ?_ | refine awp_block ?_ | (refine awp_skip ?_; try simp) | (refine awp_exit ?_; try simp) | (refine awp_ret ?_; try simp) | (refine retP_same (by simp) ?_; simp) | (refine retP_flat (by simp) (by simp) (by simp [a0, a1, a2, a9, a10, a11, a12, a13, a14, a15, zAV, hlt, w1]) ?_; simp) | (refine awp_reg ?_; simp [a0, a1, a2, a9, a10, a11, a12, a13, a14, a15, zAV, hlt, w1]) | (refine awp_drawT (fun _ => false) mixed (by decide +kernel) ?_; simp [a0, a1, a2, a9, a10, a11, a12, a13, a14, a15, zAV, hlt, w1]) | (refine guarded_split ?_ ?_ <;> (intro hg; simp only [hg]; simp [a0, a1, a2, a9, a10, a11, a12, a13, a14, a15, zAV, hlt, w1])) | (apply awp_cond_t; focus (simp [a0, a1, a2, a9, a10, a11, a12, a13, a14, a15, zAV, hlt, w1]; done)) | (apply awp_cond_f; focus (simp [a0, a1, a2, a9, a10, a11, a12, a13, a14, a15, zAV, hlt, w1]; done)) | (refine awp_cond ?_; simp [a0, a1, a2, a9, a10, a11, a12, a13, a14, a15, zAV, hlt, w1]; refine ⟨?_, ?_⟩ <;> intro hc))
            exact hI1 (al.length - (i + 1)) _ _ (by omega) ⟨i + 1, by simp [a0, zAV], by simp [a1, zAV], by simp [a2], by simp [a9], by simp [a10], by simp [a11, zAV], by simp [a12, zAV], by simp [a13], by simp [hst], by simp, rfl, by omega, rfl⟩
          | false =>
            rw [hb] at a14 hst
            by_cases q1 : al[i].lo ≤ a
            · (try (first | (with_reducible refine dops_go ?_; simp [a0, a1, a2, a9, a10, a11, a12, a13, a14, a15, zAV, rgAV, hlt, hx', w1, q1]) | (with_reducible refine OKv_go ?_; simp [a0, a1, a2, a9, a10, a11, a12, a13, a14, a15, zAV, rgAV, hlt, hx', w1, q1]) | (with_reducible refine OKr_go ?_; simp [a0, a1, a2, a9, a10, a11, a12, a13, a14, a15, zAV, rgAV, hlt, hx', w1, q1]))); repeat' (first | refine awp_seq ?_ | refine awp_block ?_ | (refine awp_skip ?_; try simp) | (refine awp_exit ?_; try simp) | (refine awp_ret ?_; try simp) | (refine retP_same (by simp) ?_; simp) | (refine retP_flat (by simp) (by simp) (by simp [a0, a1, a2, a9, a10, a11, a12, a13, a14, a15, zAV, rgAV, hlt, hx', w1, q1]) ?_; simp) | (refine awp_reg ?_; simp [a0, a1, a2, a9, a10, a11, a12, a13, a14, a15, zAV, rgAV, hlt, hx', w1, q1]) | (refine awp_drawT (fun _ => false) mixed (by decide +kernel) ?_; simp [a0, a1, a2, a9, a10, a11, a12, a13, a14, a15, zAV, rgAV, hlt, hx', w1, q1]) | (refine guarded_split ?_ ?_ <;> (intro hg; simp only [hg]; simp [a0, a1, a2, a9, a10, a11, a12, a13, a14, a15, zAV, rgAV, hlt, hx', w1, q1])) | (apply awp_cond_t; focus (simp [a0, a1, a2, a9, a10, a11, a12, a13, a14, a15, zAV, rgAV, hlt, hx', w1, q1]; done)) | (apply awp_cond_f; focus (simp [a0, a1, a2, a9, a10, a11, a12, a13, a14, a15, zAV, rgAV, hlt, hx', w1, q1]; done)) | (refine awp_cond ?_; simp [a0, a1, a2, a9, a10, a11, a12, a13, a14, a15, zAV, rgAV, hlt, hx', w1, q1]; refine ⟨?_, ?_⟩ <;> intro hc))
              exact hI1 (al.length - (i + 1)) _ _ (by omega) ⟨i + 1, by simp [a0, zAV], by simp [a1, zAV], by simp [a2], by simp [a9], by simp [a10], by simp [a11, zAV], by simp [a12, zAV], by simp [a13], by simp [hst, q1], by simp, rfl, by omega, rfl⟩
            · (try (first | (with_reducible refine dops_go ?_; simp [a0, a1, a2, a9, a10, a11, a12, a13, a14, a15, zAV, rgAV, hlt, hx', w1, q1]) | (with_reducible refine OKv_go ?_; simp [a0, a1, a2, a9, a10, a11, a12, a13, a14, a15, zAV, rgAV, hlt, hx', w1, q1]) | (with_reducible refine OKr_go ?_; simp [a0, a1, a2, a9, a10, a11, a12, a13, a14, a15, zAV, rgAV, hlt, hx', w1, q1]))); repeat' (first | refine awp_seq ?_ | refine awp_block ?_ | (refine awp_skip ?_; try simp) | (refine awp_exit ?_; try simp) | (refine awp_ret ?_; try simp) | (refine retP_same (by simp) ?_; simp) | (refine retP_flat (by simp) (by simp) (by simp [a0, a1, a2, a9, a10, a11, a12, a13, a14, a15, zAV, rgAV, hlt, hx', w1, q1]) ?_; simp) | (refine awp_reg ?_; simp [a0, a1, a2, a9, a10, a11, a12, a13, a14, a15, zAV, rgAV, hlt, hx', w1, q1]) | (refine awp_drawT (fun _ => false) mixed (by decide +kernel) ?_; simp [a0, a1, a2, a9, a10, a11, a12, a13, a14, a15, zAV, rgAV, hlt, hx', w1, q1]) | (refine guarded_split ?_ ?_ <;> (intro hg; simp only [hg]; simp [a0, a1, a2, a9, a10, a11, a12, a13, a14, a15, zAV, rgAV, hlt, hx', w1, q1])) | (apply awp_cond_t; focus (simp [a0, a1, a2, a9, a10, a11, a12, a13, a14, a15, zAV, rgAV, hlt, hx', w1, q1]; done)) | (apply awp_cond_f; focus (simp [a0, a1, a2, a9, a10, a11, a12, a13, a14, a15, zAV, rgAV, hlt, hx', w1, q1]; done)) | (refine awp_cond ?_; simp [a0, a1, a2, a9, a10, a11, a12, a13, a14, a15, zAV, rgAV, hlt, hx', w1, q1]; refine ⟨?_, ?_⟩ <;> intro hc))
              exact hI1 (al.length - (i + 1)) _ _ (by omega) ⟨i + 1, by simp [a0, zAV], by simp [a1, zAV], by simp [a2], by simp [a9], by simp [a10], by simp [a11, zAV], by simp [a12, zAV], by simp [a13], by simp [hst, q1], by simp, rfl, by omega, rfl⟩
        · have : i = al.length := by omega
          subst this
          rw [List.take_length] at a14
          (try (first | (with_reducible refine dops_go ?_; simp [a0, a1, a2, a9, a10, a11, a12, a13, a14, a15, zAV]) | (with_reducible refine OKv_go ?_; simp [a0, a1, a2, a9, a10, a11, a12, a13, a14, a15, zAV]) | (with_reducible refine OKr_go ?_; simp [a0, a1, a2, a9, a10, a11, a12, a13, a14, a15, zAV]))); repeat' (first | refine awp_seq ?_ | refine awp_block ?_ | (refine awp_skip ?_; try simp) | (refine awp_exit ?_; try simp) | (refine awp_ret ?_; try simp) | (refine retP_same (by simp) ?_; simp) | (refine retP_flat (by simp) (by simp) (by simp [a0, a1, a2, a9, a10, a11, a12, a13, a14, a15, zAV]) ?_; simp) | (refine awp_reg ?_; simp [a0, a1, a2, a9, a10, a11, a12, a13, a14, a15, zAV]) | (refine awp_drawT (fun _ => false) mixed (by decide +kernel) ?_; simp [a0, a1, a2, a9, a10, a11, a12, a13, a14, a15, zAV]) | (refine guarded_split ?_ ?_ <;> (intro hg; simp only [hg]; simp [a0, a1, a2, a9, a10, a11, a12, a13, a14, a15, zAV])) | (apply awp_cond_t; focus (simp [a0, a1, a2, a9, a10, a11, a12, a13, a14, a15, zAV]; done)) | (apply awp_cond_f; focus (simp [a0, a1, a2, a9, a10, a11, a12, a13, a14, a15, zAV]; done)) | (refine awp_cond ?_; simp [a0, a1, a2, a9, a10, a11, a12, a13, a14, a15, zAV]; refine ⟨?_, ?_⟩ <;> intro hc))
          exact hR1 _ _ ⟨by simp [a0, zAV], by simp [a1, zAV], by simp [a2], by simp [a9], by simp [a10], by simp [a12, zAV], by simp [a13], by simp [a14], rfl⟩
      · clear a0 a1 a2 a9 a10 a11
        rintro A τ' ⟨a0, a1, a2, a9, a10, a12, a13, a14, rfl⟩
        rw [hasB_app] at a14
        generalize hasB x a = p at *
        generalize hasB y a = q at *
        cases p <;> cases q
        all_goals
          (try (first | (with_reducible refine dops_go ?_; simp [a0, a1, a2, a9, a10, a12, a13, a14]) | (with_reducible refine OKv_go ?_; simp [a0, a1, a2, a9, a10, a12, a13, a14]) | (with_reducible refine OKr_go ?_; simp [a0, a1, a2, a9, a10, a12, a13, a14]))); repeat' (first | refine awp_seq ?_ | refine awp_block ?_ | (refine awp_skip ?_; try simp) | (refine awp_exit ?_; try simp) | (refine awp_ret ?_; try simp) | (refine awp_reg ?_; simp [a0, a1, a2, a9, a10, a12, a13, a14]) | (refine awp_drawT (fun _ => false) mixed (by decide +kernel) ?_; simp [a0, a1, a2, a9, a10, a12, a13, a14]) | (refine guarded_split ?_ ?_ <;> (intro hg; simp only [hg]; simp [a0, a1, a2, a9, a10, a12, a13, a14])) | (apply awp_cond_t; focus (simp [a0, a1, a2, a9, a10, a12, a13, a14]; done)) | (apply awp_cond_f; focus (simp [a0, a1, a2, a9, a10, a12, a13, a14]; done)) | (refine awp_cond ?_; simp [a0, a1, a2, a9, a10, a12, a13, a14]; refine ⟨?_, ?_⟩ <;> intro hc))
          refine PCalls.use alive_calls ?_
          (try (first | (with_reducible refine dops_go ?_; simp [a0, a1, a2, a9, a10, a12, a13, a14]) | (with_reducible refine OKv_go ?_; simp [a0, a1, a2, a9, a10, a12, a13, a14]) | (with_reducible refine OKr_go ?_; simp [a0, a1, a2, a9, a10, a12, a13, a14]))); repeat' (first | refine awp_seq ?_ | refine awp_block ?_ | (refine awp_skip ?_; try simp) | (refine awp_exit ?_; try simp) | (refine awp_ret ?_; try simp) | (refine awp_reg ?_; simp [a0, a1, a2, a9, a10, a12, a13, a14]) | (refine awp_drawT (fun _ => false) mixed (by decide +kernel) ?_; simp [a0, a1, a2, a9, a10, a12, a13, a14]) | (refine guarded_split ?_ ?_ <;> (intro hg; simp only [hg]; simp [a0, a1, a2, a9, a10, a12, a13, a14])) | (apply awp_cond_t; focus (simp [a0, a1, a2, a9, a10, a12, a13, a14]; done)) | (apply awp_cond_f; focus (simp [a0, a1, a2, a9, a10, a12, a13, a14]; done)) | (refine awp_cond ?_; simp [a0, a1, a2, a9, a10, a12, a13, a14]; refine ⟨?_, ?_⟩ <;> intro hc))
          refine PCalls.use h4 ?_
          (try (first | (with_reducible refine dops_go ?_; simp [a0, a1, a2, a9, a10, a12, a13, a14]) | (with_reducible refine OKv_go ?_; simp [a0, a1, a2, a9, a10, a12, a13, a14]) | (with_reducible refine OKr_go ?_; simp [a0, a1, a2, a9, a10, a12, a13, a14]))); repeat' (first | refine awp_seq ?_ | refine awp_block ?_ | (refine awp_skip ?_; try simp) | (refine awp_exit ?_; try simp) | (refine awp_ret ?_; try simp) | (refine awp_reg ?_; simp [a0, a1, a2, a9, a10, a12, a13, a14]) | (refine awp_drawT (fun _ => false) mixed (by decide +kernel) ?_; simp [a0, a1, a2, a9, a10, a12, a13, a14]) | (refine guarded_split ?_ ?_ <;> (intro hg; simp only [hg]; simp [a0, a1, a2, a9, a10, a12, a13, a14])) | (apply awp_cond_t; focus (simp [a0, a1, a2, a9, a10, a12, a13, a14]; done)) | (apply awp_cond_f; focus (simp [a0, a1, a2, a9, a10, a12, a13, a14]; done)) | (refine awp_cond ?_; simp [a0, a1, a2, a9, a10, a12, a13, a14]; refine ⟨?_, ?_⟩ <;> intro hc))
          refine PCalls.use b1 ?_
          (try (first | (with_reducible refine dops_go ?_; simp [a0, a1, a2, a9, a10, a12, a13, a14]) | (with_reducible refine OKv_go ?_; simp [a0, a1, a2, a9, a10, a12, a13, a14]) | (with_reducible refine OKr_go ?_; simp [a0, a1, a2, a9, a10, a12, a13, a14]))); repeat' (first | refine awp_seq ?_ | refine awp_block ?_ | (refine awp_skip ?_; try simp) | (refine awp_exit ?_; try simp) | (refine awp_ret ?_; try simp) | (refine awp_reg ?_; simp [a0, a1, a2, a9, a10, a12, a13, a14]) | (refine awp_drawT (fun _ => false) mixed (by decide +kernel) ?_; simp [a0, a1, a2, a9, a10, a12, a13, a14]) | (refine guarded_split ?_ ?_ <;> (intro hg; simp only [hg]; simp [a0, a1, a2, a9, a10, a12, a13, a14])) | (apply awp_cond_t; focus (simp [a0, a1, a2, a9, a10, a12, a13, a14]; done)) | (apply awp_cond_f; focus (simp [a0, a1, a2, a9, a10, a12, a13, a14]; done)) | (refine awp_cond ?_; simp [a0, a1, a2, a9, a10, a12, a13, a14]; refine ⟨?_, ?_⟩ <;> intro hc))
          refine PCalls.use b2 ?_
          (try (first | (with_reducible refine dops_go ?_; simp [a0, a1, a2, a9, a10, a12, a13, a14]) | (with_reducible refine OKv_go ?_; simp [a0, a1, a2, a9, a10, a12, a13, a14]) | (with_reducible refine OKr_go ?_; simp [a0, a1, a2, a9, a10, a12, a13, a14]))); repeat' (first | refine awp_seq ?_ | refine awp_block ?_ | (refine awp_skip ?_; try simp) | (refine awp_exit ?_; try simp) | (refine awp_ret ?_; try simp) | (refine awp_reg ?_; simp [a0, a1, a2, a9, a10, a12, a13, a14]) | (refine awp_drawT (fun _ => false) mixed (by decide +kernel) ?_; simp [a0, a1, a2, a9, a10, a12, a13, a14]) | (refine guarded_split ?_ ?_ <;> (intro hg; simp only [hg]; simp [a0, a1, a2, a9, a10, a12, a13, a14])) | (apply awp_cond_t; focus (simp [a0, a1, a2, a9, a10, a12, a13, a14]; done)) | (apply awp_cond_f; focus (simp [a0, a1, a2, a9, a10, a12, a13, a14]; done)) | (refine awp_cond ?_; simp [a0, a1, a2, a9, a10, a12, a13, a14]; refine ⟨?_, ?_⟩ <;> intro hc))
          refine PCalls.use b3 ?_
          (try (first | (with_reducible refine dops_go ?_; simp [a0, a1, a2, a9, a10, a12, a13, a14]) | (with_reducible refine OKv_go ?_; simp [a0, a1, a2, a9, a10, a12, a13, a14]) | (with_reducible refine OKr_go ?_; simp [a0, a1, a2, a9, a10, a12, a13, a14]))); repeat' (first | refine awp_seq ?_ | refine awp_block ?_ | (refine awp_skip ?_; try simp) | (refine awp_exit ?_; try simp) | (refine awp_ret ?_; try simp) | (refine awp_reg ?_; simp [a0, a1, a2, a9, a10, a12, a13, a14]) | (refine awp_drawT (fun _ => false) mixed (by decide +kernel) ?_; simp [a0, a1, a2, a9, a10, a12, a13, a14]) | (refine guarded_split ?_ ?_ <;> (intro hg; simp only [hg]; simp [a0, a1, a2, a9, a10, a12, a13, a14])) | (apply awp_cond_t; focus (simp [a0, a1, a2, a9, a10, a12, a13, a14]; done)) | (apply awp_cond_f; focus (simp [a0, a1, a2, a9, a10, a12, a13, a14]; done)) | (refine awp_cond ?_; simp [a0, a1, a2, a9, a10, a12, a13, a14]; refine ⟨?_, ?_⟩ <;> intro hc))
          refine PCalls.use b4 ?_
          (try (first | (with_reducible refine dops_go ?_; simp [a0, a1, a2, a9, a10, a12, a13, a14]) | (with_reducible refine OKv_go ?_; simp [a0, a1, a2, a9, a10, a12, a13, a14]) | (with_reducible refine OKr_go ?_; simp [a0, a1, a2, a9, a10, a12, a13, a14]))); repeat' (first | refine awp_seq ?_ | refine awp_block ?_ | (refine awp_skip ?_; try simp) | (refine awp_exit ?_; try simp) | (refine awp_ret ?_; try simp) | (refine awp_reg ?_; simp [a0, a1, a2, a9, a10, a12, a13, a14]) | (refine awp_drawT (fun _ => false) mixed (by decide +kernel) ?_; simp [a0, a1, a2, a9, a10, a12, a13, a14]) | (refine guarded_split ?_ ?_ <;> (intro hg; simp only [hg]; simp [a0, a1, a2, a9, a10, a12, a13, a14])) | (apply awp_cond_t; focus (simp [a0, a1, a2, a9, a10, a12, a13, a14]; done)) | (apply awp_cond_f; focus (simp [a0, a1, a2, a9, a10, a12, a13, a14]; done)) | (refine awp_cond ?_; simp [a0, a1, a2, a9, a10, a12, a13, a14]; refine ⟨?_, ?_⟩ <;> intro hc))
          refine PCalls.use b5 ?_
          (try (first | (with_reducible refine dops_go ?_; simp [a0, a1, a2, a9, a10, a12, a13, a14]) | (with_reducible refine OKv_go ?_; simp [a0, a1, a2, a9, a10, a12, a13, a14]) | (with_reducible refine OKr_go ?_; simp [a0, a1, a2, a9, a10, a12, a13, a14]))); repeat' (first | refine awp_seq ?_ | refine awp_block ?_ | (refine awp_skip ?_; try simp) | (refine awp_exit ?_; try simp) | (refine awp_ret ?_; try simp) | (refine awp_reg ?_; simp [a0, a1, a2, a9, a10, a12, a13, a14]) | (refine awp_drawT (fun _ => false) mixed (by decide +kernel) ?_; simp [a0, a1, a2, a9, a10, a12, a13, a14]) | (refine guarded_split ?_ ?_ <;> (intro hg; simp only [hg]; simp [a0, a1, a2, a9, a10, a12, a13, a14])) | (apply awp_cond_t; focus (simp [a0, a1, a2, a9, a10, a12, a13, a14]; done)) | (apply awp_cond_f; focus (simp [a0, a1, a2, a9, a10, a12, a13, a14]; done)) | (refine awp_cond ?_; simp [a0, a1, a2, a9, a10, a12, a13, a14]; refine ⟨?_, ?_⟩ <;> intro hc))
          refine PCalls.use b6 ?_
          (try (first | (with_reducible refine dops_go ?_; simp [a0, a1, a2, a9, a10, a12, a13, a14]) | (with_reducible refine OKv_go ?_; simp [a0, a1, a2, a9, a10, a12, a13, a14]) | (with_reducible refine OKr_go ?_; simp [a0, a1, a2, a9, a10, a12, a13, a14]))); repeat' (first | refine awp_seq ?_ | refine awp_block ?_ | (refine awp_skip ?_; try simp) | (refine awp_exit ?_; try simp) | (refine awp_ret ?_; try simp) | (refine awp_reg ?_; simp [a0, a1, a2, a9, a10, a12, a13, a14]) | (refine awp_drawT (fun _ => false) mixed (by decide +kernel) ?_; simp [a0, a1, a2, a9, a10, a12, a13, a14]) | (refine guarded_split ?_ ?_ <;> (intro hg; simp only [hg]; simp [a0, a1, a2, a9, a10, a12, a13, a14])) | (apply awp_cond_t; focus (simp [a0, a1, a2, a9, a10, a12, a13, a14]; done)) | (apply awp_cond_f; focus (simp [a0, a1, a2, a9, a10, a12, a13, a14]; done)) | (refine awp_cond ?_; simp [a0, a1, a2, a9, a10, a12, a13, a14]; refine ⟨?_, ?_⟩ <;> intro hc))
          refine PCalls.use all_calls ?_
          (try (first | (with_reducible refine dops_go ?_; simp [a0, a1, a2, a9, a10, a12, a13, a14]) | (with_reducible refine OKv_go ?_; simp [a0, a1, a2, a9, a10, a12, a13, a14]) | (with_reducible refine OKr_go ?_; simp [a0, a1, a2, a9, a10, a12, a13, a14]))); repeat' (first | refine awp_seq ?_ | refine awp_block ?_ | (refine awp_skip ?_; try simp) | (refine awp_exit ?_; try simp) | (refine awp_ret ?_; try simp) | (refine awp_reg ?_; simp [a0, a1, a2, a9, a10, a12, a13, a14]) | (refine awp_drawT (fun _ => false) mixed (by decide +kernel) ?_; simp [a0, a1, a2, a9, a10, a12, a13, a14]) | (refine guarded_split ?_ ?_ <;> (intro hg; simp only [hg]; simp [a0, a1, a2, a9, a10, a12, a13, a14])) | (apply awp_cond_t; focus (simp [a0, a1, a2, a9, a10, a12, a13, a14]; done)) | (apply awp_cond_f; focus (simp [a0, a1, a2, a9, a10, a12, a13, a14]; done)) | (refine awp_cond ?_; simp [a0, a1, a2, a9, a10, a12, a13, a14]; refine ⟨?_, ?_⟩ <;> intro hc))
          refine PCalls.use b7 ?_
          (try (first | (with_reducible refine dops_go ?_; simp [a0, a1, a2, a9, a10, a12, a13, a14]) | (with_reducible refine OKv_go ?_; simp [a0, a1, a2, a9, a10, a12, a13, a14]) | (with_reducible refine OKr_go ?_; simp [a0, a1, a2, a9, a10, a12, a13, a14]))); repeat' (first | refine awp_seq ?_ | refine awp_block ?_ | (refine awp_skip ?_; try simp) | (refine awp_exit ?_; try simp) | (refine awp_ret ?_; try simp) | (refine awp_reg ?_; simp [a0, a1, a2, a9, a10, a12, a13, a14]) | (refine awp_drawT (fun _ => false) mixed (by decide +kernel) ?_; simp [a0, a1, a2, a9, a10, a12, a13, a14]) | (refine guarded_split ?_ ?_ <;> (intro hg; simp only [hg]; simp [a0, a1, a2, a9, a10, a12, a13, a14])) | (apply awp_cond_t; focus (simp [a0, a1, a2, a9, a10, a12, a13, a14]; done)) | (apply awp_cond_f; focus (simp [a0, a1, a2, a9, a10, a12, a13, a14]; done)) | (refine awp_cond ?_; simp [a0, a1, a2, a9, a10, a12, a13, a14]; refine ⟨?_, ?_⟩ <;> intro hc))
          exact retP_flat (rv := .raw (.bool true)) (.inr rfl) rfl hE (by simp)
    · rw [hp] at f1
      rw [Bool.not_eq_true] at hq
      rw [hq] at f2
      (try (first | (with_reducible refine dops_go ?_; simp) | (with_reducible refine OKv_go ?_; simp) | (with_reducible refine OKr_go ?_; simp))); repeat' (first | refine awp_seq ?_ | refine awp_block ?_ | (refine awp_skip ?_; try simp) | (refine awp_exit ?_; try simp) | (refine awp_ret ?_; try simp) | (refine retP_same (by simp) ?_; simp) | (refine retP_flat (by simp) (by simp) (by simp) ?_; simp) | (refine awp_reg ?_; simp) | (refine awp_drawT (fun _ => false) mixed (by decide +kernel) ?_; simp) | (refine guarded_split ?_ ?_ <;> (intro hg; simp only [hg]; simp)) | (apply awp_cond_t; focus (simp; done)) | (apply awp_cond_f; focus (simp; done)) | (refine awp_cond ?_; simp; refine ⟨?_, ?_⟩ <;> intro hc))
      refine PCalls.use f1 ?_
      (try (first | (with_reducible refine dops_go ?_; simp) | (with_reducible refine OKv_go ?_; simp) | (with_reducible refine OKr_go ?_; simp))); repeat' (first | refine awp_seq ?_ | refine awp_block ?_ | (refine awp_skip ?_; try simp) | (refine awp_exit ?_; try simp) | (refine awp_ret ?_; try simp) | (refine retP_same (by simp) ?_; simp) | (refine retP_flat (by simp) (by simp) (by simp) ?_; simp) | (refine awp_reg ?_; simp) | (refine awp_drawT (fun _ => false) mixed (by decide +kernel) ?_; simp) | (refine guarded_split ?_ ?_ <;> (intro hg; simp only [hg]; simp)) | (apply awp_cond_t; focus (simp; done)) | (apply awp_cond_f; focus (simp; done)) | (refine awp_cond ?_; simp; refine ⟨?_, ?_⟩ <;> intro hc))
      refine PCalls.use f2 ?_
      (try (first | (with_reducible refine dops_go ?_; simp) | (with_reducible refine OKv_go ?_; simp) | (with_reducible refine OKr_go ?_; simp))); repeat' (first | refine awp_seq ?_ | refine awp_block ?_ | (refine awp_skip ?_; try simp) | (refine awp_exit ?_; try simp) | (refine awp_ret ?_; try simp) | (refine retP_same (by simp) ?_; simp) | (refine retP_flat (by simp) (by simp) (by simp) ?_; simp) | (refine awp_reg ?_; simp) | (refine awp_drawT (fun _ => false) mixed (by decide +kernel) ?_; simp) | (refine guarded_split ?_ ?_ <;> (intro hg; simp only [hg]; simp)) | (apply awp_cond_t; focus (simp; done)) | (apply awp_cond_f; focus (simp; done)) | (refine awp_cond ?_; simp; refine ⟨?_, ?_⟩ <;> intro hc))
      refine PCalls.use alive_calls ?_
      (try (first | (with_reducible refine dops_go ?_; simp) | (with_reducible refine OKv_go ?_; simp) | (with_reducible refine OKr_go ?_; simp))); repeat' (first | refine awp_seq ?_ | refine awp_block ?_ | (refine awp_skip ?_; try simp) | (refine awp_exit ?_; try simp) | (refine awp_ret ?_; try simp) | (refine retP_same (by simp) ?_; simp) | (refine retP_flat (by simp) (by simp) (by simp) ?_; simp) | (refine awp_reg ?_; simp) | (refine awp_drawT (fun _ => false) mixed (by decide +kernel) ?_; simp) | (refine guarded_split ?_ ?_ <;> (intro hg; simp only [hg]; simp)) | (apply awp_cond_t; focus (simp; done)) | (apply awp_cond_f; focus (simp; done)) | (refine awp_cond ?_; simp; refine ⟨?_, ?_⟩ <;> intro hc))
  · rw [Bool.not_eq_true] at hp
    rw [hp] at f1
    (try (first | (with_reducible refine dops_go ?_; simp) | (with_reducible refine OKv_go ?_; simp) | (with_reducible refine OKr_go ?_; simp))); repeat' (first | refine awp_seq ?_ | refine awp_block ?_ | (refine awp_skip ?_; try simp) | (refine awp_exit ?_; try simp) | (refine awp_ret ?_; try simp) | (refine retP_same (by simp) ?_; simp) | (refine retP_flat (by simp) (by simp) (by simp) ?_; simp) | (refine awp_reg ?_; simp) | (refine awp_drawT (fun _ => false) mixed (by decide +kernel) ?_; simp) | (refine guarded_split ?_ ?_ <;> (intro hg; simp only [hg]; simp)) | (apply awp_cond_t; focus (simp; done)) | (apply awp_cond_f; focus (simp; done)) | (refine awp_cond ?_; simp; refine ⟨?_, ?_⟩ <;> intro hc))
    refine PCalls.use f1 ?_
    (try (first | (with_reducible refine dops_go ?_; simp) | (with_reducible refine OKv_go ?_; simp) | (with_reducible refine OKr_go ?_; simp))); repeat' (first | refine awp_seq ?_ | refine awp_block ?_ | (refine awp_skip ?_; try simp) | (refine awp_exit ?_; try simp) | (refine awp_ret ?_; try simp) | (refine retP_same (by simp) ?_; simp) | (refine retP_flat (by simp) (by simp) (by simp) ?_; simp) | (refine awp_reg ?_; simp) | (refine awp_drawT (fun _ => false) mixed (by decide +kernel) ?_; simp) | (refine guarded_split ?_ ?_ <;> (intro hg; simp only [hg]; simp)) | (apply awp_cond_t; focus (simp; done)) | (apply awp_cond_f; focus (simp; done)) | (refine awp_cond ?_; simp; refine ⟨?_, ?_⟩ <;> intro hc))
    refine PCalls.use f2 ?_
    (try (first | (with_reducible refine dops_go ?_; simp) | (with_reducible refine OKv_go ?_; simp) | (with_reducible refine OKr_go ?_; simp))); repeat' (first | refine awp_seq ?_ | refine awp_block ?_ | (refine awp_skip ?_; try simp) | (refine awp_exit ?_; try simp) | (refine awp_ret ?_; try simp) | (refine retP_same (by simp) ?_; simp) | (refine retP_flat (by simp) (by simp) (by simp) ?_; simp) | (refine awp_reg ?_; simp) | (refine awp_drawT (fun _ => false) mixed (by decide +kernel) ?_; simp) | (refine guarded_split ?_ ?_ <;> (intro hg; simp only [hg]; simp)) | (apply awp_cond_t; focus (simp; done)) | (apply awp_cond_f; focus (simp; done)) | (refine awp_cond ?_; simp; refine ⟨?_, ?_⟩ <;> intro hc))
    refine PCalls.use alive_calls ?_
    (try (first | (with_reducible refine dops_go ?_; simp) | (with_reducible refine OKv_go ?_; simp) | (with_reducible refine OKr_go ?_; simp))); repeat' (first | refine awp_seq ?_ | refine awp_block ?_ | (refine awp_skip ?_; try simp) | (refine awp_exit ?_; try simp) | (refine awp_ret ?_; try simp) | (refine retP_same (by simp) ?_; simp) | (refine retP_flat (by simp) (by simp) (by simp) ?_; simp) | (refine awp_reg ?_; simp) | (refine awp_drawT (fun _ => false) mixed (by decide +kernel) ?_; simp) | (refine guarded_split ?_ ?_ <;> (intro hg; simp only [hg]; simp)) | (apply awp_cond_t; focus (simp; done)) | (apply awp_cond_f; focus (simp; done)) | (refine awp_cond ?_; simp; refine ⟨?_, ?_⟩ <;> intro hc))
end Go.Proofs.Ytajikhpjjbohaaa.Av

/- Zones: the laws of sets. -/
namespace Go.Proofs.Ytajikhpjjbohaaa.Av
open Go
set_option linter.unusedSimpArgs false
set_option linter.unusedVariables false
set_option maxRecDepth 100000
set_option maxHeartbeats 8000000
set_option pp.maxSteps 300

theorem hasB_out {z : List Rg} (hz : InZ z) {a : Int} (ha : ¬ (0 ≤ a ∧ a < 4294967296)) : hasB z a = false := by
  cases h : hasB z a with
  | false => rfl
  | true => exact absurd (mz_rng hz (hasB_iff.1 h)) ha
theorem good_eq {n m : Nat} {x y : List Rg} (h : Good n x) (k : Good m y) (e : ∀ a, 0 ≤ a ∧ a < 4294967296 → hasB x a = hasB y a) : x = y := by
  refine zone_eq h.rz k.rz fun a => ?_
  rw [← hasB_iff, ← hasB_iff]
  by_cases ha : 0 ≤ a ∧ a < 4294967296
  · rw [e a ha]
  · rw [hasB_out h.inz ha, hasB_out k.inz ha]
theorem hasB_or {n m : Nat} {x y : List Rg} (h : Good n x) (k : Good m y) (a : Int) : hasB (refOfZ (x ++ y)) a = (hasB x a || hasB y a) := by
  rw [hasB_of (fun r hr => (List.mem_append.1 hr).elim (h.inz r) (k.inz r)), hasB_app]

/-! ### Counting -/
theorem countP_or_and (p q : Nat → Bool) : ∀ l : List Nat, l.countP (fun k => p k && q k) + l.countP (fun k => p k || q k) = l.countP p + l.countP q
  | [] => rfl
  | k :: l => by
    have := countP_or_and p q l
    simp only [List.countP_cons]
    cases p k <;> cases q k <;> simp <;> omega
theorem countP_between : ∀ (n lo hi : Nat), lo ≤ hi → hi < n → (List.range n).countP (fun k => decide (lo ≤ k) && decide (k ≤ hi)) = hi - lo + 1
  | 0, _, _, _, h => by omega
  | n + 1, lo, hi, h1, h2 => by
    rw [List.range_succ, List.countP_append]
    by_cases e : hi = n
    · subst e
      by_cases e2 : lo = hi
      · subst e2
        have : (List.range lo).countP (fun k => decide (lo ≤ k) && decide (k ≤ lo)) = 0 := by
          rw [List.countP_eq_zero]
          intro k hk
          have := List.mem_range.1 hk
          simp; omega
        rw [this]; simp
      · obtain ⟨m, rfl⟩ : ∃ m, hi = m + 1 := ⟨hi - 1, by omega⟩
        have ih := countP_between (m + 1) lo m (by omega) (by omega)
        have : (List.range (m + 1)).countP (fun k => decide (lo ≤ k) && decide (k ≤ m + 1)) = (List.range (m + 1)).countP (fun k => decide (lo ≤ k) && decide (k ≤ m)) := by
          apply List.countP_congr
          intro k hk
          have := List.mem_range.1 hk
          simp; omega
        rw [this, ih]
        simp [show lo ≤ m + 1 by omega]
        omega
    · have ih := countP_between n lo hi h1 (by omega)
      rw [ih]
      have : (decide (lo ≤ n) && decide (n ≤ hi)) = false := by simp; omega
      simp only [List.countP_cons, List.countP_nil, this]
      simp
theorem countZ_card (n : Nat) : ∀ (z : List Rg) (b : Int), RZ b z → -1 ≤ b → (∀ r ∈ z, r.hi < n) → countZ z = ((List.range n).countP (fun k : Nat => hasB z (k : Int)) : Nat)
  | [], _, _, _, _ => by
    have : (List.range n).countP (fun k : Nat => hasB [] (k : Int)) = 0 := by rw [List.countP_eq_zero]; intro k _; simp [hasB]
    rw [this]; rfl
  | r :: z, b, ⟨h1, h2, h3⟩, hb, hn => by
    have ih := countZ_card n z (r.hi + 1) h3 (by omega) (fun s hs => hn s (by simp [hs]))
    have hrn := hn r (by simp)
    have e : countZ (r :: z) = (r.hi - r.lo + 1) + countZ z := by simp [countZ]
    rw [e, ih]
    obtain ⟨lo, hlo⟩ : ∃ lo : Nat, r.lo = lo := ⟨r.lo.toNat, by omega⟩
    obtain ⟨hi, hhi⟩ : ∃ hi : Nat, r.hi = hi := ⟨r.hi.toNat, by omega⟩
    have hd := countP_or_and (fun k => decide (lo ≤ k) && decide (k ≤ hi)) (fun k => hasB z k) (List.range n)
    have h0 : (List.range n).countP (fun k => (decide (lo ≤ k) && decide (k ≤ hi)) && hasB z (k : Int)) = 0 := by
      rw [List.countP_eq_zero]
      intro k _ hk
      simp only [Bool.and_eq_true, decide_eq_true_eq] at hk
      have := RZ.gt h3 (hasB_iff.1 hk.2)
      omega
    rw [h0, countP_between n lo hi (by omega) (by omega)] at hd
    have hs : (fun k : Nat => hasB (r :: z) (k : Int)) = fun k => (decide (lo ≤ k) && decide (k ≤ hi)) || hasB z (k : Int) := by
      funext k
      simp only [hasB, List.any_cons, hlo, hhi]
      congr 1
      congr 1
      · exact decide_eq_decide.2 (by omega)
      · exact decide_eq_decide.2 (by omega)
    rw [hs]
    omega
theorem count_laws {n m : Nat} {x y : List Rg} (h : Good n x) (k : Good m y) : countZ (andZ x y) + countZ (refOfZ (x ++ y)) = countZ x + countZ y := by
  have key : ∀ {n : Nat} {z : List Rg}, Good n z → ∀ N : Nat, N = 4294967296 → countZ z = ((List.range N).countP (fun k : Nat => hasB z (k : Int)) : Nat) := fun g N hN =>
    countZ_card N _ (-1) g.rz (by omega) fun r hr => by have := (g.inz r hr).2.2.2; omega
  obtain ⟨N, hN⟩ : ∃ N : Nat, N = 4294967296 := ⟨_, rfl⟩
  rw [key h N hN, key k N hN, key (good_and h k) N hN, key (good_or h k) N hN]
  have := countP_or_and (fun i : Nat => hasB x i) (fun i : Nat => hasB y i) (List.range N)
  have e1 : (fun i : Nat => hasB (andZ x y) (i : Int)) = fun i : Nat => hasB x (i : Int) && hasB y (i : Int) := by funext i; exact hasB_and h k i
  have e2 : (fun i : Nat => hasB (refOfZ (x ++ y)) (i : Int)) = fun i : Nat => hasB x (i : Int) || hasB y (i : Int) := by funext i; exact hasB_or h k i
  rw [e1, e2]
  omega
theorem count_small {n : Nat} {z : List Rg} (g : Good n z) : 0 ≤ countZ z ∧ countZ z ≤ 4294967296 := by
  obtain ⟨N, hN⟩ : ∃ N : Nat, N = 4294967296 := ⟨_, rfl⟩
  have := countZ_card N _ (-1) g.rz (by omega) fun r hr => by have := (g.inz r hr).2.2.2; omega
  have h2 := List.countP_le_length (p := fun k : Nat => hasB z k) (l := List.range N)
  rw [List.length_range] at h2
  omega

theorem lawLaws_calls (x y z : List Rg) (fx fy fz : Bool) (hx : InZ x) (hy : InZ y) (hz : InZ z) (hlx : x.length < 2 ^ 50) (hly : y.length < 2 ^ 50) (hlz : z.length < 2 ^ 50) : PCalls Try.prog 7 [zAV x fx, zAV y fy, zAV z fz] (.raw (.bool true)) := by
  refine pbody Try.func7 rfl (N := 139) rfl rfl (by simp) (by simp [noIds]) fun σ => ?_
  have f1 := fits_calls x fx hx (by omega)
  have f2 := fits_calls y fy hy (by omega)
  have f3 := fits_calls z fz hz (by omega)
  by_cases hp : decide (x.length ≤ 40) && rightB x
  · by_cases hq : decide (y.length ≤ 40) && rightB y
    · by_cases hr : decide (z.length ≤ 40) && rightB z
      · rw [hp] at f1
        rw [hq] at f2
        rw [hr] at f3
        rw [Bool.and_eq_true, decide_eq_true_eq] at hp hq hr
        have gx := good_of hx hp.1 hp.2
        have gy := good_of hy hq.1 hq.2
        have gz := good_of hz hr.1 hr.2
        -- one
        have a1 := zoneAnd_calls fx fy gx gy (by omega)
        have a2 := zoneAnd_calls fy fx gy gx (by omega)
        have e1 : andZ y x = andZ x y := good_eq (good_and gy gx) (good_and gx gy) fun a _ => by rw [hasB_and gy gx, hasB_and gx gy, Bool.and_comm]
        rw [e1] at a2
        have s1 := zoneSame_calls (andZ x y) (andZ x y) false false (by have := (good_and gx gy).len; omega)
        have a3 := zoneOr_calls fx fy gx gy (by omega)
        have a4 := zoneOr_calls fy fx gy gx (by omega)
        have e2 : refOfZ (y ++ x) = refOfZ (x ++ y) := good_eq (good_or gy gx) (good_or gx gy) fun a _ => by rw [hasB_or gy gx, hasB_or gx gy, Bool.or_comm]
        rw [e2] at a4
        have s2 := zoneSame_calls (refOfZ (x ++ y)) (refOfZ (x ++ y)) false false (by have := (good_or gx gy).len; omega)
        -- two
        have b1 := zoneOr_calls fy fz gy gz (by omega)
        have b2 := zoneAnd_calls fx false gx (good_or gy gz) (by omega)
        have b3 := zoneAnd_calls fx fz gx gz (by omega)
        have b4 := zoneOr_calls false false (good_and gx gy) (good_and gx gz) (by omega)
        have e3 : refOfZ (andZ x y ++ andZ x z) = andZ x (refOfZ (y ++ z)) := good_eq (good_or (good_and gx gy) (good_and gx gz)) (good_and gx (good_or gy gz)) fun a _ => by
          rw [hasB_or (good_and gx gy) (good_and gx gz), hasB_and gx gy, hasB_and gx gz, hasB_and gx (good_or gy gz), hasB_or gy gz, Bool.and_or_distrib_left]
        rw [e3] at b4
        have s3 := zoneSame_calls (andZ x (refOfZ (y ++ z))) (andZ x (refOfZ (y ++ z))) false false (by have := (good_and gx (good_or gy gz)).len; omega)
        -- three
        have gm := good_and gx (good_not gy)
        have c1 := zoneMinus_calls fx fy gx gy (by omega)
        have c2 := zoneOr_calls false false gm (good_and gx gy) (by omega)
        have e4 : refOfZ (andZ x (notZ 0 y) ++ andZ x y) = x := good_eq (good_or gm (good_and gx gy)) gx fun a ha => by
          rw [hasB_or gm (good_and gx gy), hasB_and gx (good_not gy), hasB_and gx gy, hasB_not gy a ha]
          cases hasB x a <;> cases hasB y a <;> rfl
        rw [e4] at c2
        have s4 := zoneSame_calls x x false fx (by omega)
        have c3 := zoneMinus_calls fx fx gx gx (by omega)
        have e5 : andZ x (notZ 0 x) = [] := good_eq (good_and gx (good_not gx)) (⟨(fun r h => by cases h), trivial, Nat.zero_le _⟩ : Good 0 []) fun a ha => by
          rw [hasB_and gx (good_not gx), hasB_not gx a ha]
          cases hasB x a <;> rfl
        rw [e5] at c3
        -- four
        have go := good_or gx gy
        have d1 := zoneMinus_calls false false good_all go (by omega)
        have d2 := zoneMinus_calls false fx good_all gx (by omega)
        have d3 := zoneMinus_calls false fy good_all gy (by omega)
        have gx' := good_and good_all (good_not gx)
        have gy' := good_and good_all (good_not gy)
        have d4 := zoneAnd_calls false false gx' gy' (by omega)
        have e6 : andZ (andZ allZ (notZ 0 x)) (andZ allZ (notZ 0 y)) = andZ allZ (notZ 0 (refOfZ (x ++ y))) := good_eq (good_and gx' gy') (good_and good_all (good_not go)) fun a ha => by
          rw [hasB_and gx' gy', hasB_and good_all (good_not gx), hasB_and good_all (good_not gy), hasB_and good_all (good_not go), hasB_not gx a ha, hasB_not gy a ha, hasB_not go a ha, hasB_or gx gy, hasB_all a ha]
          cases hasB x a <;> cases hasB y a <;> rfl
        rw [e6] at d4
        have s5 := zoneSame_calls (andZ allZ (notZ 0 (refOfZ (x ++ y)))) (andZ allZ (notZ 0 (refOfZ (x ++ y)))) false false (by have := (good_and good_all (good_not go)).len; omega)
        -- five
        have k1 := zoneCount_calls false (good_and gx gy) (by omega)
        have k2 := zoneCount_calls false go (by omega)
        have k3 := zoneCount_calls fx gx (by omega)
        have k4 := zoneCount_calls fy gy (by omega)
        have kl := count_laws gx gy
        have n1 := count_small (good_and gx gy)
        have n2 := count_small go
        have n3 := count_small gx
        have n4 := count_small gy
        have w1 : IntKind.u64.wrap (countZ (andZ x y) + countZ (refOfZ (x ++ y))) = countZ (andZ x y) + countZ (refOfZ (x ++ y)) := wrapU64 (by omega) (by omega)
        have w2 : IntKind.u64.wrap (countZ x + countZ y) = countZ (andZ x y) + countZ (refOfZ (x ++ y)) := by rw [wrapU64 (by omega) (by omega), kl]
        -- right
        have r1 := right_calls (refOfZ (x ++ y)) false go.inz (by have := go.len; omega)
        have r2 := right_calls (andZ x (notZ 0 y)) false gm.inz (by have := gm.len; omega)
        have r3 := right_calls (andZ x y) false (good_and gx gy).inz (by have := (good_and gx gy).len; omega)
        rw [right_rz go.rz] at r1
        rw [right_rz gm.rz] at r2
        rw [right_rz (good_and gx gy).rz] at r3
        rw [decide_eq_true rfl] at s1 s2 s3 s4 s5
        clear kl n1 n2 n3 n4 e1 e2 e3 e4 e5 e6
        have hnil : ∀ b, zAV [] b = .sl 2 [] b := fun b => rfl
        (try (first | (with_reducible refine dops_go ?_; simp) | (with_reducible refine OKv_go ?_; simp) | (with_reducible refine OKr_go ?_; simp))); repeat' (first | refine awp_seq ?_ | refine awp_block ?_ | (refine awp_skip ?_; try simp) | (refine awp_exit ?_; try simp) | (refine awp_ret ?_; try simp) | (refine awp_reg ?_; simp) | (refine awp_drawT (fun _ => false) mixed (by decide +kernel) ?_; simp) | (refine guarded_split ?_ ?_ <;> (intro hg; simp only [hg]; simp)) | (apply awp_cond_t; focus (simp; done)) | (apply awp_cond_f; focus (simp; done)) | (refine awp_cond ?_; simp; refine ⟨?_, ?_⟩ <;> intro hc))
        refine PCalls.use f1 ?_
        (try (first | (with_reducible refine dops_go ?_; simp) | (with_reducible refine OKv_go ?_; simp) | (with_reducible refine OKr_go ?_; simp))); repeat' (first | refine awp_seq ?_ | refine awp_block ?_ | (refine awp_skip ?_; try simp) | (refine awp_exit ?_; try simp) | (refine awp_ret ?_; try simp) | (refine awp_reg ?_; simp) | (refine awp_drawT (fun _ => false) mixed (by decide +kernel) ?_; simp) | (refine guarded_split ?_ ?_ <;> (intro hg; simp only [hg]; simp)) | (apply awp_cond_t; focus (simp; done)) | (apply awp_cond_f; focus (simp; done)) | (refine awp_cond ?_; simp; refine ⟨?_, ?_⟩ <;> intro hc))
        refine PCalls.use f2 ?_
        (try (first | (with_reducible refine dops_go ?_; simp) | (with_reducible refine OKv_go ?_; simp) | (with_reducible refine OKr_go ?_; simp))); repeat' (first | refine awp_seq ?_ | refine awp_block ?_ | (refine awp_skip ?_; try simp) | (refine awp_exit ?_; try simp) | (refine awp_ret ?_; try simp) | (refine awp_reg ?_; simp) | (refine awp_drawT (fun _ => false) mixed (by decide +kernel) ?_; simp) | (refine guarded_split ?_ ?_ <;> (intro hg; simp only [hg]; simp)) | (apply awp_cond_t; focus (simp; done)) | (apply awp_cond_f; focus (simp; done)) | (refine awp_cond ?_; simp; refine ⟨?_, ?_⟩ <;> intro hc))
        refine PCalls.use f3 ?_
        (try (first | (with_reducible refine dops_go ?_; simp) | (with_reducible refine OKv_go ?_; simp) | (with_reducible refine OKr_go ?_; simp))); repeat' (first | refine awp_seq ?_ | refine awp_block ?_ | (refine awp_skip ?_; try simp) | (refine awp_exit ?_; try simp) | (refine awp_ret ?_; try simp) | (refine awp_reg ?_; simp) | (refine awp_drawT (fun _ => false) mixed (by decide +kernel) ?_; simp) | (refine guarded_split ?_ ?_ <;> (intro hg; simp only [hg]; simp)) | (apply awp_cond_t; focus (simp; done)) | (apply awp_cond_f; focus (simp; done)) | (refine awp_cond ?_; simp; refine ⟨?_, ?_⟩ <;> intro hc))
        refine PCalls.use a1 ?_
        (try (first | (with_reducible refine dops_go ?_; simp) | (with_reducible refine OKv_go ?_; simp) | (with_reducible refine OKr_go ?_; simp))); repeat' (first | refine awp_seq ?_ | refine awp_block ?_ | (refine awp_skip ?_; try simp) | (refine awp_exit ?_; try simp) | (refine awp_ret ?_; try simp) | (refine awp_reg ?_; simp) | (refine awp_drawT (fun _ => false) mixed (by decide +kernel) ?_; simp) | (refine guarded_split ?_ ?_ <;> (intro hg; simp only [hg]; simp)) | (apply awp_cond_t; focus (simp; done)) | (apply awp_cond_f; focus (simp; done)) | (refine awp_cond ?_; simp; refine ⟨?_, ?_⟩ <;> intro hc))
        refine PCalls.use a2 ?_
        (try (first | (with_reducible refine dops_go ?_; simp) | (with_reducible refine OKv_go ?_; simp) | (with_reducible refine OKr_go ?_; simp))); repeat' (first | refine awp_seq ?_ | refine awp_block ?_ | (refine awp_skip ?_; try simp) | (refine awp_exit ?_; try simp) | (refine awp_ret ?_; try simp) | (refine awp_reg ?_; simp) | (refine awp_drawT (fun _ => false) mixed (by decide +kernel) ?_; simp) | (refine guarded_split ?_ ?_ <;> (intro hg; simp only [hg]; simp)) | (apply awp_cond_t; focus (simp; done)) | (apply awp_cond_f; focus (simp; done)) | (refine awp_cond ?_; simp; refine ⟨?_, ?_⟩ <;> intro hc))
        refine PCalls.use s1 ?_
        (try (first | (with_reducible refine dops_go ?_; simp) | (with_reducible refine OKv_go ?_; simp) | (with_reducible refine OKr_go ?_; simp))); repeat' (first | refine awp_seq ?_ | refine awp_block ?_ | (refine awp_skip ?_; try simp) | (refine awp_exit ?_; try simp) | (refine awp_ret ?_; try simp) | (refine awp_reg ?_; simp) | (refine awp_drawT (fun _ => false) mixed (by decide +kernel) ?_; simp) | (refine guarded_split ?_ ?_ <;> (intro hg; simp only [hg]; simp)) | (apply awp_cond_t; focus (simp; done)) | (apply awp_cond_f; focus (simp; done)) | (refine awp_cond ?_; simp; refine ⟨?_, ?_⟩ <;> intro hc))
        refine PCalls.use a3 ?_
        (try (first | (with_reducible refine dops_go ?_; simp) | (with_reducible refine OKv_go ?_; simp) | (with_reducible refine OKr_go ?_; simp))); repeat' (first | refine awp_seq ?_ | refine awp_block ?_ | (refine awp_skip ?_; try simp) | (refine awp_exit ?_; try simp) | (refine awp_ret ?_; try simp) | (refine awp_reg ?_; simp) | (refine awp_drawT (fun _ => false) mixed (by decide +kernel) ?_; simp) | (refine guarded_split ?_ ?_ <;> (intro hg; simp only [hg]; simp)) | (apply awp_cond_t; focus (simp; done)) | (apply awp_cond_f; focus (simp; done)) | (refine awp_cond ?_; simp; refine ⟨?_, ?_⟩ <;> intro hc))
        refine PCalls.use a4 ?_
        (try (first | (with_reducible refine dops_go ?_; simp) | (with_reducible refine OKv_go ?_; simp) | (with_reducible refine OKr_go ?_; simp))); repeat' (first | refine awp_seq ?_ | refine awp_block ?_ | (refine awp_skip ?_; try simp) | (refine awp_exit ?_; try simp) | (refine awp_ret ?_; try simp) | (refine awp_reg ?_; simp) | (refine awp_drawT (fun _ => false) mixed (by decide +kernel) ?_; simp) | (refine guarded_split ?_ ?_ <;> (intro hg; simp only [hg]; simp)) | (apply awp_cond_t; focus (simp; done)) | (apply awp_cond_f; focus (simp; done)) | (refine awp_cond ?_; simp; refine ⟨?_, ?_⟩ <;> intro hc))
        refine PCalls.use s2 ?_
        (try (first | (with_reducible refine dops_go ?_; simp) | (with_reducible refine OKv_go ?_; simp) | (with_reducible refine OKr_go ?_; simp))); repeat' (first | refine awp_seq ?_ | refine awp_block ?_ | (refine awp_skip ?_; try simp) | (refine awp_exit ?_; try simp) | (refine awp_ret ?_; try simp) | (refine awp_reg ?_; simp) | (refine awp_drawT (fun _ => false) mixed (by decide +kernel) ?_; simp) | (refine guarded_split ?_ ?_ <;> (intro hg; simp only [hg]; simp)) | (apply awp_cond_t; focus (simp; done)) | (apply awp_cond_f; focus (simp; done)) | (refine awp_cond ?_; simp; refine ⟨?_, ?_⟩ <;> intro hc))
        refine PCalls.use b1 ?_
        (try (first | (with_reducible refine dops_go ?_; simp) | (with_reducible refine OKv_go ?_; simp) | (with_reducible refine OKr_go ?_; simp))); repeat' (first | refine awp_seq ?_ | refine awp_block ?_ | (refine awp_skip ?_; try simp) | (refine awp_exit ?_; try simp) | (refine awp_ret ?_; try simp) | (refine awp_reg ?_; simp) | (refine awp_drawT (fun _ => false) mixed (by decide +kernel) ?_; simp) | (refine guarded_split ?_ ?_ <;> (intro hg; simp only [hg]; simp)) | (apply awp_cond_t; focus (simp; done)) | (apply awp_cond_f; focus (simp; done)) | (refine awp_cond ?_; simp; refine ⟨?_, ?_⟩ <;> intro hc))
        refine PCalls.use b2 ?_
        (try (first | (with_reducible refine dops_go ?_; simp) | (with_reducible refine OKv_go ?_; simp) | (with_reducible refine OKr_go ?_; simp))); repeat' (first | refine awp_seq ?_ | refine awp_block ?_ | (refine awp_skip ?_; try simp) | (refine awp_exit ?_; try simp) | (refine awp_ret ?_; try simp) | (refine awp_reg ?_; simp) | (refine awp_drawT (fun _ => false) mixed (by decide +kernel) ?_; simp) | (refine guarded_split ?_ ?_ <;> (intro hg; simp only [hg]; simp)) | (apply awp_cond_t; focus (simp; done)) | (apply awp_cond_f; focus (simp; done)) | (refine awp_cond ?_; simp; refine ⟨?_, ?_⟩ <;> intro hc))
        refine PCalls.use a1 ?_
        (try (first | (with_reducible refine dops_go ?_; simp) | (with_reducible refine OKv_go ?_; simp) | (with_reducible refine OKr_go ?_; simp))); repeat' (first | refine awp_seq ?_ | refine awp_block ?_ | (refine awp_skip ?_; try simp) | (refine awp_exit ?_; try simp) | (refine awp_ret ?_; try simp) | (refine awp_reg ?_; simp) | (refine awp_drawT (fun _ => false) mixed (by decide +kernel) ?_; simp) | (refine guarded_split ?_ ?_ <;> (intro hg; simp only [hg]; simp)) | (apply awp_cond_t; focus (simp; done)) | (apply awp_cond_f; focus (simp; done)) | (refine awp_cond ?_; simp; refine ⟨?_, ?_⟩ <;> intro hc))
        refine PCalls.use b3 ?_
        (try (first | (with_reducible refine dops_go ?_; simp) | (with_reducible refine OKv_go ?_; simp) | (with_reducible refine OKr_go ?_; simp))); repeat' (first | refine awp_seq ?_ | refine awp_block ?_ | (refine awp_skip ?_; try simp) | (refine awp_exit ?_; try simp) | (refine awp_ret ?_; try simp) | (refine awp_reg ?_; simp) | (refine awp_drawT (fun _ => false) mixed (by decide +kernel) ?_; simp) | (refine guarded_split ?_ ?_ <;> (intro hg; simp only [hg]; simp)) | (apply awp_cond_t; focus (simp; done)) | (apply awp_cond_f; focus (simp; done)) | (refine awp_cond ?_; simp; refine ⟨?_, ?_⟩ <;> intro hc))
        refine PCalls.use b4 ?_
        (try (first | (with_reducible refine dops_go ?_; simp) | (with_reducible refine OKv_go ?_; simp) | (with_reducible refine OKr_go ?_; simp))); repeat' (first | refine awp_seq ?_ | refine awp_block ?_ | (refine awp_skip ?_; try simp) | (refine awp_exit ?_; try simp) | (refine awp_ret ?_; try simp) | (refine awp_reg ?_; simp) | (refine awp_drawT (fun _ => false) mixed (by decide +kernel) ?_; simp) | (refine guarded_split ?_ ?_ <;> (intro hg; simp only [hg]; simp)) | (apply awp_cond_t; focus (simp; done)) | (apply awp_cond_f; focus (simp; done)) | (refine awp_cond ?_; simp; refine ⟨?_, ?_⟩ <;> intro hc))
        refine PCalls.use s3 ?_
        (try (first | (with_reducible refine dops_go ?_; simp) | (with_reducible refine OKv_go ?_; simp) | (with_reducible refine OKr_go ?_; simp))); repeat' (first | refine awp_seq ?_ | refine awp_block ?_ | (refine awp_skip ?_; try simp) | (refine awp_exit ?_; try simp) | (refine awp_ret ?_; try simp) | (refine awp_reg ?_; simp) | (refine awp_drawT (fun _ => false) mixed (by decide +kernel) ?_; simp) | (refine guarded_split ?_ ?_ <;> (intro hg; simp only [hg]; simp)) | (apply awp_cond_t; focus (simp; done)) | (apply awp_cond_f; focus (simp; done)) | (refine awp_cond ?_; simp; refine ⟨?_, ?_⟩ <;> intro hc))
        refine PCalls.use c1 ?_
        (try (first | (with_reducible refine dops_go ?_; simp) | (with_reducible refine OKv_go ?_; simp) | (with_reducible refine OKr_go ?_; simp))); repeat' (first | refine awp_seq ?_ | refine awp_block ?_ | (refine awp_skip ?_; try simp) | (refine awp_exit ?_; try simp) | (refine awp_ret ?_; try simp) | (refine awp_reg ?_; simp) | (refine awp_drawT (fun _ => false) mixed (by decide +kernel) ?_; simp) | (refine guarded_split ?_ ?_ <;> (intro hg; simp only [hg]; simp)) | (apply awp_cond_t; focus (simp; done)) | (apply awp_cond_f; focus (simp; done)) | (refine awp_cond ?_; simp; refine ⟨?_, ?_⟩ <;> intro hc))
        refine PCalls.use a1 ?_
        (try (first | (with_reducible refine dops_go ?_; simp) | (with_reducible refine OKv_go ?_; simp) | (with_reducible refine OKr_go ?_; simp))); repeat' (first | refine awp_seq ?_ | refine awp_block ?_ | (refine awp_skip ?_; try simp) | (refine awp_exit ?_; try simp) | (refine awp_ret ?_; try simp) | (refine awp_reg ?_; simp) | (refine awp_drawT (fun _ => false) mixed (by decide +kernel) ?_; simp) | (refine guarded_split ?_ ?_ <;> (intro hg; simp only [hg]; simp)) | (apply awp_cond_t; focus (simp; done)) | (apply awp_cond_f; focus (simp; done)) | (refine awp_cond ?_; simp; refine ⟨?_, ?_⟩ <;> intro hc))
        refine PCalls.use c2 ?_
        (try (first | (with_reducible refine dops_go ?_; simp) | (with_reducible refine OKv_go ?_; simp) | (with_reducible refine OKr_go ?_; simp))); repeat' (first | refine awp_seq ?_ | refine awp_block ?_ | (refine awp_skip ?_; try simp) | (refine awp_exit ?_; try simp) | (refine awp_ret ?_; try simp) | (refine awp_reg ?_; simp) | (refine awp_drawT (fun _ => false) mixed (by decide +kernel) ?_; simp) | (refine guarded_split ?_ ?_ <;> (intro hg; simp only [hg]; simp)) | (apply awp_cond_t; focus (simp; done)) | (apply awp_cond_f; focus (simp; done)) | (refine awp_cond ?_; simp; refine ⟨?_, ?_⟩ <;> intro hc))
        refine PCalls.use s4 ?_
        (try (first | (with_reducible refine dops_go ?_; simp) | (with_reducible refine OKv_go ?_; simp) | (with_reducible refine OKr_go ?_; simp))); repeat' (first | refine awp_seq ?_ | refine awp_block ?_ | (refine awp_skip ?_; try simp) | (refine awp_exit ?_; try simp) | (refine awp_ret ?_; try simp) | (refine awp_reg ?_; simp) | (refine awp_drawT (fun _ => false) mixed (by decide +kernel) ?_; simp) | (refine guarded_split ?_ ?_ <;> (intro hg; simp only [hg]; simp)) | (apply awp_cond_t; focus (simp; done)) | (apply awp_cond_f; focus (simp; done)) | (refine awp_cond ?_; simp; refine ⟨?_, ?_⟩ <;> intro hc))
        refine PCalls.use c3 ?_
        (try (first | (with_reducible refine dops_go ?_; simp [hnil]) | (with_reducible refine OKv_go ?_; simp [hnil]) | (with_reducible refine OKr_go ?_; simp [hnil]))); repeat' (first | refine awp_seq ?_ | refine awp_block ?_ | (refine awp_skip ?_; try simp) | (refine awp_exit ?_; try simp) | (refine awp_ret ?_; try simp) | (refine awp_reg ?_; simp [hnil]) | (refine awp_drawT (fun _ => false) mixed (by decide +kernel) ?_; simp [hnil]) | (refine guarded_split ?_ ?_ <;> (intro hg; simp only [hg]; simp [hnil])) | (apply awp_cond_t; focus (simp [hnil]; done)) | (apply awp_cond_f; focus (simp [hnil]; done)) | (refine awp_cond ?_; simp [hnil]; refine ⟨?_, ?_⟩ <;> intro hc))
        refine PCalls.use all_calls ?_
        (try (first | (with_reducible refine dops_go ?_; simp) | (with_reducible refine OKv_go ?_; simp) | (with_reducible refine OKr_go ?_; simp))); repeat' (first | refine awp_seq ?_ | refine awp_block ?_ | (refine awp_skip ?_; try simp) | (refine awp_exit ?_; try simp) | (refine awp_ret ?_; try simp) | (refine awp_reg ?_; simp) | (refine awp_drawT (fun _ => false) mixed (by decide +kernel) ?_; simp) | (refine guarded_split ?_ ?_ <;> (intro hg; simp only [hg]; simp)) | (apply awp_cond_t; focus (simp; done)) | (apply awp_cond_f; focus (simp; done)) | (refine awp_cond ?_; simp; refine ⟨?_, ?_⟩ <;> intro hc))
        refine PCalls.use a3 ?_
        (try (first | (with_reducible refine dops_go ?_; simp) | (with_reducible refine OKv_go ?_; simp) | (with_reducible refine OKr_go ?_; simp))); repeat' (first | refine awp_seq ?_ | refine awp_block ?_ | (refine awp_skip ?_; try simp) | (refine awp_exit ?_; try simp) | (refine awp_ret ?_; try simp) | (refine awp_reg ?_; simp) | (refine awp_drawT (fun _ => false) mixed (by decide +kernel) ?_; simp) | (refine guarded_split ?_ ?_ <;> (intro hg; simp only [hg]; simp)) | (apply awp_cond_t; focus (simp; done)) | (apply awp_cond_f; focus (simp; done)) | (refine awp_cond ?_; simp; refine ⟨?_, ?_⟩ <;> intro hc))
        refine PCalls.use d1 ?_
        (try (first | (with_reducible refine dops_go ?_; simp) | (with_reducible refine OKv_go ?_; simp) | (with_reducible refine OKr_go ?_; simp))); repeat' (first | refine awp_seq ?_ | refine awp_block ?_ | (refine awp_skip ?_; try simp) | (refine awp_exit ?_; try simp) | (refine awp_ret ?_; try simp) | (refine awp_reg ?_; simp) | (refine awp_drawT (fun _ => false) mixed (by decide +kernel) ?_; simp) | (refine guarded_split ?_ ?_ <;> (intro hg; simp only [hg]; simp)) | (apply awp_cond_t; focus (simp; done)) | (apply awp_cond_f; focus (simp; done)) | (refine awp_cond ?_; simp; refine ⟨?_, ?_⟩ <;> intro hc))
        refine PCalls.use all_calls ?_
        (try (first | (with_reducible refine dops_go ?_; simp) | (with_reducible refine OKv_go ?_; simp) | (with_reducible refine OKr_go ?_; simp))); repeat' (first | refine awp_seq ?_ | refine awp_block ?_ | (refine awp_skip ?_; try simp) | (refine awp_exit ?_; try simp) | (refine awp_ret ?_; try simp) | (refine awp_reg ?_; simp) | (refine awp_drawT (fun _ => false) mixed (by decide +kernel) ?_; simp) | (refine guarded_split ?_ ?_ <;> (intro hg; simp only [hg]; simp)) | (apply awp_cond_t; focus (simp; done)) | (apply awp_cond_f; focus (simp; done)) | (refine awp_cond ?_; simp; refine ⟨?_, ?_⟩ <;> intro hc))
        refine PCalls.use d2 ?_
        (try (first | (with_reducible refine dops_go ?_; simp) | (with_reducible refine OKv_go ?_; simp) | (with_reducible refine OKr_go ?_; simp))); repeat' (first | refine awp_seq ?_ | refine awp_block ?_ | (refine awp_skip ?_; try simp) | (refine awp_exit ?_; try simp) | (refine awp_ret ?_; try simp) | (refine awp_reg ?_; simp) | (refine awp_drawT (fun _ => false) mixed (by decide +kernel) ?_; simp) | (refine guarded_split ?_ ?_ <;> (intro hg; simp only [hg]; simp)) | (apply awp_cond_t; focus (simp; done)) | (apply awp_cond_f; focus (simp; done)) | (refine awp_cond ?_; simp; refine ⟨?_, ?_⟩ <;> intro hc))
        refine PCalls.use all_calls ?_
        (try (first | (with_reducible refine dops_go ?_; simp) | (with_reducible refine OKv_go ?_; simp) | (with_reducible refine OKr_go ?_; simp))); repeat' (first | refine awp_seq ?_ | refine awp_block ?_ | (refine awp_skip ?_; try simp) | (refine awp_exit ?_; try simp) | (refine awp_ret ?_; try simp) | (refine awp_reg ?_; simp) | (refine awp_drawT (fun _ => false) mixed (by decide +kernel) ?_; simp) | (refine guarded_split ?_ ?_ <;> (intro hg; simp only [hg]; simp)) | (apply awp_cond_t; focus (simp; done)) | (apply awp_cond_f; focus (simp; done)) | (refine awp_cond ?_; simp; refine ⟨?_, ?_⟩ <;> intro hc))
        refine PCalls.use d3 ?_
        (try (first | (with_reducible refine dops_go ?_; simp) | (with_reducible refine OKv_go ?_; simp) | (with_reducible refine OKr_go ?_; simp))); repeat' (first | refine awp_seq ?_ | refine awp_block ?_ | (refine awp_skip ?_; try simp) | (refine awp_exit ?_; try simp) | (refine awp_ret ?_; try simp) | (refine awp_reg ?_; simp) | (refine awp_drawT (fun _ => false) mixed (by decide +kernel) ?_; simp) | (refine guarded_split ?_ ?_ <;> (intro hg; simp only [hg]; simp)) | (apply awp_cond_t; focus (simp; done)) | (apply awp_cond_f; focus (simp; done)) | (refine awp_cond ?_; simp; refine ⟨?_, ?_⟩ <;> intro hc))
        refine PCalls.use d4 ?_
        (try (first | (with_reducible refine dops_go ?_; simp) | (with_reducible refine OKv_go ?_; simp) | (with_reducible refine OKr_go ?_; simp))); repeat' (first | refine awp_seq ?_ | refine awp_block ?_ | (refine awp_skip ?_; try simp) | (refine awp_exit ?_; try simp) | (refine awp_ret ?_; try simp) | (refine awp_reg ?_; simp) | (refine awp_drawT (fun _ => false) mixed (by decide +kernel) ?_; simp) | (refine guarded_split ?_ ?_ <;> (intro hg; simp only [hg]; simp)) | (apply awp_cond_t; focus (simp; done)) | (apply awp_cond_f; focus (simp; done)) | (refine awp_cond ?_; simp; refine ⟨?_, ?_⟩ <;> intro hc))
        refine PCalls.use s5 ?_
        (try (first | (with_reducible refine dops_go ?_; simp) | (with_reducible refine OKv_go ?_; simp) | (with_reducible refine OKr_go ?_; simp))); repeat' (first | refine awp_seq ?_ | refine awp_block ?_ | (refine awp_skip ?_; try simp) | (refine awp_exit ?_; try simp) | (refine awp_ret ?_; try simp) | (refine awp_reg ?_; simp) | (refine awp_drawT (fun _ => false) mixed (by decide +kernel) ?_; simp) | (refine guarded_split ?_ ?_ <;> (intro hg; simp only [hg]; simp)) | (apply awp_cond_t; focus (simp; done)) | (apply awp_cond_f; focus (simp; done)) | (refine awp_cond ?_; simp; refine ⟨?_, ?_⟩ <;> intro hc))
        refine PCalls.use a1 ?_
        (try (first | (with_reducible refine dops_go ?_; simp) | (with_reducible refine OKv_go ?_; simp) | (with_reducible refine OKr_go ?_; simp))); repeat' (first | refine awp_seq ?_ | refine awp_block ?_ | (refine awp_skip ?_; try simp) | (refine awp_exit ?_; try simp) | (refine awp_ret ?_; try simp) | (refine awp_reg ?_; simp) | (refine awp_drawT (fun _ => false) mixed (by decide +kernel) ?_; simp) | (refine guarded_split ?_ ?_ <;> (intro hg; simp only [hg]; simp)) | (apply awp_cond_t; focus (simp; done)) | (apply awp_cond_f; focus (simp; done)) | (refine awp_cond ?_; simp; refine ⟨?_, ?_⟩ <;> intro hc))
        refine PCalls.use k1 ?_
        (try (first | (with_reducible refine dops_go ?_; simp) | (with_reducible refine OKv_go ?_; simp) | (with_reducible refine OKr_go ?_; simp))); repeat' (first | refine awp_seq ?_ | refine awp_block ?_ | (refine awp_skip ?_; try simp) | (refine awp_exit ?_; try simp) | (refine awp_ret ?_; try simp) | (refine awp_reg ?_; simp) | (refine awp_drawT (fun _ => false) mixed (by decide +kernel) ?_; simp) | (refine guarded_split ?_ ?_ <;> (intro hg; simp only [hg]; simp)) | (apply awp_cond_t; focus (simp; done)) | (apply awp_cond_f; focus (simp; done)) | (refine awp_cond ?_; simp; refine ⟨?_, ?_⟩ <;> intro hc))
        refine PCalls.use a3 ?_
        (try (first | (with_reducible refine dops_go ?_; simp) | (with_reducible refine OKv_go ?_; simp) | (with_reducible refine OKr_go ?_; simp))); repeat' (first | refine awp_seq ?_ | refine awp_block ?_ | (refine awp_skip ?_; try simp) | (refine awp_exit ?_; try simp) | (refine awp_ret ?_; try simp) | (refine awp_reg ?_; simp) | (refine awp_drawT (fun _ => false) mixed (by decide +kernel) ?_; simp) | (refine guarded_split ?_ ?_ <;> (intro hg; simp only [hg]; simp)) | (apply awp_cond_t; focus (simp; done)) | (apply awp_cond_f; focus (simp; done)) | (refine awp_cond ?_; simp; refine ⟨?_, ?_⟩ <;> intro hc))
        refine PCalls.use k2 ?_
        (try (first | (with_reducible refine dops_go ?_; simp [w1]) | (with_reducible refine OKv_go ?_; simp [w1]) | (with_reducible refine OKr_go ?_; simp [w1]))); repeat' (first | refine awp_seq ?_ | refine awp_block ?_ | (refine awp_skip ?_; try simp) | (refine awp_exit ?_; try simp) | (refine awp_ret ?_; try simp) | (refine awp_reg ?_; simp [w1]) | (refine awp_drawT (fun _ => false) mixed (by decide +kernel) ?_; simp [w1]) | (refine guarded_split ?_ ?_ <;> (intro hg; simp only [hg]; simp [w1])) | (apply awp_cond_t; focus (simp [w1]; done)) | (apply awp_cond_f; focus (simp [w1]; done)) | (refine awp_cond ?_; simp [w1]; refine ⟨?_, ?_⟩ <;> intro hc))
        refine PCalls.use k3 ?_
        (try (first | (with_reducible refine dops_go ?_; simp [w1]) | (with_reducible refine OKv_go ?_; simp [w1]) | (with_reducible refine OKr_go ?_; simp [w1]))); repeat' (first | refine awp_seq ?_ | refine awp_block ?_ | (refine awp_skip ?_; try simp) | (refine awp_exit ?_; try simp) | (refine awp_ret ?_; try simp) | (refine awp_reg ?_; simp [w1]) | (refine awp_drawT (fun _ => false) mixed (by decide +kernel) ?_; simp [w1]) | (refine guarded_split ?_ ?_ <;> (intro hg; simp only [hg]; simp [w1])) | (apply awp_cond_t; focus (simp [w1]; done)) | (apply awp_cond_f; focus (simp [w1]; done)) | (refine awp_cond ?_; simp [w1]; refine ⟨?_, ?_⟩ <;> intro hc))
        refine PCalls.use k4 ?_
        (try (first | (with_reducible refine dops_go ?_; simp [w1, w2]) | (with_reducible refine OKv_go ?_; simp [w1, w2]) | (with_reducible refine OKr_go ?_; simp [w1, w2]))); repeat' (first | refine awp_seq ?_ | refine awp_block ?_ | (refine awp_skip ?_; try simp) | (refine awp_exit ?_; try simp) | (refine awp_ret ?_; try simp) | (refine awp_reg ?_; simp [w1, w2]) | (refine awp_drawT (fun _ => false) mixed (by decide +kernel) ?_; simp [w1, w2]) | (refine guarded_split ?_ ?_ <;> (intro hg; simp only [hg]; simp [w1, w2])) | (apply awp_cond_t; focus (simp [w1, w2]; done)) | (apply awp_cond_f; focus (simp [w1, w2]; done)) | (refine awp_cond ?_; simp [w1, w2]; refine ⟨?_, ?_⟩ <;> intro hc))
        refine PCalls.use alive_calls ?_
        (try (first | (with_reducible refine dops_go ?_; simp) | (with_reducible refine OKv_go ?_; simp) | (with_reducible refine OKr_go ?_; simp))); repeat' (first | refine awp_seq ?_ | refine awp_block ?_ | (refine awp_skip ?_; try simp) | (refine awp_exit ?_; try simp) | (refine awp_ret ?_; try simp) | (refine awp_reg ?_; simp) | (refine awp_drawT (fun _ => false) mixed (by decide +kernel) ?_; simp) | (refine guarded_split ?_ ?_ <;> (intro hg; simp only [hg]; simp)) | (apply awp_cond_t; focus (simp; done)) | (apply awp_cond_f; focus (simp; done)) | (refine awp_cond ?_; simp; refine ⟨?_, ?_⟩ <;> intro hc))
        refine PCalls.use a3 ?_
        (try (first | (with_reducible refine dops_go ?_; simp) | (with_reducible refine OKv_go ?_; simp) | (with_reducible refine OKr_go ?_; simp))); repeat' (first | refine awp_seq ?_ | refine awp_block ?_ | (refine awp_skip ?_; try simp) | (refine awp_exit ?_; try simp) | (refine awp_ret ?_; try simp) | (refine awp_reg ?_; simp) | (refine awp_drawT (fun _ => false) mixed (by decide +kernel) ?_; simp) | (refine guarded_split ?_ ?_ <;> (intro hg; simp only [hg]; simp)) | (apply awp_cond_t; focus (simp; done)) | (apply awp_cond_f; focus (simp; done)) | (refine awp_cond ?_; simp; refine ⟨?_, ?_⟩ <;> intro hc))
        refine PCalls.use r1 ?_
        (try (first | (with_reducible refine dops_go ?_; simp) | (with_reducible refine OKv_go ?_; simp) | (with_reducible refine OKr_go ?_; simp))); repeat' (first | refine awp_seq ?_ | refine awp_block ?_ | (refine awp_skip ?_; try simp) | (refine awp_exit ?_; try simp) | (refine awp_ret ?_; try simp) | (refine awp_reg ?_; simp) | (refine awp_drawT (fun _ => false) mixed (by decide +kernel) ?_; simp) | (refine guarded_split ?_ ?_ <;> (intro hg; simp only [hg]; simp)) | (apply awp_cond_t; focus (simp; done)) | (apply awp_cond_f; focus (simp; done)) | (refine awp_cond ?_; simp; refine ⟨?_, ?_⟩ <;> intro hc))
        refine PCalls.use c1 ?_
        (try (first | (with_reducible refine dops_go ?_; simp) | (with_reducible refine OKv_go ?_; simp) | (with_reducible refine OKr_go ?_; simp))); repeat' (first | refine awp_seq ?_ | refine awp_block ?_ | (refine awp_skip ?_; try simp) | (refine awp_exit ?_; try simp) | (refine awp_ret ?_; try simp) | (refine awp_reg ?_; simp) | (refine awp_drawT (fun _ => false) mixed (by decide +kernel) ?_; simp) | (refine guarded_split ?_ ?_ <;> (intro hg; simp only [hg]; simp)) | (apply awp_cond_t; focus (simp; done)) | (apply awp_cond_f; focus (simp; done)) | (refine awp_cond ?_; simp; refine ⟨?_, ?_⟩ <;> intro hc))
        refine PCalls.use r2 ?_
        (try (first | (with_reducible refine dops_go ?_; simp) | (with_reducible refine OKv_go ?_; simp) | (with_reducible refine OKr_go ?_; simp))); repeat' (first | refine awp_seq ?_ | refine awp_block ?_ | (refine awp_skip ?_; try simp) | (refine awp_exit ?_; try simp) | (refine awp_ret ?_; try simp) | (refine awp_reg ?_; simp) | (refine awp_drawT (fun _ => false) mixed (by decide +kernel) ?_; simp) | (refine guarded_split ?_ ?_ <;> (intro hg; simp only [hg]; simp)) | (apply awp_cond_t; focus (simp; done)) | (apply awp_cond_f; focus (simp; done)) | (refine awp_cond ?_; simp; refine ⟨?_, ?_⟩ <;> intro hc))
        refine PCalls.use a1 ?_
        (try (first | (with_reducible refine dops_go ?_; simp) | (with_reducible refine OKv_go ?_; simp) | (with_reducible refine OKr_go ?_; simp))); repeat' (first | refine awp_seq ?_ | refine awp_block ?_ | (refine awp_skip ?_; try simp) | (refine awp_exit ?_; try simp) | (refine awp_ret ?_; try simp) | (refine awp_reg ?_; simp) | (refine awp_drawT (fun _ => false) mixed (by decide +kernel) ?_; simp) | (refine guarded_split ?_ ?_ <;> (intro hg; simp only [hg]; simp)) | (apply awp_cond_t; focus (simp; done)) | (apply awp_cond_f; focus (simp; done)) | (refine awp_cond ?_; simp; refine ⟨?_, ?_⟩ <;> intro hc))
        refine PCalls.use r3 ?_
        (try (first | (with_reducible refine dops_go ?_; simp) | (with_reducible refine OKv_go ?_; simp) | (with_reducible refine OKr_go ?_; simp))); repeat' (first | refine awp_seq ?_ | refine awp_block ?_ | (refine awp_skip ?_; try simp) | (refine awp_exit ?_; try simp) | (refine awp_ret ?_; try simp) | (refine retP_same (by simp) ?_; simp) | (refine retP_flat (by simp) (by simp) (by simp) ?_; simp) | (refine awp_reg ?_; simp) | (refine awp_drawT (fun _ => false) mixed (by decide +kernel) ?_; simp) | (refine guarded_split ?_ ?_ <;> (intro hg; simp only [hg]; simp)) | (apply awp_cond_t; focus (simp; done)) | (apply awp_cond_f; focus (simp; done)) | (refine awp_cond ?_; simp; refine ⟨?_, ?_⟩ <;> intro hc))
      · rw [hp] at f1
        rw [hq] at f2
        rw [Bool.not_eq_true] at hr
        rw [hr] at f3
        (try (first | (with_reducible refine dops_go ?_; simp) | (with_reducible refine OKv_go ?_; simp) | (with_reducible refine OKr_go ?_; simp))); repeat' (first | refine awp_seq ?_ | refine awp_block ?_ | (refine awp_skip ?_; try simp) | (refine awp_exit ?_; try simp) | (refine awp_ret ?_; try simp) | (refine retP_same (by simp) ?_; simp) | (refine retP_flat (by simp) (by simp) (by simp) ?_; simp) | (refine awp_reg ?_; simp) | (refine awp_drawT (fun _ => false) mixed (by decide +kernel) ?_; simp) | (refine guarded_split ?_ ?_ <;> (intro hg; simp only [hg]; simp)) | (apply awp_cond_t; focus (simp; done)) | (apply awp_cond_f; focus (simp; done)) | (refine awp_cond ?_; simp; refine ⟨?_, ?_⟩ <;> intro hc))
        refine PCalls.use f1 ?_
        (try (first | (with_reducible refine dops_go ?_; simp) | (with_reducible refine OKv_go ?_; simp) | (with_reducible refine OKr_go ?_; simp))); repeat' (first | refine awp_seq ?_ | refine awp_block ?_ | (refine awp_skip ?_; try simp) | (refine awp_exit ?_; try simp) | (refine awp_ret ?_; try simp) | (refine retP_same (by simp) ?_; simp) | (refine retP_flat (by simp) (by simp) (by simp) ?_; simp) | (refine awp_reg ?_; simp) | (refine awp_drawT (fun _ => false) mixed (by decide +kernel) ?_; simp) | (refine guarded_split ?_ ?_ <;> (intro hg; simp only [hg]; simp)) | (apply awp_cond_t; focus (simp; done)) | (apply awp_cond_f; focus (simp; done)) | (refine awp_cond ?_; simp; refine ⟨?_, ?_⟩ <;> intro hc))
        refine PCalls.use f2 ?_
        (try (first | (with_reducible refine dops_go ?_; simp) | (with_reducible refine OKv_go ?_; simp) | (with_reducible refine OKr_go ?_; simp))); repeat' (first | refine awp_seq ?_ | refine awp_block ?_ | (refine awp_skip ?_; try simp) | (refine awp_exit ?_; try simp) | (refine awp_ret ?_; try simp) | (refine retP_same (by simp) ?_; simp) | (refine retP_flat (by simp) (by simp) (by simp) ?_; simp) | (refine awp_reg ?_; simp) | (refine awp_drawT (fun _ => false) mixed (by decide +kernel) ?_; simp) | (refine guarded_split ?_ ?_ <;> (intro hg; simp only [hg]; simp)) | (apply awp_cond_t; focus (simp; done)) | (apply awp_cond_f; focus (simp; done)) | (refine awp_cond ?_; simp; refine ⟨?_, ?_⟩ <;> intro hc))
        refine PCalls.use f3 ?_
        (try (first | (with_reducible refine dops_go ?_; simp) | (with_reducible refine OKv_go ?_; simp) | (with_reducible refine OKr_go ?_; simp))); repeat' (first | refine awp_seq ?_ | refine awp_block ?_ | (refine awp_skip ?_; try simp) | (refine awp_exit ?_; try simp) | (refine awp_ret ?_; try simp) | (refine retP_same (by simp) ?_; simp) | (refine retP_flat (by simp) (by simp) (by simp) ?_; simp) | (refine awp_reg ?_; simp) | (refine awp_drawT (fun _ => false) mixed (by decide +kernel) ?_; simp) | (refine guarded_split ?_ ?_ <;> (intro hg; simp only [hg]; simp)) | (apply awp_cond_t; focus (simp; done)) | (apply awp_cond_f; focus (simp; done)) | (refine awp_cond ?_; simp; refine ⟨?_, ?_⟩ <;> intro hc))
        refine PCalls.use alive_calls ?_
        (try (first | (with_reducible refine dops_go ?_; simp) | (with_reducible refine OKv_go ?_; simp) | (with_reducible refine OKr_go ?_; simp))); repeat' (first | refine awp_seq ?_ | refine awp_block ?_ | (refine awp_skip ?_; try simp) | (refine awp_exit ?_; try simp) | (refine awp_ret ?_; try simp) | (refine retP_same (by simp) ?_; simp) | (refine retP_flat (by simp) (by simp) (by simp) ?_; simp) | (refine awp_reg ?_; simp) | (refine awp_drawT (fun _ => false) mixed (by decide +kernel) ?_; simp) | (refine guarded_split ?_ ?_ <;> (intro hg; simp only [hg]; simp)) | (apply awp_cond_t; focus (simp; done)) | (apply awp_cond_f; focus (simp; done)) | (refine awp_cond ?_; simp; refine ⟨?_, ?_⟩ <;> intro hc))
    · rw [hp] at f1
      rw [Bool.not_eq_true] at hq
      rw [hq] at f2
      (try (first | (with_reducible refine dops_go ?_; simp) | (with_reducible refine OKv_go ?_; simp) | (with_reducible refine OKr_go ?_; simp))); repeat' (first | refine awp_seq ?_ | refine awp_block ?_ | (refine awp_skip ?_; try simp) | (refine awp_exit ?_; try simp) | (refine awp_ret ?_; try simp) | (refine retP_same (by simp) ?_; simp) | (refine retP_flat (by simp) (by simp) (by simp) ?_; simp) | (refine awp_reg ?_; simp) | (refine awp_drawT (fun _ => false) mixed (by decide +kernel) ?_; simp) | (refine guarded_split ?_ ?_ <;> (intro hg; simp only [hg]; simp)) | (apply awp_cond_t; focus (simp; done)) | (apply awp_cond_f; focus (simp; done)) | (refine awp_cond ?_; simp; refine ⟨?_, ?_⟩ <;> intro hc))
      refine PCalls.use f1 ?_
      (try (first | (with_reducible refine dops_go ?_; simp) | (with_reducible refine OKv_go ?_; simp) | (with_reducible refine OKr_go ?_; simp))); repeat' (first | refine awp_seq ?_ | refine awp_block ?_ | (refine awp_skip ?_; try simp) | (refine awp_exit ?_; try simp) | (refine awp_ret ?_; try simp) | (refine retP_same (by simp) ?_; simp) | (refine retP_flat (by simp) (by simp) (by simp) ?_; simp) | (refine awp_reg ?_; simp) | (refine awp_drawT (fun _ => false) mixed (by decide +kernel) ?_; simp) | (refine guarded_split ?_ ?_ <;> (intro hg; simp only [hg]; simp)) | (apply awp_cond_t; focus (simp; done)) | (apply awp_cond_f; focus (simp; done)) | (refine awp_cond ?_; simp; refine ⟨?_, ?_⟩ <;> intro hc))
      refine PCalls.use f2 ?_
      (try (first | (with_reducible refine dops_go ?_; simp) | (with_reducible refine OKv_go ?_; simp) | (with_reducible refine OKr_go ?_; simp))); repeat' (first | refine awp_seq ?_ | refine awp_block ?_ | (refine awp_skip ?_; try simp) | (refine awp_exit ?_; try simp) | (refine awp_ret ?_; try simp) | (refine retP_same (by simp) ?_; simp) | (refine retP_flat (by simp) (by simp) (by simp) ?_; simp) | (refine awp_reg ?_; simp) | (refine awp_drawT (fun _ => false) mixed (by decide +kernel) ?_; simp) | (refine guarded_split ?_ ?_ <;> (intro hg; simp only [hg]; simp)) | (apply awp_cond_t; focus (simp; done)) | (apply awp_cond_f; focus (simp; done)) | (refine awp_cond ?_; simp; refine ⟨?_, ?_⟩ <;> intro hc))
      refine PCalls.use f3 ?_
      (try (first | (with_reducible refine dops_go ?_; simp) | (with_reducible refine OKv_go ?_; simp) | (with_reducible refine OKr_go ?_; simp))); repeat' (first | refine awp_seq ?_ | refine awp_block ?_ | (refine awp_skip ?_; try simp) | (refine awp_exit ?_; try simp) | (refine awp_ret ?_; try simp) | (refine retP_same (by simp) ?_; simp) | (refine retP_flat (by simp) (by simp) (by simp) ?_; simp) | (refine awp_reg ?_; simp) | (refine awp_drawT (fun _ => false) mixed (by decide +kernel) ?_; simp) | (refine guarded_split ?_ ?_ <;> (intro hg; simp only [hg]; simp)) | (apply awp_cond_t; focus (simp; done)) | (apply awp_cond_f; focus (simp; done)) | (refine awp_cond ?_; simp; refine ⟨?_, ?_⟩ <;> intro hc))
      refine PCalls.use alive_calls ?_
      (try (first | (with_reducible refine dops_go ?_; simp) | (with_reducible refine OKv_go ?_; simp) | (with_reducible refine OKr_go ?_; simp))); repeat' (first | refine awp_seq ?_ | refine awp_block ?_ | (refine awp_skip ?_; try simp) | (refine awp_exit ?_; try simp) | (refine awp_ret ?_; try simp) | (refine retP_same (by simp) ?_; simp) | (refine retP_flat (by simp) (by simp) (by simp) ?_; simp) | (refine awp_reg ?_; simp) | (refine awp_drawT (fun _ => false) mixed (by decide +kernel) ?_; simp) | (refine guarded_split ?_ ?_ <;> (intro hg; simp only [hg]; simp)) | (apply awp_cond_t; focus (simp; done)) | (apply awp_cond_f; focus (simp; done)) | (refine awp_cond ?_; simp; refine ⟨?_, ?_⟩ <;> intro hc))
  · rw [Bool.not_eq_true] at hp
    rw [hp] at f1
    (try (first | (with_reducible refine dops_go ?_; simp) | (with_reducible refine OKv_go ?_; simp) | (with_reducible refine OKr_go ?_; simp))); repeat' (first | refine awp_seq ?_ | refine awp_block ?_ | (refine awp_skip ?_; try simp) | (refine awp_exit ?_; try simp) | (refine awp_ret ?_; try simp) | (refine retP_same (by simp) ?_; simp) | (refine retP_flat (by simp) (by simp) (by simp) ?_; simp) | (refine awp_reg ?_; simp) | (refine awp_drawT (fun _ => false) mixed (by decide +kernel) ?_; simp) | (refine guarded_split ?_ ?_ <;> (intro hg; simp only [hg]; simp)) | (apply awp_cond_t; focus (simp; done)) | (apply awp_cond_f; focus (simp; done)) | (refine awp_cond ?_; simp; refine ⟨?_, ?_⟩ <;> intro hc))
    refine PCalls.use f1 ?_
    (try (first | (with_reducible refine dops_go ?_; simp) | (with_reducible refine OKv_go ?_; simp) | (with_reducible refine OKr_go ?_; simp))); repeat' (first | refine awp_seq ?_ | refine awp_block ?_ | (refine awp_skip ?_; try simp) | (refine awp_exit ?_; try simp) | (refine awp_ret ?_; try simp) | (refine retP_same (by simp) ?_; simp) | (refine retP_flat (by simp) (by simp) (by simp) ?_; simp) | (refine awp_reg ?_; simp) | (refine awp_drawT (fun _ => false) mixed (by decide +kernel) ?_; simp) | (refine guarded_split ?_ ?_ <;> (intro hg; simp only [hg]; simp)) | (apply awp_cond_t; focus (simp; done)) | (apply awp_cond_f; focus (simp; done)) | (refine awp_cond ?_; simp; refine ⟨?_, ?_⟩ <;> intro hc))
    refine PCalls.use f2 ?_
    (try (first | (with_reducible refine dops_go ?_; simp) | (with_reducible refine OKv_go ?_; simp) | (with_reducible refine OKr_go ?_; simp))); repeat' (first | refine awp_seq ?_ | refine awp_block ?_ | (refine awp_skip ?_; try simp) | (refine awp_exit ?_; try simp) | (refine awp_ret ?_; try simp) | (refine retP_same (by simp) ?_; simp) | (refine retP_flat (by simp) (by simp) (by simp) ?_; simp) | (refine awp_reg ?_; simp) | (refine awp_drawT (fun _ => false) mixed (by decide +kernel) ?_; simp) | (refine guarded_split ?_ ?_ <;> (intro hg; simp only [hg]; simp)) | (apply awp_cond_t; focus (simp; done)) | (apply awp_cond_f; focus (simp; done)) | (refine awp_cond ?_; simp; refine ⟨?_, ?_⟩ <;> intro hc))
    refine PCalls.use f3 ?_
    (try (first | (with_reducible refine dops_go ?_; simp) | (with_reducible refine OKv_go ?_; simp) | (with_reducible refine OKr_go ?_; simp))); repeat' (first | refine awp_seq ?_ | refine awp_block ?_ | (refine awp_skip ?_; try simp) | (refine awp_exit ?_; try simp) | (refine awp_ret ?_; try simp) | (refine retP_same (by simp) ?_; simp) | (refine retP_flat (by simp) (by simp) (by simp) ?_; simp) | (refine awp_reg ?_; simp) | (refine awp_drawT (fun _ => false) mixed (by decide +kernel) ?_; simp) | (refine guarded_split ?_ ?_ <;> (intro hg; simp only [hg]; simp)) | (apply awp_cond_t; focus (simp; done)) | (apply awp_cond_f; focus (simp; done)) | (refine awp_cond ?_; simp; refine ⟨?_, ?_⟩ <;> intro hc))
    refine PCalls.use alive_calls ?_
    (try (first | (with_reducible refine dops_go ?_; simp) | (with_reducible refine OKv_go ?_; simp) | (with_reducible refine OKr_go ?_; simp))); repeat' (first | refine awp_seq ?_ | refine awp_block ?_ | (refine awp_skip ?_; try simp) | (refine awp_exit ?_; try simp) | (refine awp_ret ?_; try simp) | (refine retP_same (by simp) ?_; simp) | (refine retP_flat (by simp) (by simp) (by simp) ?_; simp) | (refine awp_reg ?_; simp) | (refine awp_drawT (fun _ => false) mixed (by decide +kernel) ?_; simp) | (refine guarded_split ?_ ?_ <;> (intro hg; simp only [hg]; simp)) | (apply awp_cond_t; focus (simp; done)) | (apply awp_cond_f; focus (simp; done)) | (refine awp_cond ?_; simp; refine ⟨?_, ?_⟩ <;> intro hc))
end Go.Proofs.Ytajikhpjjbohaaa.Av
