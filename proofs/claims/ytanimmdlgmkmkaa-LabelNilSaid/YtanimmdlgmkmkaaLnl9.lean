/- LabelNil: no labels: for every rule; no condition. Part 9 of 12: AvL2, AvL3, AvL4, AvL7, AvL8, AvL9, AvL5, AvL10, AvL11, AvL12, AvL13. -/
import Derived.Test.YtanimmdlgmkmkaaLnl6
import Derived.Test.YtanimmdlgmkmkaaLnl8

/- label.Of. -/
namespace Go.Proofs.Ytanimmdlgmkmkaa.Av
open Go
set_option linter.unusedSimpArgs false
set_option linter.unusedVariables false
set_option maxRecDepth 100000
set_option maxHeartbeats 4000000
set_option pp.maxSteps 600

/-- Labels: a network, its atoms, the rows. -/
structure Lab where
  n : Nw
  t : Option Tab
  rows : List (List Int)
def inAV (l : List Int) : AV := intsAV l false
def labC (L : Lab) : List AV := [intsAV L.n.t.ports false, linksAV L.n.t.links false, rulesAV L.n.rules false, tabO L.t, .sl 1 (L.rows.map inAV) false]
def labO : Option Lab → AV
  | none => .raw (.pointer none)
  | some L => .pp (labC L) 0
/-- The atoms of rules. -/
def tabL (l : List Ru) : Option Tab := l.foldl (fun T x => (addT T x.r).1) (some newTab)
def labOf (n : Nw) : Lab := ⟨n, tabL n.rules, (List.range n.t.ports.length).map fun d : Nat => rowL n (tabL n.rules) d⟩
def ofL (n : Nw) : Option Lab × Int := if rightN n then (some (labOf n), 0) else (none, 71)
theorem tabL_rep {l : List Ru} (h : ∀ r ∈ l, RgOK r.r) : ∀ k, k ≤ l.length → RepO (tabL (l.take k)) (((l.take k).map (·.r)).foldl stepL (some [])) := by
  intro k
  induction k with
  | zero => intro _; exact ⟨rep_new, by simp⟩
  | succ k ih =>
    intro hk
    have hx : l[k]? = some l[k] := List.getElem?_eq_getElem (by omega)
    have h1 := (ih (by omega)).step (h _ (List.getElem_mem (by omega : k < l.length)))
    rw [List.take_add_one, hx]
    simp only [tabL, List.map_append, List.foldl_append, Option.toList, List.map_cons, List.map_nil, List.foldl_cons, List.foldl_nil] at h1 ⊢
    exact h1.2
theorem tabL_step {l : List Ru} {k : Nat} (hk : k < l.length) : tabL (l.take (k + 1)) = (addT (tabL (l.take k)) l[k].r).1 := by
  rw [List.take_add_one, List.getElem?_eq_getElem hk]
  simp only [tabL, List.foldl_append, Option.toList, List.foldl_cons, List.foldl_nil]
theorem tabL_len {l : List Ru} (h : ∀ r ∈ l, RgOK r.r) : ((tabL l).getD newTab).b.sz < 2 ^ 40 := by
  have h1 := tabL_rep h l.length (Nat.le_refl _)
  rw [List.take_length] at h1
  obtain ⟨hr, hl⟩ := h1.get
  generalize ((l.map (·.r)).foldl stepL (some [])).getD [] = L at hr hl
  have hcc := cutsL_cuts L
  have hcl : (cutsL L).length ≤ 1 + 2 * L.length := by
    have := nodup_le (m := 0 :: endsL L) (hcc.srt.imp fun h => by omega) fun x hx => by
      rw [List.mem_cons]; simp only [endsL, List.mem_flatMap]; exact (hcc.mem x).1 hx
    have := endsL_len L
    simp only [List.length_cons] at *
    omega
  rw [rep_len hr]; omega
@[simp] theorem labO_ids (K : Id → Prop) (L : Option Lab) : (labO L).ids K := by
  cases L with
  | none => exact trivial
  | some L =>
    simp only [labO, labC, AV.ids, idsL]
    refine ⟨ints_ids K _ _, links_ids K _ _, rules_ids K _ _, tabO_ids K _, ?_, trivial⟩
    exact idsL_map (fun l => ints_ids K l false) L.rows
theorem right_few {n : Nw} (h : rightN n = true) : 1 ≤ n.t.ports.length ∧ n.t.ports.length ≤ 8 := by
  unfold rightN rightT at h
  simp only [Bool.and_eq_true, Bool.not_eq_true', decide_eq_false_iff_not] at h
  omega
theorem of_calls (n : Nw) (f : Fl) (hn : NwOK n) : PCalls Try.prog 20 [nwAV n f] (.tup [labO (ofL n).1, .raw (.int .i64 (ofL n).2)]) := by
  have hr := rightN_calls n f (by have := hn.ports; omega) hn.links hn.rules
  have ho := own_calls n f hn
  unfold ofL
  cases hb : rightN n with
  | false =>
    rw [hb] at hr
    show PCalls _ _ _ (.tup [.raw (.pointer none), .raw (.int .i64 71)])
    refine pbody Try.func20 rfl (N := 65) rfl rfl (by simp) (by simp [noIds]) fun σ => ?_
    (try (first | (with_reducible refine dops_go ?_; simp [-cellOK, nw_cells, nw_fold]) | (with_reducible refine OKv_go ?_; simp [-cellOK, nw_cells, nw_fold]) | (with_reducible refine OKr_go ?_; simp [-cellOK, nw_cells, nw_fold]))); repeat' (first | refine awp_seq ?_ | refine awp_block ?_ | (refine awp_skip ?_; try simp) | (refine awp_exit ?_; try simp) | (refine awp_ret ?_; try simp) | (refine retP_same (by simp) ?_; simp) | (refine retP_no (by simp) (by simp [noIds]) (by repeat (first | assumption | exact Ext.refl _ | refine ext_new' ?_ | refine Ext.setF ?_ (by first | assumption | (simp [new_nx', St.set, fresh_none]; done) | exact ext_fresh (by assumption)))) ?_; simp [-cellOK, nw_cells, nw_fold, new_m, set_m, new_nx']) | (refine awp_reg ?_; simp [-cellOK, nw_cells, nw_fold]) | (refine awp_drawT (fun _ => false) mixed (by decide +kernel) ?_; simp [-cellOK, nw_cells, nw_fold]) | (refine guarded_split ?_ ?_ <;> (intro hg; simp only [hg]; simp [-cellOK, nw_cells, nw_fold])) | (apply awp_cond_t; focus (simp [-cellOK, nw_cells, nw_fold]; done)) | (apply awp_cond_f; focus (simp [-cellOK, nw_cells, nw_fold]; done)) | (refine awp_cond ?_; simp [-cellOK, nw_cells, nw_fold]; refine ⟨?_, ?_⟩ <;> intro hc) | (refine awp_drawT isCallO mixed (by decide +kernel) ?_; simp [-cellOK, nw_cells, nw_fold]) | (refine PCalls.use (hr) ?_; simp [-cellOK, nw_cells, nw_fold]) | (refine Or.inl ⟨_, Or.inl (hr), ?_⟩; simp [-cellOK, nw_cells, nw_fold]) | fail)
  | true =>
    rw [hb] at hr
    show PCalls _ _ _ (.tup [labO (some (labOf n)), .raw (.int .i64 0)])
    refine pbody Try.func20 rfl (N := 65) rfl rfl (by simp) (by simp [noIds, labO_ids]) fun σ => ?_
    obtain ⟨hpos, hp⟩ := right_few hb
    have c1 : (nwAV n flN).cells = [intsAV n.t.ports false, linksAV n.t.links false, rulesAV n.rules false] := rfl
    have htn := tabNew_calls
    have f1 : σ.m ⟨1, σ.nx 1, 3⟩ = none := fresh_none _ _ _
    have f15 : σ.m ⟨15, σ.nx 15, 5⟩ = none := fresh_none _ _ _
    refine awp_seq ?_
    (try (first | (with_reducible refine dops_go ?_; simp [-cellOK, nw_cells, nw_fold, c1, new_m, set_m, new_nx']) | (with_reducible refine OKv_go ?_; simp [-cellOK, nw_cells, nw_fold, c1, new_m, set_m, new_nx']) | (with_reducible refine OKr_go ?_; simp [-cellOK, nw_cells, nw_fold, c1, new_m, set_m, new_nx']))); repeat' (first | refine awp_seq ?_ | refine awp_block ?_ | (refine awp_skip ?_; try simp) | (refine awp_exit ?_; try simp) | (refine awp_ret ?_; try simp) | (refine awp_reg ?_; simp [-cellOK, nw_cells, nw_fold, c1, new_m, set_m, new_nx']) | (refine awp_drawT (fun _ => false) mixed (by decide +kernel) ?_; simp [-cellOK, nw_cells, nw_fold, c1, new_m, set_m, new_nx']) | (refine guarded_split ?_ ?_ <;> (intro hg; simp only [hg]; simp [-cellOK, nw_cells, nw_fold, c1, new_m, set_m, new_nx'])) | (apply awp_cond_t; focus (simp [-cellOK, nw_cells, nw_fold, c1, new_m, set_m, new_nx']; done)) | (apply awp_cond_f; focus (simp [-cellOK, nw_cells, nw_fold, c1, new_m, set_m, new_nx']; done)) | (refine awp_cond ?_; simp [-cellOK, nw_cells, nw_fold, c1, new_m, set_m, new_nx']; refine ⟨?_, ?_⟩ <;> intro hc) | (refine awp_drawT isCallO mixed (by decide +kernel) ?_; simp [-cellOK, nw_cells, nw_fold, c1, new_m, set_m, new_nx']) | (refine PCalls.use (hr) ?_; simp [-cellOK, nw_cells, nw_fold, c1, new_m, set_m, new_nx']) | (refine Or.inl ⟨_, Or.inl (hr), ?_⟩; simp [-cellOK, nw_cells, nw_fold, c1, new_m, set_m, new_nx']) | (refine PCalls.use (ho) ?_; simp [-cellOK, nw_cells, nw_fold, c1, new_m, set_m, new_nx']) | (refine Or.inl ⟨_, Or.inl (ho), ?_⟩; simp [-cellOK, nw_cells, nw_fold, c1, new_m, set_m, new_nx']) | (refine PCalls.use (htn) ?_; simp [-cellOK, nw_cells, nw_fold, c1, new_m, set_m, new_nx']) | (refine Or.inl ⟨_, Or.inl (htn), ?_⟩; simp [-cellOK, nw_cells, nw_fold, c1, new_m, set_m, new_nx']) | fail)
    refine awp_freeze ⟨1, σ.nx 1, 3⟩ ?_
    generalize hτ : St.del _ _ = τ
    generalize hA : (fun t => giveUp _ _ _) = A
    have a1 : A 1 = .pp (nwAV n f).cells 0 := by rw [← hA, ← hτ]; simp [giveUp, St.new, St.del, nw_cells]
    have a4 : A 4 = .rp ⟨15, σ.nx 15, 5⟩ 0 0 := by rw [← hA, ← hτ]; simp [giveUp, St.new, St.del, St.set, nw_cells]
    have a17 : A 17 = rulesAV n.rules f.r := by rw [← hA]; simp [rulesAV]
    have a18 : A 18 = .raw (.int .i64 n.rules.length) := by rw [← hA]; simp
    have a19 : A 19 = .raw (.int .i64 0) := by rw [← hA]; simp
    have mj : τ.m ⟨15, σ.nx 15, 5⟩ = some (.buf [.agg [intsAV n.t.ports false, linksAV n.t.links false, rulesAV n.rules false, tabO (some newTab), .sl 0 [] true]]) := by rw [← hτ]; simp [St.new, St.del, St.set, new_m, set_m, new_nx', tabO]
    have hE : Ext σ τ := by
      rw [← hτ]
      refine ⟨fun i o h => ?_, fun s => ?_⟩
      · have q1 : i ≠ ⟨1, σ.nx 1, 3⟩ := fun e => by rw [e, f1] at h; cases h
        have q2 : i ≠ ⟨15, σ.nx 15, 5⟩ := fun e => by rw [e, f15] at h; cases h
        simp [St.del, St.new, St.set, q1, q2, h]
      · simp only [St.del, St.new, St.set]
        repeat' split
        all_goals omega
    clear hτ hA
    refine awp_loopH (fun n' B ρ => Ext σ ρ ∧ B 1 = .pp (nwAV n f).cells 0 ∧ B 4 = .rp ⟨15, σ.nx 15, 5⟩ 0 0 ∧ B 17 = rulesAV n.rules f.r ∧ B 18 = .raw (.int .i64 n.rules.length) ∧ ∃ i : Nat, B 19 = .raw (.int .i64 i) ∧ i ≤ n.rules.length ∧ n' = n.rules.length - i ∧ ρ.m ⟨15, σ.nx 15, 5⟩ = some (.buf [.agg [intsAV n.t.ports false, linksAV n.t.links false, rulesAV n.rules false, tabO (tabL (n.rules.take i)), .sl 0 [] true]])) n.rules.length ?_ ?_
    · exact ⟨hE, a1, a4, a17, a18, 0, a19, by omega, by omega, mj⟩
    clear hE a1 a4 a17 a18 a19 mj
    rintro n' B ρ ⟨hE, a1, a4, a17, a18, i, a19, hi, rfl, mj⟩ I1 hI1
    by_cases hlt : i < n.rules.length
    · have hx : n.rules[i]? = some n.rules[i] := List.getElem?_eq_getElem hlt
      have hl3 := hn.rules
      have w1 : IntKind.i64.wrap ((i : Int) + 1) = ((i + 1 : Nat) : Int) := by rw [wrap64 (by omega) (by omega)]; omega
      have hrk := hn.rg _ (List.getElem_mem hlt)
      obtain ⟨g1, g2⟩ := (tabL_rep hn.rg i (by omega)).step hrk
      have hadd := add_calls (tabL (n.rules.take i)) n.rules[i].r g1
      rw [← tabL_step hlt] at hadd
      obtain ⟨x, hxe⟩ : ∃ x, n.rules[i] = x := ⟨_, rfl⟩
      rw [hxe] at hadd
      clear g1 g2 hrk
      have hxr : AV.agg [.raw (.int .u32 x.r.lo), .raw (.int .u32 x.r.hi)] = rgAV x.r := rfl
      generalize (addT (tabL (n.rules.take i)) x.r).2 = e' at hadd
      generalize tabL (n.rules.take i) = T at hadd mj
      obtain ⟨T', hT'⟩ : ∃ T', tabL (n.rules.take (i + 1)) = T' := ⟨_, rfl⟩
      rw [hT'] at hadd
      (try (first | (with_reducible refine dops_go ?_; simp [-cellOK, a1, a4, a17, a18, a19, rulesAV, hlt, hx, hxe, ru_cells, hxr, new_m, set_m, new_nx', mj, w1]) | (with_reducible refine OKv_go ?_; simp [-cellOK, a1, a4, a17, a18, a19, rulesAV, hlt, hx, hxe, ru_cells, hxr, new_m, set_m, new_nx', mj, w1]) | (with_reducible refine OKr_go ?_; simp [-cellOK, a1, a4, a17, a18, a19, rulesAV, hlt, hx, hxe, ru_cells, hxr, new_m, set_m, new_nx', mj, w1]))); repeat' (first | refine awp_seq ?_ | refine awp_block ?_ | (refine awp_skip ?_; try simp) | (refine awp_exit ?_; try simp) | (refine awp_ret ?_; try simp) | (refine retP_same (by simp) ?_; simp) | (refine retP_no (by simp) (by simp [noIds]) (by repeat (first | assumption | exact Ext.refl _ | refine ext_new' ?_ | refine Ext.setF ?_ (by first | assumption | (simp [new_nx', St.set, fresh_none]; done) | exact ext_fresh (by assumption)))) ?_; simp [-cellOK, a1, a4, a17, a18, a19, rulesAV, hlt, hx, hxe, ru_cells, hxr, new_m, set_m, new_nx', mj, w1, new_m, set_m, new_nx']) | (refine awp_reg ?_; simp [-cellOK, a1, a4, a17, a18, a19, rulesAV, hlt, hx, hxe, ru_cells, hxr, new_m, set_m, new_nx', mj, w1]) | (refine awp_drawT (fun _ => false) mixed (by decide +kernel) ?_; simp [-cellOK, a1, a4, a17, a18, a19, rulesAV, hlt, hx, hxe, ru_cells, hxr, new_m, set_m, new_nx', mj, w1]) | (refine guarded_split ?_ ?_ <;> (intro hg; simp only [hg]; simp [-cellOK, a1, a4, a17, a18, a19, rulesAV, hlt, hx, hxe, ru_cells, hxr, new_m, set_m, new_nx', mj, w1])) | (apply awp_cond_t; focus (simp [-cellOK, a1, a4, a17, a18, a19, rulesAV, hlt, hx, hxe, ru_cells, hxr, new_m, set_m, new_nx', mj, w1]; done)) | (apply awp_cond_f; focus (simp [-cellOK, a1, a4, a17, a18, a19, rulesAV, hlt, hx, hxe, ru_cells, hxr, new_m, set_m, new_nx', mj, w1]; done)) | (refine awp_cond ?_; simp [-cellOK, a1, a4, a17, a18, a19, rulesAV, hlt, hx, hxe, ru_cells, hxr, new_m, set_m, new_nx', mj, w1]; refine ⟨?_, ?_⟩ <;> intro hc) | (refine awp_drawT isCallO mixed (by decide +kernel) ?_; simp [-cellOK, a1, a4, a17, a18, a19, rulesAV, hlt, hx, hxe, ru_cells, hxr, new_m, set_m, new_nx', mj, w1]) | (refine PCalls.use (hadd) ?_; simp [-cellOK, a1, a4, a17, a18, a19, rulesAV, hlt, hx, hxe, ru_cells, hxr, new_m, set_m, new_nx', mj, w1]) | (refine Or.inl ⟨_, Or.inl (hadd), ?_⟩; simp [-cellOK, a1, a4, a17, a18, a19, rulesAV, hlt, hx, hxe, ru_cells, hxr, new_m, set_m, new_nx', mj, w1]) | fail)
      refine hI1 (n.rules.length - (i + 1)) _ _ (by omega) ⟨(by repeat (first | assumption | exact Ext.refl _ | refine ext_new' ?_ | refine Ext.setF ?_ (by first | assumption | (simp [new_nx', St.set, fresh_none]; done) | exact ext_fresh (by assumption)))), by simp [a1], by simp [a4], by simp [a17], by simp [a18], i + 1, by simp, by omega, rfl, ?_⟩
      rw [hT']
      simp [new_m, set_m, new_nx', mj]
      rfl
    have : i = n.rules.length := by omega
    subst this
    rw [List.take_length] at mj
    have hz := tabL_len hn.rg
    unfold labOf
    generalize tabL n.rules = T at mj hz ⊢
    (try (first | (with_reducible refine dops_go ?_; simp [-cellOK, a1, a4, a17, a18, a19, nw_cells]) | (with_reducible refine OKv_go ?_; simp [-cellOK, a1, a4, a17, a18, a19, nw_cells]) | (with_reducible refine OKr_go ?_; simp [-cellOK, a1, a4, a17, a18, a19, nw_cells]))); repeat' (first | refine awp_seq ?_ | refine awp_block ?_ | (refine awp_skip ?_; try simp) | (refine awp_exit ?_; try simp) | (refine awp_ret ?_; try simp) | (refine retP_same (by simp) ?_; simp) | (refine retP_no (by simp) (by simp [noIds]) (by repeat (first | assumption | exact Ext.refl _ | refine ext_new' ?_ | refine Ext.setF ?_ (by first | assumption | (simp [new_nx', St.set, fresh_none]; done) | exact ext_fresh (by assumption)))) ?_; simp [-cellOK, a1, a4, a17, a18, a19, nw_cells, new_m, set_m, new_nx']) | (refine awp_reg ?_; simp [-cellOK, a1, a4, a17, a18, a19, nw_cells]) | (refine awp_drawT (fun _ => false) mixed (by decide +kernel) ?_; simp [-cellOK, a1, a4, a17, a18, a19, nw_cells]) | (refine guarded_split ?_ ?_ <;> (intro hg; simp only [hg]; simp [-cellOK, a1, a4, a17, a18, a19, nw_cells])) | (apply awp_cond_t; focus (simp [-cellOK, a1, a4, a17, a18, a19, nw_cells]; done)) | (apply awp_cond_f; focus (simp [-cellOK, a1, a4, a17, a18, a19, nw_cells]; done)) | (refine awp_cond ?_; simp [-cellOK, a1, a4, a17, a18, a19, nw_cells]; refine ⟨?_, ?_⟩ <;> intro hc) | (refine awp_drawT isCallO mixed (by decide +kernel) ?_; simp [-cellOK, a1, a4, a17, a18, a19, nw_cells]) | fail)
    refine awp_loopH (fun n' B ρ => Ext σ ρ ∧ B 4 = .rp ⟨15, σ.nx 15, 5⟩ 0 0 ∧ B 40 = .raw (.int .i64 n.t.ports.length) ∧ ∃ (i : Nat) (v : AV), B 41 = .raw (.int .i64 i) ∧ i ≤ n.t.ports.length ∧ n' = n.t.ports.length - i ∧ ρ.m ⟨15, σ.nx 15, 5⟩ = some (.buf [.agg [intsAV n.t.ports false, linksAV n.t.links false, rulesAV n.rules false, tabO T, v]]) ∧ OwnL σ ρ 1 v (((List.range i).map fun d : Nat => rowL n T d).map inAV)) n.t.ports.length ?_ ?_
    · exact ⟨hE, by simp [a4], by simp [intsAV], 0, .sl 0 [] true, by simp, by omega, by omega, mj, .inl ⟨by simp, rfl⟩⟩
    clear hE a1 a4 a17 a18 a19 mj hI1
    rintro n' B ρ ⟨hE, a4, a40, i, v, a41, hi, rfl, mj, hO⟩ I2 hI2
    by_cases hlt : i < n.t.ports.length
    · have w1 : IntKind.i64.wrap ((i : Int) + 1) = ((i + 1 : Nat) : Int) := by rw [wrap64 (by omega) (by omega)]; omega
      have hrow := row_calls n flN T i hn hz
      have hfl : AV.agg [intsAV n.t.ports false, linksAV n.t.links false, rulesAV n.rules false] = nwAV n flN := rfl
      have hc1 : ∀ l, (intsAV l false).cells = [intsAV l false] := fun _ => rfl
      have hc2 : ∀ l, cellOK (intsAV l false) = true := fun _ => rfl
      (try (first | (with_reducible refine dops_go ?_; simp [-cellOK, a4, a40, a41, hlt, hfl, hc1, hc2, new_m, set_m, new_nx', mj, -opAppend]) | (with_reducible refine OKv_go ?_; simp [-cellOK, a4, a40, a41, hlt, hfl, hc1, hc2, new_m, set_m, new_nx', mj, -opAppend]) | (with_reducible refine OKr_go ?_; simp [-cellOK, a4, a40, a41, hlt, hfl, hc1, hc2, new_m, set_m, new_nx', mj, -opAppend]))); repeat' (first | refine awp_seq ?_ | refine awp_block ?_ | (refine awp_skip ?_; try simp) | (refine awp_exit ?_; try simp) | (refine awp_ret ?_; try simp) | (refine retP_same (by simp) ?_; simp) | (refine retP_no (by simp) (by simp [noIds]) (by repeat (first | assumption | exact Ext.refl _ | refine ext_new' ?_ | refine Ext.setF ?_ (by first | assumption | (simp [new_nx', St.set, fresh_none]; done) | exact ext_fresh (by assumption)))) ?_; simp [-cellOK, a4, a40, a41, hlt, hfl, hc1, hc2, new_m, set_m, new_nx', mj, -opAppend, new_m, set_m, new_nx']) | (refine awp_reg ?_; simp [-cellOK, a4, a40, a41, hlt, hfl, hc1, hc2, new_m, set_m, new_nx', mj, -opAppend]) | (refine awp_drawT (fun _ => false) mixed (by decide +kernel) ?_; simp [-cellOK, a4, a40, a41, hlt, hfl, hc1, hc2, new_m, set_m, new_nx', mj, -opAppend]) | (refine guarded_split ?_ ?_ <;> (intro hg; simp only [hg]; simp [-cellOK, a4, a40, a41, hlt, hfl, hc1, hc2, new_m, set_m, new_nx', mj, -opAppend])) | (apply awp_cond_t; focus (simp [-cellOK, a4, a40, a41, hlt, hfl, hc1, hc2, new_m, set_m, new_nx', mj, -opAppend]; done)) | (apply awp_cond_f; focus (simp [-cellOK, a4, a40, a41, hlt, hfl, hc1, hc2, new_m, set_m, new_nx', mj, -opAppend]; done)) | (refine awp_cond ?_; simp [-cellOK, a4, a40, a41, hlt, hfl, hc1, hc2, new_m, set_m, new_nx', mj, -opAppend]; refine ⟨?_, ?_⟩ <;> intro hc) | (refine awp_drawT isCallO mixed (by decide +kernel) ?_; simp [-cellOK, a4, a40, a41, hlt, hfl, hc1, hc2, new_m, set_m, new_nx', mj, -opAppend]) | (refine PCalls.use (hrow) ?_; simp [-cellOK, a4, a40, a41, hlt, hfl, hc1, hc2, new_m, set_m, new_nx', mj, -opAppend]) | (refine Or.inl ⟨_, Or.inl (hrow), ?_⟩; simp [-cellOK, a4, a40, a41, hlt, hfl, hc1, hc2, new_m, set_m, new_nx', mj, -opAppend]) | fail)
      refine okr_append slt111 (σ0 := σ) (hO.ext (by repeat (first | assumption | exact Ext.refl _ | refine ext_new' ?_ | refine Ext.setF ?_ (by first | assumption | (simp [new_nx', St.set, fresh_none]; done) | exact ext_fresh (by assumption))))) (by repeat (first | assumption | exact Ext.refl _ | refine ext_new' ?_ | refine Ext.setF ?_ (by first | assumption | (simp [new_nx', St.set, fresh_none]; done) | exact ext_fresh (by assumption)))) (ys := [inAV (rowL n T i)]) (by simp [new_m, new_nx', inAV]) (.inr rfl) (by simp [inAV, intsAV, cellsL, cellsOK, cellOK, AV.cells]) (by simp; omega) ?_
      intro v' τ' hO' hE' hk hnx
      obtain ⟨kj, _⟩ := hk ⟨15, σ.nx 15, 5⟩ _ (new_up _ _ mj) (hO.ne_sz (by simp))
      clear hk
      have hv1 := hO'.cells
      have hv2 := hO'.cellOK
      (try (first | (with_reducible refine dops_go ?_; simp [-cellOK, a4, a40, a41, w1, kj, hv1, hv2, new_m, set_m, new_nx']) | (with_reducible refine OKv_go ?_; simp [-cellOK, a4, a40, a41, w1, kj, hv1, hv2, new_m, set_m, new_nx']) | (with_reducible refine OKr_go ?_; simp [-cellOK, a4, a40, a41, w1, kj, hv1, hv2, new_m, set_m, new_nx']))); repeat' (first | refine awp_seq ?_ | refine awp_block ?_ | (refine awp_skip ?_; try simp) | (refine awp_exit ?_; try simp) | (refine awp_ret ?_; try simp) | (refine retP_same (by simp) ?_; simp) | (refine retP_no (by simp) (by simp [noIds]) (by repeat (first | assumption | exact Ext.refl _ | refine ext_new' ?_ | refine Ext.setF ?_ (by first | assumption | (simp [new_nx', St.set, fresh_none]; done) | exact ext_fresh (by assumption)))) ?_; simp [-cellOK, a4, a40, a41, w1, kj, hv1, hv2, new_m, set_m, new_nx', new_m, set_m, new_nx']) | (refine awp_reg ?_; simp [-cellOK, a4, a40, a41, w1, kj, hv1, hv2, new_m, set_m, new_nx']) | (refine awp_drawT (fun _ => false) mixed (by decide +kernel) ?_; simp [-cellOK, a4, a40, a41, w1, kj, hv1, hv2, new_m, set_m, new_nx']) | (refine guarded_split ?_ ?_ <;> (intro hg; simp only [hg]; simp [-cellOK, a4, a40, a41, w1, kj, hv1, hv2, new_m, set_m, new_nx'])) | (apply awp_cond_t; focus (simp [-cellOK, a4, a40, a41, w1, kj, hv1, hv2, new_m, set_m, new_nx']; done)) | (apply awp_cond_f; focus (simp [-cellOK, a4, a40, a41, w1, kj, hv1, hv2, new_m, set_m, new_nx']; done)) | (refine awp_cond ?_; simp [-cellOK, a4, a40, a41, w1, kj, hv1, hv2, new_m, set_m, new_nx']; refine ⟨?_, ?_⟩ <;> intro hc) | (refine awp_drawT isCallO mixed (by decide +kernel) ?_; simp [-cellOK, a4, a40, a41, w1, kj, hv1, hv2, new_m, set_m, new_nx']) | fail)
      refine hI2 (n.t.ports.length - (i + 1)) _ _ (by omega) ⟨Ext.setF hE' f15, by simp [a4], by simp [a40], i + 1, v', by simp, by omega, rfl, by simp [kj, set_m], ?_⟩
      rw [List.range_succ, List.map_append, List.map_append]
      exact hO'.set (hO'.ne_sz (by simp))
    · have : i = n.t.ports.length := by omega
      subst this
      refine awp_freeze ⟨15, σ.nx 15, 5⟩ ?_
      rcases hO with ⟨hes, rfl⟩ | ⟨k, rfl, hk1, hk2, hk3⟩
      · exfalso
        have := congrArg List.length hes
        simp at this
        rw [this] at hpos
        simp at hpos
      · have hkj : k ≠ ⟨15, σ.nx 15, 5⟩ := fun e => by rw [e] at hk1; cases hk1
        refine awp_freezeD k ?_
        have g1 : ∀ (m m' : Mem) l b, giveUp m' m (intsAV l b) = intsAV l b := fun _ _ _ _ => rfl
        have g2 : ∀ (m m' : Mem) l b, giveUp m' m (linksAV l b) = linksAV l b := fun _ _ _ _ => rfl
        have g3 : ∀ (m m' : Mem) l b, giveUp m' m (rulesAV l b) = rulesAV l b := fun _ _ _ _ => rfl
        have g4 : ∀ (m m' : Mem), giveUp m' m (tabO T) = tabO T := fun _ _ => by cases T <;> rfl
        have f4 : giveUpD ((ρ.del ⟨15, σ.nx 15, 5⟩).del k).m (ρ.del ⟨15, σ.nx 15, 5⟩).m (giveUp (ρ.del ⟨15, σ.nx 15, 5⟩).m ρ.m (B 4)) = labO (some ⟨n, T, (List.range n.t.ports.length).map fun d : Nat => rowL n T d⟩) := by
          rw [a4, giveUp_rp_made (by simp [St.del]) mj rfl]
          simp only [giveUpD, AV.cells, List.map_cons, List.map_nil, labO, labC, g1, g2, g3, g4]
          rw [giveUp_rs_made (by simp [St.del]) (by rw [del_other hkj]; exact hk2) (by simp), hk1]
          simp
          exact List.take_of_length_le (by simp)
        generalize hπ : (ρ.del ⟨15, σ.nx 15, 5⟩).del k = π
        generalize hA : (fun t => giveUpD _ _ _) = A
        have b4 : A 4 = labO (some ⟨n, T, (List.range n.t.ports.length).map fun d : Nat => rowL n T d⟩) := by rw [← hA, ← hπ]; exact f4
        have b40 : A 40 = .raw (.int .i64 n.t.ports.length) := by rw [← hA]; simp [a40, giveUpD, giveUp]
        have b41 : A 41 = .raw (.int .i64 n.t.ports.length) := by rw [← hA]; simp [a41, giveUpD, giveUp]
        have hEp : Ext σ π := by
          rw [← hπ]
          refine ⟨fun i o h => ?_, hE.nx⟩
          rw [del_other (fun e => by rw [e, hk3] at h; cases h), del_other (fun e => by rw [e, f15] at h; cases h)]
          exact hE.m i o h
        clear hπ hA f4 hE a4 a40 a41 mj hI2
        generalize (⟨n, T, (List.range n.t.ports.length).map fun d : Nat => rowL n T d⟩ : Lab) = R at b4 ⊢
        (try (first | (with_reducible refine dops_go ?_; simp [-cellOK, b4, b40, b41]) | (with_reducible refine OKv_go ?_; simp [-cellOK, b4, b40, b41]) | (with_reducible refine OKr_go ?_; simp [-cellOK, b4, b40, b41]))); repeat' (first | refine awp_seq ?_ | refine awp_block ?_ | (refine awp_skip ?_; try simp) | (refine awp_exit ?_; try simp) | (refine awp_ret ?_; try simp) | (refine retP_same (by simp) ?_; simp) | (refine retP_no (by simp) (by simp [noIds]) (by repeat (first | assumption | exact Ext.refl _ | refine ext_new' ?_ | refine Ext.setF ?_ (by first | assumption | (simp [new_nx', St.set, fresh_none]; done) | exact ext_fresh (by assumption)))) ?_; simp [-cellOK, b4, b40, b41, new_m, set_m, new_nx']) | (refine awp_reg ?_; simp [-cellOK, b4, b40, b41]) | (refine awp_drawT (fun _ => false) mixed (by decide +kernel) ?_; simp [-cellOK, b4, b40, b41]) | (refine guarded_split ?_ ?_ <;> (intro hg; simp only [hg]; simp [-cellOK, b4, b40, b41])) | (apply awp_cond_t; focus (simp [-cellOK, b4, b40, b41]; done)) | (apply awp_cond_f; focus (simp [-cellOK, b4, b40, b41]; done)) | (refine awp_cond ?_; simp [-cellOK, b4, b40, b41]; refine ⟨?_, ?_⟩ <;> intro hc) | (refine awp_drawT isCallO mixed (by decide +kernel) ?_; simp [-cellOK, b4, b40, b41]) | fail)
end Go.Proofs.Ytanimmdlgmkmkaa.Av


/- label: what labels tell. -/
namespace Go.Proofs.Ytanimmdlgmkmkaa.Av
open Go
set_option linter.unusedSimpArgs false
set_option linter.unusedVariables false
set_option maxRecDepth 100000
set_option maxHeartbeats 4000000
set_option pp.maxSteps 600

theorem labAtoms_calls (L : Option Lab) : PCalls Try.prog 22 [labO L] (.raw (.int .i64 (match L with | none => 0 | some L => (L.t.getD newTab).b.sz))) := by
  cases L with
  | none =>
    refine pbody Try.func22 rfl (N := 10) rfl rfl (by simp) (by simp [noIds]) fun σ => ?_
    (try (first | (with_reducible refine dops_go ?_; simp [-cellOK, labO]) | (with_reducible refine OKv_go ?_; simp [-cellOK, labO]) | (with_reducible refine OKr_go ?_; simp [-cellOK, labO]))); repeat' (first | refine awp_seq ?_ | refine awp_block ?_ | (refine awp_skip ?_; try simp) | (refine awp_exit ?_; try simp) | (refine awp_ret ?_; try simp) | (refine retP_same (by simp) ?_; simp) | (refine retP_no (by simp) (by simp [noIds]) (by repeat (first | assumption | exact Ext.refl _ | refine ext_new' ?_ | refine Ext.setF ?_ (by first | assumption | (simp [new_nx', St.set, fresh_none]; done) | exact ext_fresh (by assumption)))) ?_; simp [-cellOK, labO, new_m, set_m, new_nx']) | (refine awp_reg ?_; simp [-cellOK, labO]) | (refine awp_drawT (fun _ => false) mixed (by decide +kernel) ?_; simp [-cellOK, labO]) | (refine guarded_split ?_ ?_ <;> (intro hg; simp only [hg]; simp [-cellOK, labO])) | (apply awp_cond_t; focus (simp [-cellOK, labO]; done)) | (apply awp_cond_f; focus (simp [-cellOK, labO]; done)) | (refine awp_cond ?_; simp [-cellOK, labO]; refine ⟨?_, ?_⟩ <;> intro hc) | (refine awp_drawT isCallO mixed (by decide +kernel) ?_; simp [-cellOK, labO]) | fail)
  | some L =>
    have h := tabLen_calls L.t
    refine pbody Try.func22 rfl (N := 10) rfl rfl (by simp) (by simp [noIds]) fun σ => ?_
    (try (first | (with_reducible refine dops_go ?_; simp [-cellOK, labO, labC]) | (with_reducible refine OKv_go ?_; simp [-cellOK, labO, labC]) | (with_reducible refine OKr_go ?_; simp [-cellOK, labO, labC]))); repeat' (first | refine awp_seq ?_ | refine awp_block ?_ | (refine awp_skip ?_; try simp) | (refine awp_exit ?_; try simp) | (refine awp_ret ?_; try simp) | (refine retP_same (by simp) ?_; simp) | (refine retP_no (by simp) (by simp [noIds]) (by repeat (first | assumption | exact Ext.refl _ | refine ext_new' ?_ | refine Ext.setF ?_ (by first | assumption | (simp [new_nx', St.set, fresh_none]; done) | exact ext_fresh (by assumption)))) ?_; simp [-cellOK, labO, labC, new_m, set_m, new_nx']) | (refine awp_reg ?_; simp [-cellOK, labO, labC]) | (refine awp_drawT (fun _ => false) mixed (by decide +kernel) ?_; simp [-cellOK, labO, labC]) | (refine guarded_split ?_ ?_ <;> (intro hg; simp only [hg]; simp [-cellOK, labO, labC])) | (apply awp_cond_t; focus (simp [-cellOK, labO, labC]; done)) | (apply awp_cond_f; focus (simp [-cellOK, labO, labC]; done)) | (refine awp_cond ?_; simp [-cellOK, labO, labC]; refine ⟨?_, ?_⟩ <;> intro hc) | (refine awp_drawT isCallO mixed (by decide +kernel) ?_; simp [-cellOK, labO, labC]) | (refine PCalls.use (h) ?_; simp [-cellOK, labO, labC]) | (refine Or.inl ⟨_, Or.inl (h), ?_⟩; simp [-cellOK, labO, labC]) | fail)
theorem labAtom_calls (L : Option Lab) (i : Int) (hz : ∀ M, L = some M → (M.t.getD newTab).b.sz < 2 ^ 40) :
    PCalls Try.prog 23 [labO L, .raw (.int .i64 i)] (.tup [rgAV ((L.bind fun M => atomT M.t i).getD ⟨0, 0⟩), .raw (.bool (L.bind fun M => atomT M.t i).isSome)]) := by
  cases L with
  | none =>
    refine pbody Try.func23 rfl (N := 17) rfl rfl (by simp) (by simp [noIds]) fun σ => ?_
    (try (first | (with_reducible refine dops_go ?_; simp [-cellOK, labO, rgAV, new_m, set_m, new_nx']) | (with_reducible refine OKv_go ?_; simp [-cellOK, labO, rgAV, new_m, set_m, new_nx']) | (with_reducible refine OKr_go ?_; simp [-cellOK, labO, rgAV, new_m, set_m, new_nx']))); repeat' (first | refine awp_seq ?_ | refine awp_block ?_ | (refine awp_skip ?_; try simp) | (refine awp_exit ?_; try simp) | (refine awp_ret ?_; try simp) | (refine retP_same (by simp) ?_; simp) | (refine retP_no (by simp) (by simp [noIds]) (by repeat (first | assumption | exact Ext.refl _ | refine ext_new' ?_ | refine Ext.setF ?_ (by first | assumption | (simp [new_nx', St.set, fresh_none]; done) | exact ext_fresh (by assumption)))) ?_; simp [-cellOK, labO, rgAV, new_m, set_m, new_nx', new_m, set_m, new_nx']) | (refine awp_reg ?_; simp [-cellOK, labO, rgAV, new_m, set_m, new_nx']) | (refine awp_drawT (fun _ => false) mixed (by decide +kernel) ?_; simp [-cellOK, labO, rgAV, new_m, set_m, new_nx']) | (refine guarded_split ?_ ?_ <;> (intro hg; simp only [hg]; simp [-cellOK, labO, rgAV, new_m, set_m, new_nx'])) | (apply awp_cond_t; focus (simp [-cellOK, labO, rgAV, new_m, set_m, new_nx']; done)) | (apply awp_cond_f; focus (simp [-cellOK, labO, rgAV, new_m, set_m, new_nx']; done)) | (refine awp_cond ?_; simp [-cellOK, labO, rgAV, new_m, set_m, new_nx']; refine ⟨?_, ?_⟩ <;> intro hc) | (refine awp_drawT isCallO mixed (by decide +kernel) ?_; simp [-cellOK, labO, rgAV, new_m, set_m, new_nx']) | fail)
  | some L =>
    have h := atom_calls L.t i (hz L rfl)
    show PCalls _ _ _ (.tup [rgAV ((atomT L.t i).getD ⟨0, 0⟩), .raw (.bool (atomT L.t i).isSome)])
    generalize (atomT L.t i).getD ⟨0, 0⟩ = r at h ⊢
    generalize (atomT L.t i).isSome = b at h ⊢
    have hr : AV.agg [.raw (.int .u32 r.lo), .raw (.int .u32 r.hi)] = rgAV r := rfl
    refine pbody Try.func23 rfl (N := 17) rfl rfl (by simp) (by simp [noIds]) fun σ => ?_
    (try (first | (with_reducible refine dops_go ?_; simp [-cellOK, labO, labC, hr, rg_cells, new_m, set_m, new_nx']) | (with_reducible refine OKv_go ?_; simp [-cellOK, labO, labC, hr, rg_cells, new_m, set_m, new_nx']) | (with_reducible refine OKr_go ?_; simp [-cellOK, labO, labC, hr, rg_cells, new_m, set_m, new_nx']))); repeat' (first | refine awp_seq ?_ | refine awp_block ?_ | (refine awp_skip ?_; try simp) | (refine awp_exit ?_; try simp) | (refine awp_ret ?_; try simp) | (refine retP_same (by simp) ?_; simp) | (refine retP_no (by simp) (by simp [noIds]) (by repeat (first | assumption | exact Ext.refl _ | refine ext_new' ?_ | refine Ext.setF ?_ (by first | assumption | (simp [new_nx', St.set, fresh_none]; done) | exact ext_fresh (by assumption)))) ?_; simp [-cellOK, labO, labC, hr, rg_cells, new_m, set_m, new_nx', new_m, set_m, new_nx']) | (refine awp_reg ?_; simp [-cellOK, labO, labC, hr, rg_cells, new_m, set_m, new_nx']) | (refine awp_drawT (fun _ => false) mixed (by decide +kernel) ?_; simp [-cellOK, labO, labC, hr, rg_cells, new_m, set_m, new_nx']) | (refine guarded_split ?_ ?_ <;> (intro hg; simp only [hg]; simp [-cellOK, labO, labC, hr, rg_cells, new_m, set_m, new_nx'])) | (apply awp_cond_t; focus (simp [-cellOK, labO, labC, hr, rg_cells, new_m, set_m, new_nx']; done)) | (apply awp_cond_f; focus (simp [-cellOK, labO, labC, hr, rg_cells, new_m, set_m, new_nx']; done)) | (refine awp_cond ?_; simp [-cellOK, labO, labC, hr, rg_cells, new_m, set_m, new_nx']; refine ⟨?_, ?_⟩ <;> intro hc) | (refine awp_drawT isCallO mixed (by decide +kernel) ?_; simp [-cellOK, labO, labC, hr, rg_cells, new_m, set_m, new_nx']) | (refine PCalls.use (h) ?_; simp [-cellOK, labO, labC, hr, rg_cells, new_m, set_m, new_nx']) | (refine Or.inl ⟨_, Or.inl (h), ?_⟩; simp [-cellOK, labO, labC, hr, rg_cells, new_m, set_m, new_nx']) | fail)
def atLab (L : Lab) (d a : Int) : Option Int := if 0 ≤ d ∧ 0 ≤ a then (L.rows[d.toNat]?).bind fun r => r[a.toNat]? else none
theorem labAt_calls (L : Lab) (d a : Int) (hl : L.rows.length < 2 ^ 60) (hr : ∀ r ∈ L.rows, r.length < 2 ^ 60) :
    PCalls Try.prog 24 [labO (some L), .raw (.int .i64 d), .raw (.int .i64 a)] (.tup [.raw (.int .i64 ((atLab L d a).getD 0)), .raw (.bool (atLab L d a).isSome)]) := by
  unfold atLab
  refine pbody Try.func24 rfl (N := 49) rfl rfl (by simp) (by simp [noIds]) fun σ => ?_
  by_cases h1 : d < 0
  · have h2 : ¬ (0 ≤ d ∧ 0 ≤ a) := by omega
    rw [if_neg h2]
    (try (first | (with_reducible refine dops_go ?_; simp [-cellOK, labO, labC, h1]) | (with_reducible refine OKv_go ?_; simp [-cellOK, labO, labC, h1]) | (with_reducible refine OKr_go ?_; simp [-cellOK, labO, labC, h1]))); repeat' (first | refine awp_seq ?_ | refine awp_block ?_ | (refine awp_skip ?_; try simp) | (refine awp_exit ?_; try simp) | (refine awp_ret ?_; try simp) | (refine retP_same (by simp) ?_; simp) | (refine retP_no (by simp) (by simp [noIds]) (by repeat (first | assumption | exact Ext.refl _ | refine ext_new' ?_ | refine Ext.setF ?_ (by first | assumption | (simp [new_nx', St.set, fresh_none]; done) | exact ext_fresh (by assumption)))) ?_; simp [-cellOK, labO, labC, h1, new_m, set_m, new_nx']) | (refine awp_reg ?_; simp [-cellOK, labO, labC, h1]) | (refine awp_drawT (fun _ => false) mixed (by decide +kernel) ?_; simp [-cellOK, labO, labC, h1]) | (refine guarded_split ?_ ?_ <;> (intro hg; simp only [hg]; simp [-cellOK, labO, labC, h1])) | (apply awp_cond_t; focus (simp [-cellOK, labO, labC, h1]; done)) | (apply awp_cond_f; focus (simp [-cellOK, labO, labC, h1]; done)) | (refine awp_cond ?_; simp [-cellOK, labO, labC, h1]; refine ⟨?_, ?_⟩ <;> intro hc) | (refine awp_drawT isCallO mixed (by decide +kernel) ?_; simp [-cellOK, labO, labC, h1]) | fail)
  obtain ⟨i, rfl⟩ : ∃ i : Nat, d = i := ⟨d.toNat, by omega⟩
  by_cases h3 : i < L.rows.length
  · have h3' : ¬ L.rows.length ≤ i := by omega
    obtain ⟨r, hx⟩ : ∃ r, L.rows[i] = r := ⟨_, rfl⟩
    have hx' : L.rows[i]? = some r := by rw [List.getElem?_eq_getElem h3, hx]
    by_cases h4 : a < 0
    · have h2 : ¬ (0 ≤ (i : Int) ∧ 0 ≤ a) := by omega
      rw [if_neg h2]
      (try (first | (with_reducible refine dops_go ?_; simp [-cellOK, labO, labC, inAV, intsAV, h3, h3', h4, hx, hx']) | (with_reducible refine OKv_go ?_; simp [-cellOK, labO, labC, inAV, intsAV, h3, h3', h4, hx, hx']) | (with_reducible refine OKr_go ?_; simp [-cellOK, labO, labC, inAV, intsAV, h3, h3', h4, hx, hx']))); repeat' (first | refine awp_seq ?_ | refine awp_block ?_ | (refine awp_skip ?_; try simp) | (refine awp_exit ?_; try simp) | (refine awp_ret ?_; try simp) | (refine retP_same (by simp) ?_; simp) | (refine retP_no (by simp) (by simp [noIds]) (by repeat (first | assumption | exact Ext.refl _ | refine ext_new' ?_ | refine Ext.setF ?_ (by first | assumption | (simp [new_nx', St.set, fresh_none]; done) | exact ext_fresh (by assumption)))) ?_; simp [-cellOK, labO, labC, inAV, intsAV, h3, h3', h4, hx, hx', new_m, set_m, new_nx']) | (refine awp_reg ?_; simp [-cellOK, labO, labC, inAV, intsAV, h3, h3', h4, hx, hx']) | (refine awp_drawT (fun _ => false) mixed (by decide +kernel) ?_; simp [-cellOK, labO, labC, inAV, intsAV, h3, h3', h4, hx, hx']) | (refine guarded_split ?_ ?_ <;> (intro hg; simp only [hg]; simp [-cellOK, labO, labC, inAV, intsAV, h3, h3', h4, hx, hx'])) | (apply awp_cond_t; focus (simp [-cellOK, labO, labC, inAV, intsAV, h3, h3', h4, hx, hx']; done)) | (apply awp_cond_f; focus (simp [-cellOK, labO, labC, inAV, intsAV, h3, h3', h4, hx, hx']; done)) | (refine awp_cond ?_; simp [-cellOK, labO, labC, inAV, intsAV, h3, h3', h4, hx, hx']; refine ⟨?_, ?_⟩ <;> intro hc) | (refine awp_drawT isCallO mixed (by decide +kernel) ?_; simp [-cellOK, labO, labC, inAV, intsAV, h3, h3', h4, hx, hx']) | fail)
    obtain ⟨k, rfl⟩ : ∃ k : Nat, a = k := ⟨a.toNat, by omega⟩
    have h2 : (0 ≤ (i : Int) ∧ 0 ≤ (k : Int)) := by omega
    rw [if_pos h2, Int.toNat_natCast, Int.toNat_natCast, hx', Option.bind_some]
    by_cases h5 : k < r.length
    · have h5' : ¬ r.length ≤ k := by omega
      obtain ⟨x, hy⟩ : ∃ x, r[k] = x := ⟨_, rfl⟩
      have hy' : r[k]? = some x := by rw [List.getElem?_eq_getElem h5, hy]
      rw [hy']
      (try (first | (with_reducible refine dops_go ?_; simp [-cellOK, labO, labC, inAV, intsAV, iAV, h3, h3', hx, hx', h5, h5', hy, hy']) | (with_reducible refine OKv_go ?_; simp [-cellOK, labO, labC, inAV, intsAV, iAV, h3, h3', hx, hx', h5, h5', hy, hy']) | (with_reducible refine OKr_go ?_; simp [-cellOK, labO, labC, inAV, intsAV, iAV, h3, h3', hx, hx', h5, h5', hy, hy']))); repeat' (first | refine awp_seq ?_ | refine awp_block ?_ | (refine awp_skip ?_; try simp) | (refine awp_exit ?_; try simp) | (refine awp_ret ?_; try simp) | (refine retP_same (by simp) ?_; simp) | (refine retP_no (by simp) (by simp [noIds]) (by repeat (first | assumption | exact Ext.refl _ | refine ext_new' ?_ | refine Ext.setF ?_ (by first | assumption | (simp [new_nx', St.set, fresh_none]; done) | exact ext_fresh (by assumption)))) ?_; simp [-cellOK, labO, labC, inAV, intsAV, iAV, h3, h3', hx, hx', h5, h5', hy, hy', new_m, set_m, new_nx']) | (refine awp_reg ?_; simp [-cellOK, labO, labC, inAV, intsAV, iAV, h3, h3', hx, hx', h5, h5', hy, hy']) | (refine awp_drawT (fun _ => false) mixed (by decide +kernel) ?_; simp [-cellOK, labO, labC, inAV, intsAV, iAV, h3, h3', hx, hx', h5, h5', hy, hy']) | (refine guarded_split ?_ ?_ <;> (intro hg; simp only [hg]; simp [-cellOK, labO, labC, inAV, intsAV, iAV, h3, h3', hx, hx', h5, h5', hy, hy'])) | (apply awp_cond_t; focus (simp [-cellOK, labO, labC, inAV, intsAV, iAV, h3, h3', hx, hx', h5, h5', hy, hy']; done)) | (apply awp_cond_f; focus (simp [-cellOK, labO, labC, inAV, intsAV, iAV, h3, h3', hx, hx', h5, h5', hy, hy']; done)) | (refine awp_cond ?_; simp [-cellOK, labO, labC, inAV, intsAV, iAV, h3, h3', hx, hx', h5, h5', hy, hy']; refine ⟨?_, ?_⟩ <;> intro hc) | (refine awp_drawT isCallO mixed (by decide +kernel) ?_; simp [-cellOK, labO, labC, inAV, intsAV, iAV, h3, h3', hx, hx', h5, h5', hy, hy']) | fail)
      all_goals (exfalso; simp only [Bool.not_false, decide_eq_true_eq] at hg; omega)
    · have h5' : r.length ≤ k := by omega
      have hy' : r[k]? = none := List.getElem?_eq_none (by omega)
      rw [hy']
      (try (first | (with_reducible refine dops_go ?_; simp [-cellOK, labO, labC, inAV, intsAV, iAV, h3, h3', hx, hx', h5, h5', hy']) | (with_reducible refine OKv_go ?_; simp [-cellOK, labO, labC, inAV, intsAV, iAV, h3, h3', hx, hx', h5, h5', hy']) | (with_reducible refine OKr_go ?_; simp [-cellOK, labO, labC, inAV, intsAV, iAV, h3, h3', hx, hx', h5, h5', hy']))); repeat' (first | refine awp_seq ?_ | refine awp_block ?_ | (refine awp_skip ?_; try simp) | (refine awp_exit ?_; try simp) | (refine awp_ret ?_; try simp) | (refine retP_same (by simp) ?_; simp) | (refine retP_no (by simp) (by simp [noIds]) (by repeat (first | assumption | exact Ext.refl _ | refine ext_new' ?_ | refine Ext.setF ?_ (by first | assumption | (simp [new_nx', St.set, fresh_none]; done) | exact ext_fresh (by assumption)))) ?_; simp [-cellOK, labO, labC, inAV, intsAV, iAV, h3, h3', hx, hx', h5, h5', hy', new_m, set_m, new_nx']) | (refine awp_reg ?_; simp [-cellOK, labO, labC, inAV, intsAV, iAV, h3, h3', hx, hx', h5, h5', hy']) | (refine awp_drawT (fun _ => false) mixed (by decide +kernel) ?_; simp [-cellOK, labO, labC, inAV, intsAV, iAV, h3, h3', hx, hx', h5, h5', hy']) | (refine guarded_split ?_ ?_ <;> (intro hg; simp only [hg]; simp [-cellOK, labO, labC, inAV, intsAV, iAV, h3, h3', hx, hx', h5, h5', hy'])) | (apply awp_cond_t; focus (simp [-cellOK, labO, labC, inAV, intsAV, iAV, h3, h3', hx, hx', h5, h5', hy']; done)) | (apply awp_cond_f; focus (simp [-cellOK, labO, labC, inAV, intsAV, iAV, h3, h3', hx, hx', h5, h5', hy']; done)) | (refine awp_cond ?_; simp [-cellOK, labO, labC, inAV, intsAV, iAV, h3, h3', hx, hx', h5, h5', hy']; refine ⟨?_, ?_⟩ <;> intro hc) | (refine awp_drawT isCallO mixed (by decide +kernel) ?_; simp [-cellOK, labO, labC, inAV, intsAV, iAV, h3, h3', hx, hx', h5, h5', hy']) | fail)
  · have h3' : L.rows.length ≤ i := by omega
    have hx' : L.rows[i]? = none := List.getElem?_eq_none (by omega)
    have e : (if 0 ≤ (i : Int) ∧ 0 ≤ a then (L.rows[(i : Int).toNat]?).bind fun r => r[a.toNat]? else none) = none := by
      rw [Int.toNat_natCast, hx']; split <;> rfl
    rw [e]
    (try (first | (with_reducible refine dops_go ?_; simp [-cellOK, labO, labC, h3, h3', hx']) | (with_reducible refine OKv_go ?_; simp [-cellOK, labO, labC, h3, h3', hx']) | (with_reducible refine OKr_go ?_; simp [-cellOK, labO, labC, h3, h3', hx']))); repeat' (first | refine awp_seq ?_ | refine awp_block ?_ | (refine awp_skip ?_; try simp) | (refine awp_exit ?_; try simp) | (refine awp_ret ?_; try simp) | (refine retP_same (by simp) ?_; simp) | (refine retP_no (by simp) (by simp [noIds]) (by repeat (first | assumption | exact Ext.refl _ | refine ext_new' ?_ | refine Ext.setF ?_ (by first | assumption | (simp [new_nx', St.set, fresh_none]; done) | exact ext_fresh (by assumption)))) ?_; simp [-cellOK, labO, labC, h3, h3', hx', new_m, set_m, new_nx']) | (refine awp_reg ?_; simp [-cellOK, labO, labC, h3, h3', hx']) | (refine awp_drawT (fun _ => false) mixed (by decide +kernel) ?_; simp [-cellOK, labO, labC, h3, h3', hx']) | (refine guarded_split ?_ ?_ <;> (intro hg; simp only [hg]; simp [-cellOK, labO, labC, h3, h3', hx'])) | (apply awp_cond_t; focus (simp [-cellOK, labO, labC, h3, h3', hx']; done)) | (apply awp_cond_f; focus (simp [-cellOK, labO, labC, h3, h3', hx']; done)) | (refine awp_cond ?_; simp [-cellOK, labO, labC, h3, h3', hx']; refine ⟨?_, ?_⟩ <;> intro hc) | (refine awp_drawT isCallO mixed (by decide +kernel) ?_; simp [-cellOK, labO, labC, h3, h3', hx']) | fail)
end Go.Proofs.Ytanimmdlgmkmkaa.Av


/- label: the document's answer at a device. -/
namespace Go.Proofs.Ytanimmdlgmkmkaa.Av
open Go
set_option linter.unusedSimpArgs false
set_option linter.unusedVariables false
set_option maxRecDepth 100000
set_option maxHeartbeats 4000000
set_option pp.maxSteps 600

def refAtI (n : Nw) (d a : Int) : Int := if (refStepF n d a).1 = 2 then -3 else if (refStepF n d a).1 = 1 then -2 else if (refStepF n d a).1 = 0 then -1 else (refStepF n d a).2.port
end Go.Proofs.Ytanimmdlgmkmkaa.Av


/- label: a rule's place by its ID; a list without one of its rules; a network of one's own whose rules may be written. -/
namespace Go.Proofs.Ytanimmdlgmkmkaa.Av
open Go
set_option linter.unusedSimpArgs false
set_option linter.unusedVariables false
set_option maxRecDepth 100000
set_option maxHeartbeats 4000000
set_option pp.maxSteps 600

theorem findCmp_calls (r : Ru) (id : Int) : PCalls Try.prog 101 [ruAV r, .raw (.int .i64 id)] (.raw (.int .i64 (cmpI r.id id))) := by
  have h := compare_calls r.id id
  refine pbody Try.func101 rfl (N := 9) rfl rfl (by simp) (by simp [noIds]) fun σ => ?_
  (try (first | (with_reducible refine dops_go ?_; simp [-cellOK, ru_cells]) | (with_reducible refine OKv_go ?_; simp [-cellOK, ru_cells]) | (with_reducible refine OKr_go ?_; simp [-cellOK, ru_cells]))); repeat' (first | refine awp_seq ?_ | refine awp_block ?_ | (refine awp_skip ?_; try simp) | (refine awp_exit ?_; try simp) | (refine awp_ret ?_; try simp) | (refine retP_same (by simp) ?_; simp) | (refine retP_no (by simp) (by simp [noIds]) (by repeat (first | assumption | exact Ext.refl _ | refine ext_new' ?_ | refine Ext.setF ?_ (by first | assumption | (simp [new_nx', St.set, fresh_none]; done) | exact ext_fresh (by assumption)))) ?_; simp [-cellOK, ru_cells, new_m, set_m, new_nx']) | (refine awp_reg ?_; simp [-cellOK, ru_cells]) | (refine awp_drawT (fun _ => false) mixed (by decide +kernel) ?_; simp [-cellOK, ru_cells]) | (refine guarded_split ?_ ?_ <;> (intro hg; simp only [hg]; simp [-cellOK, ru_cells])) | (apply awp_cond_t; focus (simp [-cellOK, ru_cells]; done)) | (apply awp_cond_f; focus (simp [-cellOK, ru_cells]; done)) | (refine awp_cond ?_; simp [-cellOK, ru_cells]; refine ⟨?_, ?_⟩ <;> intro hc) | (refine awp_drawT isCallO mixed (by decide +kernel) ?_; simp [-cellOK, ru_cells]) | (refine PCalls.use (h) ?_; simp [-cellOK, ru_cells]) | (refine Or.inl ⟨_, Or.inl (h), ?_⟩; simp [-cellOK, ru_cells]) | fail)
theorem fdiv2 (i j : Nat) : ((i : Int) + j).fdiv 2 = ((i + j) / 2 : Nat) := by
  rw [Int.fdiv_eq_ediv_of_nonneg _ (by omega)]; omega
/-- Where what is searched begins. -/
def firstGe (c : Ru → Int) (z : List Ru) : Nat := z.findIdx fun r => decide (0 ≤ c r)
theorem ruSearch_calls (g : FuncId) (c : Ru → Int) (z : List Ru) (fz : Bool) (a : Int) (hl : z.length < 2 ^ 60)
    (hg : ∀ r ∈ z, PCalls Try.prog g [ruAV r, .raw (.int .i64 a)] (.raw (.int .i64 (c r))))
    (hm : ∀ (i j : Nat) r s, i < j → z[i]? = some r → z[j]? = some s → c s < 0 → c r < 0) :
    PCalls Try.prog 100 [rulesAV z fz, .raw (.int .i64 a), .fn (.func g) [] []] (.tup [.raw (.int .i64 (firstGe c z)), .raw (.bool (match z[firstGe c z]? with | some r => decide (c r = 0) | none => false))]) := by
  refine pbody Try.func100 rfl (N := 49) rfl rfl (by simp) (by simp [noIds]) fun σ => ?_
  (try (first | (with_reducible refine dops_go ?_; simp [rulesAV]) | (with_reducible refine OKv_go ?_; simp [rulesAV]) | (with_reducible refine OKr_go ?_; simp [rulesAV]))); repeat' (first | refine awp_seq ?_ | refine awp_block ?_ | (refine awp_skip ?_; try simp) | (refine awp_exit ?_; try simp) | (refine awp_ret ?_; try simp) | (refine retP_same (by simp) ?_; simp) | (refine retP_flat (by simp) (by simp) (by simp (maxDischargeDepth := 30) [rulesAV]) ?_; simp) | (refine awp_reg ?_; simp [rulesAV]) | (refine awp_drawT (fun _ => false) mixed (by decide +kernel) ?_; simp [rulesAV]) | (refine guarded_split ?_ ?_ <;> (intro hg; simp only [hg]; simp [rulesAV])) | (apply awp_cond_t; focus (simp [rulesAV]; done)) | (apply awp_cond_f; focus (simp [rulesAV]; done)) | (refine awp_cond ?_; simp [rulesAV]; refine ⟨?_, ?_⟩ <;> intro hc))
  refine awp_loop (fun n A τ => τ = σ ∧ A 0 = rulesAV z fz ∧ A 1 = .raw (.int .i64 a) ∧ A 2 = .fn (.func g) [] [] ∧ A 8 = .raw (.int .i64 z.length) ∧ ∃ i j : Nat, A 9 = .raw (.int .i64 i) ∧ A 10 = .raw (.int .i64 j) ∧ i ≤ j ∧ j ≤ z.length ∧ n = j - i ∧
    (∀ k r, k < i → z[k]? = some r → c r < 0) ∧ (∀ k r, j ≤ k → z[k]? = some r → 0 ≤ c r)) z.length ?_ ?_
  · simp [rulesAV]
    refine ⟨0, by simp, z.length, by simp, by omega, by omega, by omega, fun k r h => by omega, fun k r h hk => ?_⟩
    have := (List.getElem?_eq_some_iff.1 hk).1; omega
  rintro n A τ ⟨rfl, a0, a1, a2, a8, i, j, a9, a10, hij, hj, rfl, hlo, hhi⟩
  by_cases hlt : i < j
  · have hh : (i + j) / 2 < z.length := by omega
    have hx : z[(i + j) / 2]? = some z[(i + j) / 2] := List.getElem?_eq_getElem hh
    have w1 : IntKind.i64.wrap ((i : Int) + j) = (i : Int) + j := wrap64 (by omega) (by omega)
    have w2 : IntKind.u64.wrap ((i : Int) + j) = (i : Int) + j := wrapU64 (by omega) (by omega)
    have w3 := fdiv2 i j
    have w4 : IntKind.i64.wrap (((i + j) / 2 : Nat) : Int) = (((i + j) / 2 : Nat) : Int) := wrap64 (by omega) (by omega)
    have w5 : IntKind.i64.wrap ((((i + j) / 2 : Nat) : Int) + 1) = ((((i + j) / 2 : Nat) : Int) + 1) := wrap64 (by omega) (by omega)
    generalize hk : (i + j) / 2 = k at *
    (try (first | (with_reducible refine dops_go ?_; simp [a0, a1, a2, a8, a9, a10, rulesAV, hlt, hx, w1, w2, w3, w4, w5, IntKind.bits, ru_cells, ru_fold]) | (with_reducible refine OKv_go ?_; simp [a0, a1, a2, a8, a9, a10, rulesAV, hlt, hx, w1, w2, w3, w4, w5, IntKind.bits, ru_cells, ru_fold]) | (with_reducible refine OKr_go ?_; simp [a0, a1, a2, a8, a9, a10, rulesAV, hlt, hx, w1, w2, w3, w4, w5, IntKind.bits, ru_cells, ru_fold]))); repeat' (first | refine awp_seq ?_ | refine awp_block ?_ | (refine awp_skip ?_; try simp) | (refine awp_exit ?_; try simp) | (refine awp_ret ?_; try simp) | (refine retP_same (by simp) ?_; simp) | (refine retP_flat (by simp) (by simp) (by simp (maxDischargeDepth := 30) [a0, a1, a2, a8, a9, a10, rulesAV, hlt, hx, w1, w2, w3, w4, w5, IntKind.bits, ru_cells, ru_fold]) ?_; simp) | (refine awp_reg ?_; simp [a0, a1, a2, a8, a9, a10, rulesAV, hlt, hx, w1, w2, w3, w4, w5, IntKind.bits, ru_cells, ru_fold]) | (refine awp_drawT (fun _ => false) mixed (by decide +kernel) ?_; simp [a0, a1, a2, a8, a9, a10, rulesAV, hlt, hx, w1, w2, w3, w4, w5, IntKind.bits, ru_cells, ru_fold]) | (refine guarded_split ?_ ?_ <;> (intro hg; simp only [hg]; simp [a0, a1, a2, a8, a9, a10, rulesAV, hlt, hx, w1, w2, w3, w4, w5, IntKind.bits, ru_cells, ru_fold])) | (apply awp_cond_t; focus (simp [a0, a1, a2, a8, a9, a10, rulesAV, hlt, hx, w1, w2, w3, w4, w5, IntKind.bits, ru_cells, ru_fold]; done)) | (apply awp_cond_f; focus (simp [a0, a1, a2, a8, a9, a10, rulesAV, hlt, hx, w1, w2, w3, w4, w5, IntKind.bits, ru_cells, ru_fold]; done)) | (refine awp_cond ?_; simp [a0, a1, a2, a8, a9, a10, rulesAV, hlt, hx, w1, w2, w3, w4, w5, IntKind.bits, ru_cells, ru_fold]; refine ⟨?_, ?_⟩ <;> intro hc))
    refine PCalls.use (hg z[k] (List.getElem_mem _)) ?_
    (try (first | (with_reducible refine dops_go ?_; simp [a0, a1, a2, a8, a9, a10, rulesAV, hlt, hx, w1, w2, w3, w4, w5, IntKind.bits, ru_cells, ru_fold]) | (with_reducible refine OKv_go ?_; simp [a0, a1, a2, a8, a9, a10, rulesAV, hlt, hx, w1, w2, w3, w4, w5, IntKind.bits, ru_cells, ru_fold]) | (with_reducible refine OKr_go ?_; simp [a0, a1, a2, a8, a9, a10, rulesAV, hlt, hx, w1, w2, w3, w4, w5, IntKind.bits, ru_cells, ru_fold]))); repeat' (first | refine awp_seq ?_ | refine awp_block ?_ | (refine awp_skip ?_; try simp) | (refine awp_exit ?_; try simp) | (refine awp_ret ?_; try simp) | (refine retP_same (by simp) ?_; simp) | (refine retP_flat (by simp) (by simp) (by simp (maxDischargeDepth := 30) [a0, a1, a2, a8, a9, a10, rulesAV, hlt, hx, w1, w2, w3, w4, w5, IntKind.bits, ru_cells, ru_fold]) ?_; simp) | (refine awp_reg ?_; simp [a0, a1, a2, a8, a9, a10, rulesAV, hlt, hx, w1, w2, w3, w4, w5, IntKind.bits, ru_cells, ru_fold]) | (refine awp_drawT (fun _ => false) mixed (by decide +kernel) ?_; simp [a0, a1, a2, a8, a9, a10, rulesAV, hlt, hx, w1, w2, w3, w4, w5, IntKind.bits, ru_cells, ru_fold]) | (refine guarded_split ?_ ?_ <;> (intro hg; simp only [hg]; simp [a0, a1, a2, a8, a9, a10, rulesAV, hlt, hx, w1, w2, w3, w4, w5, IntKind.bits, ru_cells, ru_fold])) | (apply awp_cond_t; focus (simp [a0, a1, a2, a8, a9, a10, rulesAV, hlt, hx, w1, w2, w3, w4, w5, IntKind.bits, ru_cells, ru_fold]; done)) | (apply awp_cond_f; focus (simp [a0, a1, a2, a8, a9, a10, rulesAV, hlt, hx, w1, w2, w3, w4, w5, IntKind.bits, ru_cells, ru_fold]; done)) | (refine awp_cond ?_; simp [a0, a1, a2, a8, a9, a10, rulesAV, hlt, hx, w1, w2, w3, w4, w5, IntKind.bits, ru_cells, ru_fold]; refine ⟨?_, ?_⟩ <;> intro hc))
    · refine ⟨j - (k + 1), by omega, k + 1, by simp, j, rfl, by omega, hj, rfl, fun l r h h2 => ?_, hhi⟩
      by_cases e : l = k
      · subst e
        rw [hx] at h2
        injection h2 with h2
        subst h2; exact hc
      · exact hm l k r z[k] (by omega) h2 hx hc
    · refine ⟨k - i, by omega, i, rfl, k, rfl, by omega, by omega, rfl, hlo, fun l r h h2 => ?_⟩
      by_cases e : l = k
      · subst e
        rw [hx] at h2
        injection h2 with h2
        subst h2; exact hc
      · exact Int.not_lt.1 fun h3 => absurd (hm k l z[k] r (by omega) hx h2 h3) (by omega)
  · have hij : i = j := by omega
    subst hij
    have hf : firstGe c z = i := by
      unfold firstGe
      by_cases hi : i < z.length
      · rw [List.findIdx_eq hi]
        refine ⟨by simpa using hhi i z[i] (Nat.le_refl _) (List.getElem?_eq_getElem hi), fun k hk => ?_⟩
        have := hlo k z[k] hk (List.getElem?_eq_getElem (by omega))
        simpa using this
      · have : i = z.length := by omega
        subst this
        rw [List.findIdx_eq_length]
        intro r hr
        obtain ⟨k, hk, rfl⟩ := List.mem_iff_getElem.1 hr
        have := hlo k z[k] hk (List.getElem?_eq_getElem hk)
        simpa using this
    rw [hf]
    by_cases hi : i < z.length
    · have hx : z[i]? = some z[i] := List.getElem?_eq_getElem hi
      (try (first | (with_reducible refine dops_go ?_; simp [a0, a1, a2, a8, a9, a10, rulesAV, hx, hi, ru_cells, ru_fold]) | (with_reducible refine OKv_go ?_; simp [a0, a1, a2, a8, a9, a10, rulesAV, hx, hi, ru_cells, ru_fold]) | (with_reducible refine OKr_go ?_; simp [a0, a1, a2, a8, a9, a10, rulesAV, hx, hi, ru_cells, ru_fold]))); repeat' (first | refine awp_seq ?_ | refine awp_block ?_ | (refine awp_skip ?_; try simp) | (refine awp_exit ?_; try simp) | (refine awp_ret ?_; try simp) | (refine retP_same (by simp) ?_; simp) | (refine retP_flat (by simp) (by simp) (by simp (maxDischargeDepth := 30) [a0, a1, a2, a8, a9, a10, rulesAV, hx, hi, ru_cells, ru_fold]) ?_; simp) | (refine awp_reg ?_; simp [a0, a1, a2, a8, a9, a10, rulesAV, hx, hi, ru_cells, ru_fold]) | (refine awp_drawT (fun _ => false) mixed (by decide +kernel) ?_; simp [a0, a1, a2, a8, a9, a10, rulesAV, hx, hi, ru_cells, ru_fold]) | (refine guarded_split ?_ ?_ <;> (intro hg; simp only [hg]; simp [a0, a1, a2, a8, a9, a10, rulesAV, hx, hi, ru_cells, ru_fold])) | (apply awp_cond_t; focus (simp [a0, a1, a2, a8, a9, a10, rulesAV, hx, hi, ru_cells, ru_fold]; done)) | (apply awp_cond_f; focus (simp [a0, a1, a2, a8, a9, a10, rulesAV, hx, hi, ru_cells, ru_fold]; done)) | (refine awp_cond ?_; simp [a0, a1, a2, a8, a9, a10, rulesAV, hx, hi, ru_cells, ru_fold]; refine ⟨?_, ?_⟩ <;> intro hc))
      refine PCalls.use (hg z[i] (List.getElem_mem _)) ?_
      (try (first | (with_reducible refine dops_go ?_; simp [a0, a1, a2, a8, a9, a10, rulesAV, hx, hi, ru_cells, ru_fold]) | (with_reducible refine OKv_go ?_; simp [a0, a1, a2, a8, a9, a10, rulesAV, hx, hi, ru_cells, ru_fold]) | (with_reducible refine OKr_go ?_; simp [a0, a1, a2, a8, a9, a10, rulesAV, hx, hi, ru_cells, ru_fold]))); repeat' (first | refine awp_seq ?_ | refine awp_block ?_ | (refine awp_skip ?_; try simp) | (refine awp_exit ?_; try simp) | (refine awp_ret ?_; try simp) | (refine retP_same (by simp) ?_; simp) | (refine retP_flat (by simp) (by simp) (by simp (maxDischargeDepth := 30) [a0, a1, a2, a8, a9, a10, rulesAV, hx, hi, ru_cells, ru_fold]) ?_; simp) | (refine awp_reg ?_; simp [a0, a1, a2, a8, a9, a10, rulesAV, hx, hi, ru_cells, ru_fold]) | (refine awp_drawT (fun _ => false) mixed (by decide +kernel) ?_; simp [a0, a1, a2, a8, a9, a10, rulesAV, hx, hi, ru_cells, ru_fold]) | (refine guarded_split ?_ ?_ <;> (intro hg; simp only [hg]; simp [a0, a1, a2, a8, a9, a10, rulesAV, hx, hi, ru_cells, ru_fold])) | (apply awp_cond_t; focus (simp [a0, a1, a2, a8, a9, a10, rulesAV, hx, hi, ru_cells, ru_fold]; done)) | (apply awp_cond_f; focus (simp [a0, a1, a2, a8, a9, a10, rulesAV, hx, hi, ru_cells, ru_fold]; done)) | (refine awp_cond ?_; simp [a0, a1, a2, a8, a9, a10, rulesAV, hx, hi, ru_cells, ru_fold]; refine ⟨?_, ?_⟩ <;> intro hc))
      rw [hx]
    · have hx : z[i]? = none := List.getElem?_eq_none (by omega)
      (try (first | (with_reducible refine dops_go ?_; simp [a0, a1, a2, a8, a9, a10, rulesAV, hx, hi, ru_cells, ru_fold]) | (with_reducible refine OKv_go ?_; simp [a0, a1, a2, a8, a9, a10, rulesAV, hx, hi, ru_cells, ru_fold]) | (with_reducible refine OKr_go ?_; simp [a0, a1, a2, a8, a9, a10, rulesAV, hx, hi, ru_cells, ru_fold]))); repeat' (first | refine awp_seq ?_ | refine awp_block ?_ | (refine awp_skip ?_; try simp) | (refine awp_exit ?_; try simp) | (refine awp_ret ?_; try simp) | (refine retP_same (by simp) ?_; simp) | (refine retP_flat (by simp) (by simp) (by simp (maxDischargeDepth := 30) [a0, a1, a2, a8, a9, a10, rulesAV, hx, hi, ru_cells, ru_fold]) ?_; simp) | (refine awp_reg ?_; simp [a0, a1, a2, a8, a9, a10, rulesAV, hx, hi, ru_cells, ru_fold]) | (refine awp_drawT (fun _ => false) mixed (by decide +kernel) ?_; simp [a0, a1, a2, a8, a9, a10, rulesAV, hx, hi, ru_cells, ru_fold]) | (refine guarded_split ?_ ?_ <;> (intro hg; simp only [hg]; simp [a0, a1, a2, a8, a9, a10, rulesAV, hx, hi, ru_cells, ru_fold])) | (apply awp_cond_t; focus (simp [a0, a1, a2, a8, a9, a10, rulesAV, hx, hi, ru_cells, ru_fold]; done)) | (apply awp_cond_f; focus (simp [a0, a1, a2, a8, a9, a10, rulesAV, hx, hi, ru_cells, ru_fold]; done)) | (refine awp_cond ?_; simp [a0, a1, a2, a8, a9, a10, rulesAV, hx, hi, ru_cells, ru_fold]; refine ⟨?_, ?_⟩ <;> intro hc))
      rw [hx]
theorem cmpI_neg {a b : Int} : cmpI a b < 0 ↔ a < b := by unfold cmpI; (repeat' split) <;> omega
theorem cmpI_zero {a b : Int} : cmpI a b = 0 ↔ a = b := by unfold cmpI; (repeat' split) <;> omega
/-- A rule's place by its ID. -/
def placeI (z : List Ru) (id : Int) : Nat := firstGe (fun r => cmpI r.id id) z
def hereI (z : List Ru) (id : Int) : Bool := match z[placeI z id]? with | some r => decide (r.id = id) | none => false
theorem find_calls (L : Lab) (id : Int) (hl : L.n.rules.length < 2 ^ 60) (hs : L.n.rules.Pairwise fun r s => r.id < s.id) :
    PCalls Try.prog 59 [labO (some L), .raw (.int .i64 id)] (.tup [.raw (.int .i64 (placeI L.n.rules id)), .raw (.bool (hereI L.n.rules id))]) := by
  have h := ruSearch_calls 101 (fun r => cmpI r.id id) L.n.rules false id hl (fun r _ => findCmp_calls r id) (fun i j r s hij hr hs' hc => by
    rw [cmpI_neg] at *
    obtain ⟨hi, rfl⟩ := List.getElem?_eq_some_iff.1 hr
    obtain ⟨hj, rfl⟩ := List.getElem?_eq_some_iff.1 hs'
    have := List.pairwise_iff_getElem.1 hs i j hi hj hij
    omega)
  have e : (match L.n.rules[firstGe (fun r => cmpI r.id id) L.n.rules]? with | some r => decide (cmpI r.id id = 0) | none => false) = hereI L.n.rules id := by
    unfold hereI placeI
    cases L.n.rules[firstGe (fun r => cmpI r.id id) L.n.rules]? with
    | none => rfl
    | some r => simp only [cmpI_zero]
  rw [e] at h
  refine pbody Try.func59 rfl (N := 15) rfl rfl (by simp) (by simp [noIds]) fun σ => ?_
  unfold placeI
  generalize firstGe (fun r => cmpI r.id id) L.n.rules = k at *
  generalize hereI L.n.rules id = b at *
  (try (first | (with_reducible refine dops_go ?_; simp [-cellOK, labO, labC]) | (with_reducible refine OKv_go ?_; simp [-cellOK, labO, labC]) | (with_reducible refine OKr_go ?_; simp [-cellOK, labO, labC]))); repeat' (first | refine awp_seq ?_ | refine awp_block ?_ | (refine awp_skip ?_; try simp) | (refine awp_exit ?_; try simp) | (refine awp_ret ?_; try simp) | (refine retP_same (by simp) ?_; simp) | (refine retP_no (by simp) (by simp [noIds]) (by repeat (first | assumption | exact Ext.refl _ | refine ext_new' ?_ | refine Ext.setF ?_ (by first | assumption | (simp [new_nx', St.set, fresh_none]; done) | exact ext_fresh (by assumption)))) ?_; simp [-cellOK, labO, labC, new_m, set_m, new_nx']) | (refine awp_reg ?_; simp [-cellOK, labO, labC]) | (refine awp_drawT (fun _ => false) mixed (by decide +kernel) ?_; simp [-cellOK, labO, labC]) | (refine guarded_split ?_ ?_ <;> (intro hg; simp only [hg]; simp [-cellOK, labO, labC])) | (apply awp_cond_t; focus (simp [-cellOK, labO, labC]; done)) | (apply awp_cond_f; focus (simp [-cellOK, labO, labC]; done)) | (refine awp_cond ?_; simp [-cellOK, labO, labC]; refine ⟨?_, ?_⟩ <;> intro hc) | (refine awp_drawT isCallO mixed (by decide +kernel) ?_; simp [-cellOK, labO, labC]) | (refine PCalls.use (h) ?_; simp [-cellOK, labO, labC]) | (refine Or.inl ⟨_, Or.inl (h), ?_⟩; simp [-cellOK, labO, labC]) | fail)

/-- append within a list's own room. -/
theorem okr_appendIn {P : Program} {τ : St} {slot : Nat} {t : TypeId} {n by_ len : Nat} {x : AV} {j : Id} {es ys : List AV} {k : AV → St → Prop} (hT : SlT P t n by_) (hm : τ.m j = some (.buf es)) (hj : j.sz = n)
    (hx : elemsOf τ.m x = some ys) (hxs : ys = [] ∨ szOf x = n) (hc : cellsOK (cellsL ys) = true) (hle : len + ys.length ≤ es.length) (hlt : len < es.length)
    (hk : k (.rs j 0 (len + ys.length)) (τ.set j (.buf (es.take len ++ ys ++ es.drop (len + ys.length))))) : OKr (opAppend P τ.m t (.rs j 0 len) x) (Res.go slot τ k) := by
  obtain ⟨e, z, h1, h2, h3, h4, h5, h6, h7⟩ := hT.ex
  unfold opAppend
  simp only [h1, h2, h3, h4, hx, hm]
  rw [if_pos ⟨hxs, h5, h6, h7, hc⟩, if_neg (by omega), if_pos ⟨trivial, hle, hj⟩]
  exact hk

def ru0 : Ru := ⟨0, 0, 0, 0, ⟨0, 0⟩, 0⟩
theorem ru0_fold : AV.agg [.raw (.int .i64 0), .raw (.int .i64 0), .raw (.int .i64 0), .raw (.int .i64 0), .raw (.int .u32 0), .raw (.int .u32 0), .raw (.int .i64 0)] = ruAV ru0 := rfl
/-- A list without one of its rules. -/
theorem ruDelete_calls {σ : St} {j : Id} {l : List Ru} {i : Nat} (hi : i < l.length) (hl : l.length < 2932031007403) (hj : j.sz = 7) (hm : σ.m j = some (.buf (l.map ruAV))) {K : AV → St → Prop}
    (hK : ∀ τ, τ.m j = some (.buf ((l.eraseIdx i ++ [ru0]).map ruAV)) → (∀ q, q ≠ j → τ.m q = σ.m q) → τ.nx = σ.nx → K (.rs j 0 (l.length - 1)) τ) :
    ACalls Try.prog 62 [.rs j 0 l.length, .raw (.int .i64 i), .raw (.int .i64 ((i + 1 : Nat) : Int))] σ K := by
  obtain ⟨m, hm1⟩ : ∃ m, l.length = m + 1 := ⟨l.length - 1, by omega⟩
  have hlen : (l.map ruAV).length = m + 1 := by simp [hm1]
  rw [hm1] at hi hl hK ⊢
  rw [List.eraseIdx_eq_take_drop_succ] at hK
  have e0 : m + 1 - 1 = m := rfl
  rw [e0] at hK
  refine abody Try.func62 rfl (N := 33) rfl rfl (by simp) ?_
  have n1 : ¬ ((i : Int) = ((i + 1 : Nat) : Int)) := by omega
  have n2 : (0 : Int) ≤ ((i + 1 : Nat) : Int) := by omega
  have n3 : (0 : Int) ≤ ((m + 1 : Nat) : Int) := by omega
  have n4 : i ≤ i + 1 := by omega
  have n5 : i + 1 ≤ m + 1 := by omega
  have n6 : i ≤ m + 1 := by omega
  have t1 : ((i + 1 : Nat) : Int).toNat = i + 1 := rfl
  have t2 : ((m + 1 : Nat) : Int).toNat = m + 1 := rfl
  have hys : (l.map ruAV).drop (i + 1) = (l.drop (i + 1)).map ruAV := by rw [List.map_drop]
  have htk : (l.map ruAV).take i = (l.take i).map ruAV := by rw [List.map_take]
  have hcut : elemsOf σ.m (cutRs j 0 (i + 1) (m + 1)) = some ((l.drop (i + 1)).map ruAV) := by
    unfold cutRs
    by_cases q : i + 1 < m + 1
    · rw [if_pos (.inr q)]
      have h2 : 0 + (i + 1) + (m + 1 - (i + 1)) ≤ (l.map ruAV).length := by omega
      simp only [elemsOf, hm]
      rw [if_pos h2, Nat.zero_add, hys, List.take_of_length_le (by simp; omega)]
    · rw [if_neg (by omega)]
      simp only [elemsOf]
      rw [List.drop_of_length_le (by omega)]; rfl
  have hcs : ((l.drop (i + 1)).map ruAV = [] ∨ szOf (cutRs j 0 (i + 1) (m + 1)) = 7) := by
    right
    unfold cutRs
    split <;> simp [szOf, hj]
  have hc0 : cutRs j 0 0 i = .rs j 0 i := by simp [cutRs]
  have hdl : ((l.drop (i + 1)).map ruAV).length = m - i := by simp; omega
  obtain ⟨xl, hlast⟩ : ∃ x : Ru, (l.map ruAV).drop (i + (m - i)) = [ruAV x] := by
    have : i + (m - i) = m := by omega
    exact ⟨l[m]'(by omega), by rw [this, List.drop_eq_getElem_cons (by omega), List.drop_of_length_le (by omega)]; simp⟩
  generalize hi1 : i + 1 = i1 at *
  generalize hmm : m + 1 = m1 at *
  refine awp_seq ?_
  (try (first | (with_reducible refine dops_go ?_; simp [n1, n2, n3, n4, n5, n6, t1, t2, hj, hc0, -opAppend]) | (with_reducible refine OKv_go ?_; simp [n1, n2, n3, n4, n5, n6, t1, t2, hj, hc0, -opAppend]) | (with_reducible refine OKr_go ?_; simp [n1, n2, n3, n4, n5, n6, t1, t2, hj, hc0, -opAppend]))); repeat' (first | refine awp_seq ?_ | refine awp_block ?_ | (refine awp_skip ?_; try simp) | (refine awp_exit ?_; try simp) | (refine awp_ret ?_; try simp) | (refine awp_reg ?_; simp [n1, n2, n3, n4, n5, n6, t1, t2, hj, hc0, -opAppend]) | (refine awp_drawT (fun _ => false) mixed (by decide +kernel) ?_; simp [n1, n2, n3, n4, n5, n6, t1, t2, hj, hc0, -opAppend]) | (refine guarded_split ?_ ?_ <;> (intro hg; simp only [hg]; simp [n1, n2, n3, n4, n5, n6, t1, t2, hj, hc0, -opAppend])) | (apply awp_cond_t; focus (simp [n1, n2, n3, n4, n5, n6, t1, t2, hj, hc0, -opAppend]; done)) | (apply awp_cond_f; focus (simp [n1, n2, n3, n4, n5, n6, t1, t2, hj, hc0, -opAppend]; done)) | (refine awp_cond ?_; simp [n1, n2, n3, n4, n5, n6, t1, t2, hj, hc0, -opAppend]; refine ⟨?_, ?_⟩ <;> intro hc))
  refine okr_appendIn slt26 hm hj hcut hcs (ok_ru _) (by rw [hdl]; omega) (by omega) ?_
  rw [hdl, htk, hlast]
  have e3 : i + (m - i) = m := by omega
  rw [e3]
  (try (first | (with_reducible refine dops_go ?_; simp) | (with_reducible refine OKv_go ?_; simp) | (with_reducible refine OKr_go ?_; simp)))
  have hms : ∀ x, (σ.set j x).m j = some x := fun x => set_hit hm
  have hle2 : m < m1 := by omega
  have hln : (List.map ruAV (l.take i) ++ List.map ruAV (l.drop i1) ++ [ruAV xl]).length = m1 := by simp; omega
  have ht : (List.map ruAV (l.take i) ++ List.map ruAV (l.drop i1) ++ [ruAV xl]).take m = List.map ruAV (l.take i) ++ List.map ruAV (l.drop i1) := by
    rw [List.take_left']; simp; omega
  have hd' : (List.map ruAV (l.take i) ++ List.map ruAV (l.drop i1) ++ [ruAV xl]).drop (m + 1) = [] := List.drop_of_length_le (by omega)
  have hd := hd'
  generalize List.map ruAV (l.take i) ++ List.map ruAV (l.drop i1) ++ [ruAV xl] = E at *
  have h01 : m1 - m = 0 + 1 := by omega
  refine awp_seq ?_
  refine awp_regX 4 rfl rfl ?_
  dsimp only [List.take, List.drop]
  simp
  refine sstep_sliceX (e := 85) (n := 7) (k1 := .i64) (k2 := .i64) (i := j) (off := 0) (len := m) (l := m) (h := m1) (es := E) (by simp) (by simp) hj (by omega) (by simp) (by simp) (by simp) (hms _) (by omega) hle2 ?_
  rw [h01]
  have hcl : opClear Try.prog (σ.set j (.buf E)).m 26 (.rs j m (0 + 1)) = some (.wrv j ((l.take i ++ l.drop i1 ++ [ru0]).map ruAV) (.tup [])) := by
    have h9 := hms (.buf E)
    generalize (σ.set j (.buf E)).m = mm at h9 ⊢
    simp only [List.map_append, ← ht]
    have hle : m + 1 ≤ E.length := by omega
    have hz : (ruAV ru0).cells.length = 7 := rfl
    have hz2 := ru_ok ru0
    unfold cellsOK at hz2
    simp [opClear, h9, hj, ru0_fold, hd, hle, hz]
    simpa using hz2
  (try (first | (with_reducible refine dops_go ?_; simp [hcl]) | (with_reducible refine OKv_go ?_; simp [hcl]) | (with_reducible refine OKr_go ?_; simp [hcl])))
  (try (first | (with_reducible refine dops_go ?_; simp) | (with_reducible refine OKv_go ?_; simp) | (with_reducible refine OKr_go ?_; simp))); repeat' (first | refine awp_seq ?_ | refine awp_block ?_ | (refine awp_skip ?_; try simp) | (refine awp_exit ?_; try simp) | (refine awp_ret ?_; try simp) | (refine awp_reg ?_; simp) | (refine awp_drawT (fun _ => false) mixed (by decide +kernel) ?_; simp) | (refine guarded_split ?_ ?_ <;> (intro hg; simp only [hg]; simp)) | (apply awp_cond_t; focus (simp; done)) | (apply awp_cond_f; focus (simp; done)) | (refine awp_cond ?_; simp; refine ⟨?_, ?_⟩ <;> intro hc))
  refine retK_of (x := .rs j 0 m) (.inr rfl) (by simp) (hK _ ?_ ?_ rfl)
  · rw [set_hit (hms _)]; simp
  · intro q hq; rw [set_ne hq, set_ne hq]
end Go.Proofs.Ytanimmdlgmkmkaa.Av


/- label: labels of a network that differs by a rule. -/
namespace Go.Proofs.Ytanimmdlgmkmkaa.Av
open Go
set_option linter.unusedSimpArgs false
set_option linter.unusedVariables false
set_option maxRecDepth 100000
set_option maxHeartbeats 4000000
set_option pp.maxSteps 600

theorem ruCloneM_calls (l : List Ru) (f : Bool) (hne : l ≠ []) (hl : l.length < 2932031007403) : MCalls Try.prog 87 [rulesAV l f] 7 (.buf (l.map ruAV)) fun i => .rs i 0 l.length := by
  have := mcalls_buf (P := Try.prog) (f := 87) (args := [rulesAV l f]) (n := 7) (es := l.map ruAV) (idsL_map (ru_ids _) l) fun σ => ruClone_calls l f hl fun v τ hO hE => by
    rcases hO with ⟨h, _⟩ | ⟨j, h1, h2, h3, h4⟩
    · exact absurd (List.map_eq_nil_iff.1 h) hne
    · exact ⟨j, h1, h2, h3, h4, hE⟩
  simpa using this
theorem ownO_calls (n : Nw) (f : Fl) (hn : NwOK n) (hne : n.rules ≠ []) {σ : St} {K : AV → St → Prop} (hK : ∀ v τ, OwnL σ τ 7 v (n.rules.map ruAV) → Ext σ τ → K (.agg [intsAV n.t.ports false, linksAV n.t.links false, v]) τ) :
    ACalls Try.prog 47 [nwAV n f] σ K := by
  have h1 := intClone_calls n.t.ports f.p hn.ports
  have h2 := lkClone_calls n.t.links f.l hn.links
  have h3 := ruCloneM_calls n.rules f.r hne hn.rules
  refine abody Try.func47 rfl (N := 16) rfl rfl (by simp) ?_
  have c1 : (intsAV n.t.ports false).cells = [intsAV n.t.ports false] := rfl
  have c2 : (linksAV n.t.links false).cells = [linksAV n.t.links false] := rfl
  (try (first | (with_reducible refine dops_go ?_; simp [-cellOK, nw_cells, c1, c2, new_m, set_m, new_nx']) | (with_reducible refine OKv_go ?_; simp [-cellOK, nw_cells, c1, c2, new_m, set_m, new_nx']) | (with_reducible refine OKr_go ?_; simp [-cellOK, nw_cells, c1, c2, new_m, set_m, new_nx']))); repeat' (first | refine awp_seq ?_ | refine awp_block ?_ | (refine awp_skip ?_; try simp) | (refine awp_exit ?_; try simp) | (refine awp_ret ?_; try simp) | (refine awp_reg ?_; simp [-cellOK, nw_cells, c1, c2, new_m, set_m, new_nx']) | (refine awp_drawT (fun _ => false) mixed (by decide +kernel) ?_; simp [-cellOK, nw_cells, c1, c2, new_m, set_m, new_nx']) | (refine guarded_split ?_ ?_ <;> (intro hg; simp only [hg]; simp [-cellOK, nw_cells, c1, c2, new_m, set_m, new_nx'])) | (apply awp_cond_t; focus (simp [-cellOK, nw_cells, c1, c2, new_m, set_m, new_nx']; done)) | (apply awp_cond_f; focus (simp [-cellOK, nw_cells, c1, c2, new_m, set_m, new_nx']; done)) | (refine awp_cond ?_; simp [-cellOK, nw_cells, c1, c2, new_m, set_m, new_nx']; refine ⟨?_, ?_⟩ <;> intro hc) | (refine awp_drawT isCallO mixed (by decide +kernel) ?_; simp [-cellOK, nw_cells, c1, c2, new_m, set_m, new_nx']) | (refine PCalls.use (h1) ?_; simp [-cellOK, nw_cells, c1, c2, new_m, set_m, new_nx']) | (refine Or.inl ⟨_, Or.inl (h1), ?_⟩; simp [-cellOK, nw_cells, c1, c2, new_m, set_m, new_nx']) | (refine PCalls.use (h2) ?_; simp [-cellOK, nw_cells, c1, c2, new_m, set_m, new_nx']) | (refine Or.inl ⟨_, Or.inl (h2), ?_⟩; simp [-cellOK, nw_cells, c1, c2, new_m, set_m, new_nx']) | fail)
  refine .inr ⟨_, _, _, h3, ?_⟩
  (try (first | (with_reducible refine dops_go ?_; simp [-cellOK, nw_cells, c1, c2, new_m, set_m, new_nx']) | (with_reducible refine OKv_go ?_; simp [-cellOK, nw_cells, c1, c2, new_m, set_m, new_nx']) | (with_reducible refine OKr_go ?_; simp [-cellOK, nw_cells, c1, c2, new_m, set_m, new_nx']))); repeat' (first | refine awp_seq ?_ | refine awp_block ?_ | (refine awp_skip ?_; try simp) | (refine awp_exit ?_; try simp) | (refine awp_ret ?_; try simp) | (refine awp_reg ?_; simp [-cellOK, nw_cells, c1, c2, new_m, set_m, new_nx']) | (refine awp_drawT (fun _ => false) mixed (by decide +kernel) ?_; simp [-cellOK, nw_cells, c1, c2, new_m, set_m, new_nx']) | (refine guarded_split ?_ ?_ <;> (intro hg; simp only [hg]; simp [-cellOK, nw_cells, c1, c2, new_m, set_m, new_nx'])) | (apply awp_cond_t; focus (simp [-cellOK, nw_cells, c1, c2, new_m, set_m, new_nx']; done)) | (apply awp_cond_f; focus (simp [-cellOK, nw_cells, c1, c2, new_m, set_m, new_nx']; done)) | (refine awp_cond ?_; simp [-cellOK, nw_cells, c1, c2, new_m, set_m, new_nx']; refine ⟨?_, ?_⟩ <;> intro hc) | (refine awp_drawT isCallO mixed (by decide +kernel) ?_; simp [-cellOK, nw_cells, c1, c2, new_m, set_m, new_nx']) | fail)
  refine retK_of (x := .agg [intsAV n.t.ports false, linksAV n.t.links false, .rs ⟨14, σ.nx 14, 7⟩ 0 n.rules.length]) (.inr rfl) (by simp [new_m, set_m, new_nx']) (hK _ _ (OwnL.of rfl (by simp [new_m, set_m, new_nx']) (fresh_none _ _ _) (by simp)) (by repeat (first | assumption | exact Ext.refl _ | refine ext_new' ?_ | refine Ext.setF ?_ (by first | assumption | (simp [new_nx', St.set, fresh_none]; done) | exact ext_fresh (by assumption)))))
/-- A row for other atoms. -/
def movedL (L : Lab) (T : Option Tab) (d : Nat) : List Int := (List.range (T.getD newTab).b.sz.toNat).map fun i : Nat => ((L.rows[d]?).bind fun r => r[(ofT L.t ((atomT T i).getD ⟨0, 0⟩).lo).toNat]?).getD 0
theorem moved_calls (L : Lab) (T : Option Tab) (d : Nat) (hz : (T.getD newTab).b.sz < 2 ^ 40) (hz2 : (L.t.getD newTab).b.sz < 2 ^ 40) {row : List Int} (hd : L.rows[d]? = some row)
    (ha : ∀ i : Nat, (i : Int) < (T.getD newTab).b.sz → 0 ≤ ((atomT T i).getD ⟨0, 0⟩).lo ∧ ((atomT T i).getD ⟨0, 0⟩).lo < 4294967296 ∧ 0 ≤ ofT L.t ((atomT T i).getD ⟨0, 0⟩).lo ∧ ofT L.t ((atomT T i).getD ⟨0, 0⟩).lo < row.length) :
    PCalls Try.prog 105 [labO (some L), tabO T, .raw (.int .i64 d)] (intsAV (movedL L T d) false) := by
  have hlen := tabLen_calls T
  have hof := fun a h0 h1 => tabOf_calls L.t a h0 h1 hz2
  refine pbody Try.func105 rfl (N := 43) rfl rfl (by simp) (by simp [noIds]) fun σ => ?_
  have hml : movedL L T d = (List.range (T.getD newTab).b.sz.toNat).map fun i : Nat => (row[(ofT L.t ((atomT T i).getD ⟨0, 0⟩).lo).toNat]?).getD 0 := by unfold movedL; rw [hd]; rfl
  rw [hml]
  have hat := fun i : Int => atom_calls T i hz
  generalize (T.getD newTab).b.sz = N at *
  obtain ⟨M, hM⟩ : ∃ M : Nat, N.toNat = M := ⟨_, rfl⟩
  rw [hM]
  refine awp_seq ?_
  (try (first | (with_reducible refine dops_go ?_; simp [-cellOK, labO]) | (with_reducible refine OKv_go ?_; simp [-cellOK, labO]) | (with_reducible refine OKr_go ?_; simp [-cellOK, labO]))); repeat' (first | refine awp_seq ?_ | refine awp_block ?_ | (refine awp_skip ?_; try simp) | (refine awp_exit ?_; try simp) | (refine awp_ret ?_; try simp) | (refine awp_reg ?_; simp [-cellOK, labO]) | (refine awp_drawT (fun _ => false) mixed (by decide +kernel) ?_; simp [-cellOK, labO]) | (refine guarded_split ?_ ?_ <;> (intro hg; simp only [hg]; simp [-cellOK, labO])) | (apply awp_cond_t; focus (simp [-cellOK, labO]; done)) | (apply awp_cond_f; focus (simp [-cellOK, labO]; done)) | (refine awp_cond ?_; simp [-cellOK, labO]; refine ⟨?_, ?_⟩ <;> intro hc) | (refine awp_drawT isCallO mixed (by decide +kernel) ?_; simp [-cellOK, labO]) | (refine PCalls.use (hlen) ?_; simp [-cellOK, labO]) | (refine Or.inl ⟨_, Or.inl (hlen), ?_⟩; simp [-cellOK, labO]) | fail)
  refine awp_loopH (fun n' B ρ => Ext σ ρ ∧ B 0 = labO (some L) ∧ B 1 = tabO T ∧ B 2 = .raw (.int .i64 d) ∧ B 12 = .raw (.int .i64 N) ∧ ∃ (i : Nat) (v : AV), B 13 = .raw (.int .i64 i) ∧ i ≤ M ∧ n' = M - i ∧ B 7 = v ∧ OwnL σ ρ 1 v (((List.range i).map fun i : Nat => (row[(ofT L.t ((atomT T i).getD ⟨0, 0⟩).lo).toNat]?).getD 0).map iAV)) M ?_ ?_
  · exact ⟨Ext.refl _, by simp [labO], by simp, by simp, by simp, 0, .sl 0 [] true, by simp, by omega, by omega, by simp, .inl ⟨by simp, rfl⟩⟩
  rintro n' B ρ ⟨hE, a0, a1, a2, a12, i, v, a13, hi, rfl, a7, hO⟩ I1 hI1
  by_cases hlt : (i : Int) < N
  · have w1 : IntKind.i64.wrap ((i : Int) + 1) = ((i + 1 : Nat) : Int) := by rw [wrap64 (by omega) (by omega)]; omega
    have hat := hat i
    obtain ⟨r, hr⟩ : ∃ r, (atomT T i).getD ⟨0, 0⟩ = r := ⟨_, rfl⟩
    obtain ⟨p1, p2, p3, p4⟩ := ha i hlt
    rw [hr] at hat p1 p2 p3 p4
    have hof := hof r.lo p1 p2
    obtain ⟨k, hk⟩ : ∃ k : Nat, ofT L.t r.lo = k := ⟨(ofT L.t r.lo).toNat, by omega⟩
    rw [hk] at hof p4
    have hkl : k < row.length := by omega
    obtain ⟨x, hx⟩ : ∃ x, row[k] = x := ⟨_, rfl⟩
    have hx' : row[k]? = some x := by rw [List.getElem?_eq_getElem hkl, hx]
    have hdl : d < L.rows.length := (List.getElem?_eq_some_iff.1 hd).1
    have hrd : L.rows[d] = row := (List.getElem?_eq_some_iff.1 hd).2
    generalize (atomT T i).isSome = bz at hat
    have f9 : σ.m ⟨9, ρ.nx 9, 2⟩ = none := ext_fresh hE
    (try (first | (with_reducible refine dops_go ?_; simp [-cellOK, a0, a1, a2, a7, a12, a13, hlt, hrd, hx', hx, hdl, hkl, labO, labC, inAV, intsAV, iAV, rg_cells, new_m, set_m, new_nx', -opAppend]) | (with_reducible refine OKv_go ?_; simp [-cellOK, a0, a1, a2, a7, a12, a13, hlt, hrd, hx', hx, hdl, hkl, labO, labC, inAV, intsAV, iAV, rg_cells, new_m, set_m, new_nx', -opAppend]) | (with_reducible refine OKr_go ?_; simp [-cellOK, a0, a1, a2, a7, a12, a13, hlt, hrd, hx', hx, hdl, hkl, labO, labC, inAV, intsAV, iAV, rg_cells, new_m, set_m, new_nx', -opAppend]))); repeat' (first | refine awp_seq ?_ | refine awp_block ?_ | (refine awp_skip ?_; try simp) | (refine awp_exit ?_; try simp) | (refine awp_ret ?_; try simp) | (refine awp_reg ?_; simp [-cellOK, a0, a1, a2, a7, a12, a13, hlt, hrd, hx', hx, hdl, hkl, labO, labC, inAV, intsAV, iAV, rg_cells, new_m, set_m, new_nx', -opAppend]) | (refine awp_drawT (fun _ => false) mixed (by decide +kernel) ?_; simp [-cellOK, a0, a1, a2, a7, a12, a13, hlt, hrd, hx', hx, hdl, hkl, labO, labC, inAV, intsAV, iAV, rg_cells, new_m, set_m, new_nx', -opAppend]) | (refine guarded_split ?_ ?_ <;> (intro hg; simp only [hg]; simp [-cellOK, a0, a1, a2, a7, a12, a13, hlt, hrd, hx', hx, hdl, hkl, labO, labC, inAV, intsAV, iAV, rg_cells, new_m, set_m, new_nx', -opAppend])) | (apply awp_cond_t; focus (simp [-cellOK, a0, a1, a2, a7, a12, a13, hlt, hrd, hx', hx, hdl, hkl, labO, labC, inAV, intsAV, iAV, rg_cells, new_m, set_m, new_nx', -opAppend]; done)) | (apply awp_cond_f; focus (simp [-cellOK, a0, a1, a2, a7, a12, a13, hlt, hrd, hx', hx, hdl, hkl, labO, labC, inAV, intsAV, iAV, rg_cells, new_m, set_m, new_nx', -opAppend]; done)) | (refine awp_cond ?_; simp [-cellOK, a0, a1, a2, a7, a12, a13, hlt, hrd, hx', hx, hdl, hkl, labO, labC, inAV, intsAV, iAV, rg_cells, new_m, set_m, new_nx', -opAppend]; refine ⟨?_, ?_⟩ <;> intro hc) | (refine awp_drawT isCallO mixed (by decide +kernel) ?_; simp [-cellOK, a0, a1, a2, a7, a12, a13, hlt, hrd, hx', hx, hdl, hkl, labO, labC, inAV, intsAV, iAV, rg_cells, new_m, set_m, new_nx', -opAppend]) | (refine PCalls.use (hat) ?_; simp [-cellOK, a0, a1, a2, a7, a12, a13, hlt, hrd, hx', hx, hdl, hkl, labO, labC, inAV, intsAV, iAV, rg_cells, new_m, set_m, new_nx', -opAppend]) | (refine Or.inl ⟨_, Or.inl (hat), ?_⟩; simp [-cellOK, a0, a1, a2, a7, a12, a13, hlt, hrd, hx', hx, hdl, hkl, labO, labC, inAV, intsAV, iAV, rg_cells, new_m, set_m, new_nx', -opAppend]) | (refine PCalls.use (hof) ?_; simp [-cellOK, a0, a1, a2, a7, a12, a13, hlt, hrd, hx', hx, hdl, hkl, labO, labC, inAV, intsAV, iAV, rg_cells, new_m, set_m, new_nx', -opAppend]) | (refine Or.inl ⟨_, Or.inl (hof), ?_⟩; simp [-cellOK, a0, a1, a2, a7, a12, a13, hlt, hrd, hx', hx, hdl, hkl, labO, labC, inAV, intsAV, iAV, rg_cells, new_m, set_m, new_nx', -opAppend]) | fail)
    refine okr_append slt22 (σ0 := σ) (hO.ext (by repeat (first | assumption | exact Ext.refl _ | refine ext_new' ?_ | refine Ext.setF ?_ (by first | assumption | (simp [new_nx', St.set, fresh_none]; done) | exact ext_fresh (by assumption))))) (by repeat (first | assumption | exact Ext.refl _ | refine ext_new' ?_ | refine Ext.setF ?_ (by first | assumption | (simp [new_nx', St.set, fresh_none]; done) | exact ext_fresh (by assumption)))) (ys := [iAV x]) (by simp [new_m, new_nx', iAV]) (.inr rfl) (by simp [iAV]) (by simp; omega) ?_
    intro v' τ' hO' hE' _ _
    (try (first | (with_reducible refine dops_go ?_; simp [-cellOK, a0, a1, a2, a7, a12, a13, w1]) | (with_reducible refine OKv_go ?_; simp [-cellOK, a0, a1, a2, a7, a12, a13, w1]) | (with_reducible refine OKr_go ?_; simp [-cellOK, a0, a1, a2, a7, a12, a13, w1]))); repeat' (first | refine awp_seq ?_ | refine awp_block ?_ | (refine awp_skip ?_; try simp) | (refine awp_exit ?_; try simp) | (refine awp_ret ?_; try simp) | (refine retP_same (by simp) ?_; simp) | (refine retP_no (by simp) (by simp [noIds]) (by repeat (first | assumption | exact Ext.refl _ | refine ext_new' ?_ | refine Ext.setF ?_ (by first | assumption | (simp [new_nx', St.set, fresh_none]; done) | exact ext_fresh (by assumption)))) ?_; simp [-cellOK, a0, a1, a2, a7, a12, a13, w1, new_m, set_m, new_nx']) | (refine awp_reg ?_; simp [-cellOK, a0, a1, a2, a7, a12, a13, w1]) | (refine awp_drawT (fun _ => false) mixed (by decide +kernel) ?_; simp [-cellOK, a0, a1, a2, a7, a12, a13, w1]) | (refine guarded_split ?_ ?_ <;> (intro hg; simp only [hg]; simp [-cellOK, a0, a1, a2, a7, a12, a13, w1])) | (apply awp_cond_t; focus (simp [-cellOK, a0, a1, a2, a7, a12, a13, w1]; done)) | (apply awp_cond_f; focus (simp [-cellOK, a0, a1, a2, a7, a12, a13, w1]; done)) | (refine awp_cond ?_; simp [-cellOK, a0, a1, a2, a7, a12, a13, w1]; refine ⟨?_, ?_⟩ <;> intro hc) | (refine awp_drawT isCallO mixed (by decide +kernel) ?_; simp [-cellOK, a0, a1, a2, a7, a12, a13, w1]) | fail)
    refine hI1 (M - (i + 1)) _ _ (by omega) ⟨hE', by simp [a0], by simp [a1], by simp [a2], by simp [a12], i + 1, v', by simp, by omega, rfl, by simp, ?_⟩
    rw [List.range_succ, List.map_append, List.map_append]
    simpa [hr, hk, hx'] using hO'
  · have : i = M := by omega
    subst this
    (try (first | (with_reducible refine dops_go ?_; simp [-cellOK, a0, a1, a2, a7, a12, a13, hlt]) | (with_reducible refine OKv_go ?_; simp [-cellOK, a0, a1, a2, a7, a12, a13, hlt]) | (with_reducible refine OKr_go ?_; simp [-cellOK, a0, a1, a2, a7, a12, a13, hlt]))); repeat' (first | refine awp_seq ?_ | refine awp_block ?_ | (refine awp_skip ?_; try simp) | (refine awp_exit ?_; try simp) | (refine awp_ret ?_; try simp) | (refine awp_reg ?_; simp [-cellOK, a0, a1, a2, a7, a12, a13, hlt]) | (refine awp_drawT (fun _ => false) mixed (by decide +kernel) ?_; simp [-cellOK, a0, a1, a2, a7, a12, a13, hlt]) | (refine guarded_split ?_ ?_ <;> (intro hg; simp only [hg]; simp [-cellOK, a0, a1, a2, a7, a12, a13, hlt])) | (apply awp_cond_t; focus (simp [-cellOK, a0, a1, a2, a7, a12, a13, hlt]; done)) | (apply awp_cond_f; focus (simp [-cellOK, a0, a1, a2, a7, a12, a13, hlt]; done)) | (refine awp_cond ?_; simp [-cellOK, a0, a1, a2, a7, a12, a13, hlt]; refine ⟨?_, ?_⟩ <;> intro hc) | (refine awp_drawT isCallO mixed (by decide +kernel) ?_; simp [-cellOK, a0, a1, a2, a7, a12, a13, hlt]) | fail)
    exact retP_own (v := v) (.inr rfl) (by simp) hO hE
end Go.Proofs.Ytanimmdlgmkmkaa.Av


/- label: labels of a network that differs by a rule; Delete. -/
namespace Go.Proofs.Ytanimmdlgmkmkaa.Av
open Go
set_option linter.unusedSimpArgs false
set_option linter.unusedVariables false
set_option maxRecDepth 100000
set_option maxHeartbeats 4000000
set_option pp.maxSteps 600

def withRow (L : Lab) (n : Nw) (T : Option Tab) (dev : Int) (d : Nat) : List Int := if (d : Int) = dev then rowL n T d else movedL L T d
def withLab (L : Lab) (n : Nw) (T : Option Tab) (dev : Int) : Lab := ⟨n, T, (List.range n.t.ports.length).map (withRow L n T dev)⟩
theorem withL_calls (L : Lab) (n : Nw) (T : Option Tab) (dev : Int) (hn : NwOK n) (hpos : 1 ≤ n.t.ports.length) (hp8 : n.t.ports.length ≤ 8) (hz : (T.getD newTab).b.sz < 2 ^ 40) (hz2 : (L.t.getD newTab).b.sz < 2 ^ 40)
    (hrows : ∀ d, d < n.t.ports.length → ∃ row, L.rows[d]? = some row ∧ ∀ i : Nat, (i : Int) < (T.getD newTab).b.sz → 0 ≤ ((atomT T i).getD ⟨0, 0⟩).lo ∧ ((atomT T i).getD ⟨0, 0⟩).lo < 4294967296 ∧ 0 ≤ ofT L.t ((atomT T i).getD ⟨0, 0⟩).lo ∧ ofT L.t ((atomT T i).getD ⟨0, 0⟩).lo < row.length) :
    PCalls Try.prog 61 [labO (some L), nwAV n flN, tabO T, .raw (.int .i64 dev)] (labO (some (withLab L n T dev))) := by
  refine pbody Try.func61 rfl (N := 53) rfl rfl (by simp) (by simp [noIds, labO_ids]) fun σ => ?_
  have c1 : (nwAV n flN).cells = [intsAV n.t.ports false, linksAV n.t.links false, rulesAV n.rules false] := rfl
  have f5 : σ.m ⟨5, σ.nx 5, 3⟩ = none := fresh_none _ _ _
  have f14 : σ.m ⟨14, σ.nx 14, 5⟩ = none := fresh_none _ _ _
  refine awp_seq ?_
  (try (first | (with_reducible refine dops_go ?_; simp [-cellOK, nw_cells, nw_fold, c1, new_m, set_m, new_nx']) | (with_reducible refine OKv_go ?_; simp [-cellOK, nw_cells, nw_fold, c1, new_m, set_m, new_nx']) | (with_reducible refine OKr_go ?_; simp [-cellOK, nw_cells, nw_fold, c1, new_m, set_m, new_nx']))); repeat' (first | refine awp_seq ?_ | refine awp_block ?_ | (refine awp_skip ?_; try simp) | (refine awp_exit ?_; try simp) | (refine awp_ret ?_; try simp) | (refine awp_reg ?_; simp [-cellOK, nw_cells, nw_fold, c1, new_m, set_m, new_nx']) | (refine awp_drawT (fun _ => false) mixed (by decide +kernel) ?_; simp [-cellOK, nw_cells, nw_fold, c1, new_m, set_m, new_nx']) | (refine guarded_split ?_ ?_ <;> (intro hg; simp only [hg]; simp [-cellOK, nw_cells, nw_fold, c1, new_m, set_m, new_nx'])) | (apply awp_cond_t; focus (simp [-cellOK, nw_cells, nw_fold, c1, new_m, set_m, new_nx']; done)) | (apply awp_cond_f; focus (simp [-cellOK, nw_cells, nw_fold, c1, new_m, set_m, new_nx']; done)) | (refine awp_cond ?_; simp [-cellOK, nw_cells, nw_fold, c1, new_m, set_m, new_nx']; refine ⟨?_, ?_⟩ <;> intro hc) | (refine awp_drawT isCallO mixed (by decide +kernel) ?_; simp [-cellOK, nw_cells, nw_fold, c1, new_m, set_m, new_nx']) | fail)
  refine awp_freeze ⟨5, σ.nx 5, 3⟩ ?_
  generalize hτ : St.del _ _ = τ
  generalize hA : (fun t => giveUp _ _ _) = A
  have a0 : A 0 = labO (some L) := by rw [← hA]; simp [labO, giveUp]
  have a2 : A 2 = tabO T := by rw [← hA]; cases T <;> simp [tabO, tabP]
  have a3 : A 3 = .raw (.int .i64 dev) := by rw [← hA]; simp
  have a5 : A 5 = .pp (nwAV n flN).cells 0 := by rw [← hA, ← hτ]; simp [giveUp, St.new, St.del, nw_cells]
  have a9 : A 9 = .rp ⟨14, σ.nx 14, 5⟩ 0 0 := by rw [← hA, ← hτ]; simp [giveUp, St.new, St.del, St.set, new_nx']
  have a18 : A 18 = .raw (.int .i64 n.t.ports.length) := by rw [← hA]; simp [intsAV]
  have a19 : A 19 = .raw (.int .i64 0) := by rw [← hA]; simp
  have mj : τ.m ⟨14, σ.nx 14, 5⟩ = some (.buf [.agg [intsAV n.t.ports false, linksAV n.t.links false, rulesAV n.rules false, tabO T, .sl 0 [] true]]) := by rw [← hτ]; simp [St.new, St.del, St.set, new_m, set_m, new_nx', nw_cells]
  have hE : Ext σ τ := by
    rw [← hτ]
    refine ⟨fun i o h => ?_, fun s => ?_⟩
    · have q1 : i ≠ ⟨5, σ.nx 5, 3⟩ := fun e => by rw [e, f5] at h; cases h
      have q2 : i ≠ ⟨14, σ.nx 14, 5⟩ := fun e => by rw [e, f14] at h; cases h
      simp [St.del, St.new, St.set, q1, q2, h]
    · simp only [St.del, St.new, St.set]
      repeat' split
      all_goals omega
  clear hτ hA
  refine awp_loopH (fun n' B ρ => Ext σ ρ ∧ B 0 = labO (some L) ∧ B 2 = tabO T ∧ B 3 = .raw (.int .i64 dev) ∧ B 5 = .pp (nwAV n flN).cells 0 ∧ B 9 = .rp ⟨14, σ.nx 14, 5⟩ 0 0 ∧ B 18 = .raw (.int .i64 n.t.ports.length) ∧ ∃ (i : Nat) (v : AV), B 19 = .raw (.int .i64 i) ∧ i ≤ n.t.ports.length ∧ n' = n.t.ports.length - i ∧ ρ.m ⟨14, σ.nx 14, 5⟩ = some (.buf [.agg [intsAV n.t.ports false, linksAV n.t.links false, rulesAV n.rules false, tabO T, v]]) ∧ OwnL σ ρ 1 v (((List.range i).map (withRow L n T dev)).map inAV)) n.t.ports.length ?_ ?_
  · exact ⟨hE, a0, a2, a3, a5, a9, a18, 0, .sl 0 [] true, a19, by omega, by omega, mj, .inl ⟨by simp, rfl⟩⟩
  clear hE a0 a2 a3 a5 a9 a18 a19 mj
  rintro n' B ρ ⟨hE, a0, a2, a3, a5, a9, a18, i, v, a19, hi, rfl, mj, hO⟩ I2 hI2
  by_cases hlt : i < n.t.ports.length
  · have w1 : IntKind.i64.wrap ((i : Int) + 1) = ((i + 1 : Nat) : Int) := by rw [wrap64 (by omega) (by have := hn.ports; omega)]; omega
    have hfl : AV.agg [intsAV n.t.ports false, linksAV n.t.links false, rulesAV n.rules false] = nwAV n flN := rfl
    have hc1 : ∀ l, (intsAV l false).cells = [intsAV l false] := fun _ => rfl
    have hc2 : ∀ l, cellOK (intsAV l false) = true := fun _ => rfl
    have hdev : (((i : Int) = dev) = True ∧ PCalls Try.prog 50 [nwAV n flN, tabO T, .raw (.int .i64 i)] (intsAV (withRow L n T dev i) false)) ∨ (((i : Int) = dev) = False ∧ PCalls Try.prog 105 [labO (some L), tabO T, .raw (.int .i64 i)] (intsAV (withRow L n T dev i) false)) := by
      unfold withRow
      by_cases h : (i : Int) = dev
      · left
        rw [if_pos h]
        exact ⟨eq_true h, row_calls n flN T i hn hz⟩
      · right
        rw [if_neg h]
        obtain ⟨row, h1, h2⟩ := hrows i hlt
        exact ⟨eq_false h, moved_calls L T i hz hz2 h1 h2⟩
    obtain ⟨W, hW⟩ : ∃ W, withRow L n T dev i = W := ⟨_, rfl⟩
    rw [hW] at hdev
    rcases hdev with ⟨hd, hrow⟩ | ⟨hd, hrow⟩
    all_goals
      (try (first | (with_reducible refine dops_go ?_; simp [-cellOK, nw_cells, nw_fold, a0, a2, a3, a5, a9, a18, a19, hlt, hd, hfl, hc1, hc2, new_m, set_m, new_nx', mj, -opAppend]) | (with_reducible refine OKv_go ?_; simp [-cellOK, nw_cells, nw_fold, a0, a2, a3, a5, a9, a18, a19, hlt, hd, hfl, hc1, hc2, new_m, set_m, new_nx', mj, -opAppend]) | (with_reducible refine OKr_go ?_; simp [-cellOK, nw_cells, nw_fold, a0, a2, a3, a5, a9, a18, a19, hlt, hd, hfl, hc1, hc2, new_m, set_m, new_nx', mj, -opAppend]))); repeat' (first | refine awp_seq ?_ | refine awp_block ?_ | (refine awp_skip ?_; try simp) | (refine awp_exit ?_; try simp) | (refine awp_ret ?_; try simp) | (refine retP_same (by simp) ?_; simp) | (refine retP_no (by simp) (by simp [noIds]) (by repeat (first | assumption | exact Ext.refl _ | refine ext_new' ?_ | refine Ext.setF ?_ (by first | assumption | (simp [new_nx', St.set, fresh_none]; done) | exact ext_fresh (by assumption)))) ?_; simp [-cellOK, nw_cells, nw_fold, a0, a2, a3, a5, a9, a18, a19, hlt, hd, hfl, hc1, hc2, new_m, set_m, new_nx', mj, -opAppend, new_m, set_m, new_nx']) | (refine awp_reg ?_; simp [-cellOK, nw_cells, nw_fold, a0, a2, a3, a5, a9, a18, a19, hlt, hd, hfl, hc1, hc2, new_m, set_m, new_nx', mj, -opAppend]) | (refine awp_drawT (fun _ => false) mixed (by decide +kernel) ?_; simp [-cellOK, nw_cells, nw_fold, a0, a2, a3, a5, a9, a18, a19, hlt, hd, hfl, hc1, hc2, new_m, set_m, new_nx', mj, -opAppend]) | (refine guarded_split ?_ ?_ <;> (intro hg; simp only [hg]; simp [-cellOK, nw_cells, nw_fold, a0, a2, a3, a5, a9, a18, a19, hlt, hd, hfl, hc1, hc2, new_m, set_m, new_nx', mj, -opAppend])) | (apply awp_cond_t; focus (simp [-cellOK, nw_cells, nw_fold, a0, a2, a3, a5, a9, a18, a19, hlt, hd, hfl, hc1, hc2, new_m, set_m, new_nx', mj, -opAppend]; done)) | (apply awp_cond_f; focus (simp [-cellOK, nw_cells, nw_fold, a0, a2, a3, a5, a9, a18, a19, hlt, hd, hfl, hc1, hc2, new_m, set_m, new_nx', mj, -opAppend]; done)) | (refine awp_cond ?_; simp [-cellOK, nw_cells, nw_fold, a0, a2, a3, a5, a9, a18, a19, hlt, hd, hfl, hc1, hc2, new_m, set_m, new_nx', mj, -opAppend]; refine ⟨?_, ?_⟩ <;> intro hc) | (refine awp_drawT isCallO mixed (by decide +kernel) ?_; simp [-cellOK, nw_cells, nw_fold, a0, a2, a3, a5, a9, a18, a19, hlt, hd, hfl, hc1, hc2, new_m, set_m, new_nx', mj, -opAppend]) | (refine PCalls.use (hrow) ?_; simp [-cellOK, nw_cells, nw_fold, a0, a2, a3, a5, a9, a18, a19, hlt, hd, hfl, hc1, hc2, new_m, set_m, new_nx', mj, -opAppend]) | (refine Or.inl ⟨_, Or.inl (hrow), ?_⟩; simp [-cellOK, nw_cells, nw_fold, a0, a2, a3, a5, a9, a18, a19, hlt, hd, hfl, hc1, hc2, new_m, set_m, new_nx', mj, -opAppend]) | fail)
      refine okr_append slt111 (σ0 := σ) (hO.ext (by repeat (first | assumption | exact Ext.refl _ | refine ext_new' ?_ | refine Ext.setF ?_ (by first | assumption | (simp [new_nx', St.set, fresh_none]; done) | exact ext_fresh (by assumption))))) (by repeat (first | assumption | exact Ext.refl _ | refine ext_new' ?_ | refine Ext.setF ?_ (by first | assumption | (simp [new_nx', St.set, fresh_none]; done) | exact ext_fresh (by assumption)))) (ys := [inAV W]) (by simp [new_m, new_nx', inAV]) (.inr rfl) (by simp [inAV, intsAV, cellsL, cellsOK, cellOK, AV.cells]) (by simp; omega) ?_
      intro v' τ' hO' hE' hk hnx
      obtain ⟨kj, _⟩ := hk ⟨14, σ.nx 14, 5⟩ _ (new_up _ _ mj) (hO.ne_sz (by simp))
      clear hk
      have hv1 := hO'.cells
      have hv2 := hO'.cellOK
      (try (first | (with_reducible refine dops_go ?_; simp [-cellOK, a0, a2, a3, a5, a9, a18, a19, w1, kj, hv1, hv2, new_m, set_m, new_nx']) | (with_reducible refine OKv_go ?_; simp [-cellOK, a0, a2, a3, a5, a9, a18, a19, w1, kj, hv1, hv2, new_m, set_m, new_nx']) | (with_reducible refine OKr_go ?_; simp [-cellOK, a0, a2, a3, a5, a9, a18, a19, w1, kj, hv1, hv2, new_m, set_m, new_nx']))); repeat' (first | refine awp_seq ?_ | refine awp_block ?_ | (refine awp_skip ?_; try simp) | (refine awp_exit ?_; try simp) | (refine awp_ret ?_; try simp) | (refine retP_same (by simp) ?_; simp) | (refine retP_no (by simp) (by simp [noIds]) (by repeat (first | assumption | exact Ext.refl _ | refine ext_new' ?_ | refine Ext.setF ?_ (by first | assumption | (simp [new_nx', St.set, fresh_none]; done) | exact ext_fresh (by assumption)))) ?_; simp [-cellOK, a0, a2, a3, a5, a9, a18, a19, w1, kj, hv1, hv2, new_m, set_m, new_nx', new_m, set_m, new_nx']) | (refine awp_reg ?_; simp [-cellOK, a0, a2, a3, a5, a9, a18, a19, w1, kj, hv1, hv2, new_m, set_m, new_nx']) | (refine awp_drawT (fun _ => false) mixed (by decide +kernel) ?_; simp [-cellOK, a0, a2, a3, a5, a9, a18, a19, w1, kj, hv1, hv2, new_m, set_m, new_nx']) | (refine guarded_split ?_ ?_ <;> (intro hg; simp only [hg]; simp [-cellOK, a0, a2, a3, a5, a9, a18, a19, w1, kj, hv1, hv2, new_m, set_m, new_nx'])) | (apply awp_cond_t; focus (simp [-cellOK, a0, a2, a3, a5, a9, a18, a19, w1, kj, hv1, hv2, new_m, set_m, new_nx']; done)) | (apply awp_cond_f; focus (simp [-cellOK, a0, a2, a3, a5, a9, a18, a19, w1, kj, hv1, hv2, new_m, set_m, new_nx']; done)) | (refine awp_cond ?_; simp [-cellOK, a0, a2, a3, a5, a9, a18, a19, w1, kj, hv1, hv2, new_m, set_m, new_nx']; refine ⟨?_, ?_⟩ <;> intro hc) | (refine awp_drawT isCallO mixed (by decide +kernel) ?_; simp [-cellOK, a0, a2, a3, a5, a9, a18, a19, w1, kj, hv1, hv2, new_m, set_m, new_nx']) | fail)
      refine hI2 (n.t.ports.length - (i + 1)) _ _ (by omega) ⟨Ext.setF hE' f14, by simp [a0], by simp [a2], by simp [a3], by simp [a5], by simp [a9], by simp [a18], i + 1, v', by simp, by omega, rfl, by simp [kj, set_m], ?_⟩
      rw [List.range_succ, List.map_append, List.map_append]
      simp only [List.map_cons, List.map_nil, hW]
      exact hO'.set (hO'.ne_sz (by simp))
  · have : i = n.t.ports.length := by omega
    subst this
    refine awp_freeze ⟨14, σ.nx 14, 5⟩ ?_
    rcases hO with ⟨hes, rfl⟩ | ⟨k, rfl, hk1, hk2, hk3⟩
    · exfalso
      have := congrArg List.length hes
      simp at this
      rw [this] at hpos
      simp at hpos
    · have hkj : k ≠ ⟨14, σ.nx 14, 5⟩ := fun e => by rw [e] at hk1; cases hk1
      refine awp_freezeD k ?_
      have g1 : ∀ (m m' : Mem) l b, giveUp m' m (intsAV l b) = intsAV l b := fun _ _ _ _ => rfl
      have g2 : ∀ (m m' : Mem) l b, giveUp m' m (linksAV l b) = linksAV l b := fun _ _ _ _ => rfl
      have g3 : ∀ (m m' : Mem) l b, giveUp m' m (rulesAV l b) = rulesAV l b := fun _ _ _ _ => rfl
      have g4 : ∀ (m m' : Mem), giveUp m' m (tabO T) = tabO T := fun _ _ => by cases T <;> rfl
      have f4 : giveUpD ((ρ.del ⟨14, σ.nx 14, 5⟩).del k).m (ρ.del ⟨14, σ.nx 14, 5⟩).m (giveUp (ρ.del ⟨14, σ.nx 14, 5⟩).m ρ.m (B 9)) = labO (some ⟨n, T, (List.range n.t.ports.length).map (withRow L n T dev)⟩) := by
        rw [a9, giveUp_rp_made (by simp [St.del]) mj rfl]
        simp only [giveUpD, AV.cells, List.map_cons, List.map_nil, labO, labC, g1, g2, g3, g4]
        rw [giveUp_rs_made (by simp [St.del]) (by rw [del_other hkj]; exact hk2) (by simp), hk1]
        simp
        exact List.take_of_length_le (by simp)
      generalize hπ : (ρ.del ⟨14, σ.nx 14, 5⟩).del k = π
      generalize hA : (fun t => giveUpD _ _ _) = A
      have b9 : A 9 = labO (some ⟨n, T, (List.range n.t.ports.length).map (withRow L n T dev)⟩) := by rw [← hA, ← hπ]; exact f4
      have b18 : A 18 = .raw (.int .i64 n.t.ports.length) := by rw [← hA]; simp [a18, giveUpD, giveUp]
      have b19 : A 19 = .raw (.int .i64 n.t.ports.length) := by rw [← hA]; simp [a19, giveUpD, giveUp]
      have hEp : Ext σ π := by
        rw [← hπ]
        refine ⟨fun i o h => ?_, hE.nx⟩
        rw [del_other (fun e => by rw [e, hk3] at h; cases h), del_other (fun e => by rw [e, f14] at h; cases h)]
        exact hE.m i o h
      clear hπ hA f4 hE a0 a2 a3 a5 a9 a18 a19 mj hI2
      unfold withLab
      generalize (⟨n, T, (List.range n.t.ports.length).map (withRow L n T dev)⟩ : Lab) = R at b9 ⊢
      (try (first | (with_reducible refine dops_go ?_; simp [-cellOK, b9, b18, b19]) | (with_reducible refine OKv_go ?_; simp [-cellOK, b9, b18, b19]) | (with_reducible refine OKr_go ?_; simp [-cellOK, b9, b18, b19]))); repeat' (first | refine awp_seq ?_ | refine awp_block ?_ | (refine awp_skip ?_; try simp) | (refine awp_exit ?_; try simp) | (refine awp_ret ?_; try simp) | (refine retP_same (by simp) ?_; simp) | (refine retP_no (by simp) (by simp [noIds]) (by repeat (first | assumption | exact Ext.refl _ | refine ext_new' ?_ | refine Ext.setF ?_ (by first | assumption | (simp [new_nx', St.set, fresh_none]; done) | exact ext_fresh (by assumption)))) ?_; simp [-cellOK, b9, b18, b19, new_m, set_m, new_nx']) | (refine awp_reg ?_; simp [-cellOK, b9, b18, b19]) | (refine awp_drawT (fun _ => false) mixed (by decide +kernel) ?_; simp [-cellOK, b9, b18, b19]) | (refine guarded_split ?_ ?_ <;> (intro hg; simp only [hg]; simp [-cellOK, b9, b18, b19])) | (apply awp_cond_t; focus (simp [-cellOK, b9, b18, b19]; done)) | (apply awp_cond_f; focus (simp [-cellOK, b9, b18, b19]; done)) | (refine awp_cond ?_; simp [-cellOK, b9, b18, b19]; refine ⟨?_, ?_⟩ <;> intro hc) | (refine awp_drawT isCallO mixed (by decide +kernel) ?_; simp [-cellOK, b9, b18, b19]) | fail)
end Go.Proofs.Ytanimmdlgmkmkaa.Av


/- label: all over an atom the same becomes of a packet (plain laws). -/
namespace Go.Proofs.Ytanimmdlgmkmkaa.Av
open Go
set_option linter.unusedSimpArgs false
set_option linter.unusedVariables false

theorem side_atom {L : List Rg} {i : Nat} {r : Rg} (hr : (atomsC (cutsL L))[i]? = some r) {a b : Int} (ha : r.lo ≤ a ∧ a ≤ r.hi) (hb : r.lo ≤ b ∧ b ≤ r.hi) (hb2 : a < 4294967296) (hb3 : b < 4294967296) : SameSide L a b := by
  have hs := (cutsL_cuts L).srt
  unfold SameSide
  generalize cutsL L = c at hr hs ⊢
  rw [atomsC_get] at hr
  cases hi : c[i]? with
  | none => rw [hi] at hr; cases hr
  | some x0 =>
    rw [hi] at hr
    simp only [Option.map_some, Option.some.injEq] at hr
    subst hr
    simp only at ha hb
    have hil := (List.getElem?_eq_some_iff.1 hi).1
    have hiv : c[i] = x0 := (List.getElem?_eq_some_iff.1 hi).2
    rw [List.pairwise_iff_getElem] at hs
    intro x hx
    obtain ⟨j, hj, rfl⟩ := List.getElem_of_mem hx
    by_cases hji : j ≤ i
    · have : c[j] ≤ c[i] := by
        rcases Nat.lt_or_ge j i with q | q
        · exact Int.le_of_lt (hs j i hj hil q)
        · have : j = i := by omega
          subst this; exact Int.le_refl _
      constructor <;> intro _ <;> omega
    · have hk : i + 1 < c.length := by omega
      have e : c[i + 1]? = some c[i + 1] := List.getElem?_eq_getElem hk
      rw [e] at ha hb
      simp only at ha hb
      have : c[i + 1] ≤ c[j] := by
        rcases Nat.lt_or_ge (i + 1) j with q | q
        · exact Int.le_of_lt (hs (i + 1) j hk hj q)
        · have : j = i + 1 := by omega
          subst this; exact Int.le_refl _
      constructor <;> intro _ <;> omega
end Go.Proofs.Ytanimmdlgmkmkaa.Av


/- label: labels that stand for a network (plain laws). -/
namespace Go.Proofs.Ytanimmdlgmkmkaa.Av
open Go
set_option linter.unusedSimpArgs false
set_option linter.unusedVariables false

theorem allFrom_iff {l : List Ru} {last : Int} : allFrom last l = true ↔ (∀ r ∈ l, ruleB r = true) ∧ (∀ r ∈ l, last < r.id) ∧ l.Pairwise fun r s => r.id < s.id := by
  induction l generalizing last with
  | nil => simp [allFrom]
  | cons x l ih =>
    simp only [allFrom, Bool.and_eq_true, decide_eq_true_eq, ih, List.forall_mem_cons, List.pairwise_cons]
    constructor
    · rintro ⟨⟨h1, h2⟩, h3, h4, h5⟩
      exact ⟨⟨h1, h3⟩, ⟨h2, fun r hr => by have := h4 r hr; omega⟩, h4, h5⟩
    · rintro ⟨⟨h1, h3⟩, ⟨h2, h6⟩, h4, h5⟩
      exact ⟨⟨h1, h2⟩, h3, h4, h5⟩
theorem right_srt {n : Nw} (h : rightN n = true) : n.rules.Pairwise fun r s => r.id < s.id := by
  unfold rightN allB at h
  simp only [Bool.and_eq_true] at h
  exact (allFrom_iff.1 h.2.1.1).2.2
theorem right_sub {n : Nw} {l : List Ru} (h : rightN n = true) (hs : l.Sublist n.rules) : rightN ⟨n.t, l⟩ = true := by
  unfold rightN allB fitsB at h ⊢
  simp only [Bool.and_eq_true, allFrom_iff, decide_eq_true_eq, Bool.not_eq_true', List.any_eq_false] at h ⊢
  obtain ⟨h1, ⟨⟨h2, h3, h4⟩, h5⟩, h6⟩ := h
  exact ⟨h1, ⟨⟨fun r hr => h2 r (hs.subset hr), fun r hr => h3 r (hs.subset hr), h4.sublist hs⟩, Nat.le_trans hs.length_le h5⟩, fun r hr => h6 r (hs.subset hr)⟩
theorem ok_sub {n : Nw} {l : List Ru} (h : NwOK n) (hs : l.Sublist n.rules) : NwOK ⟨n.t, l⟩ where
  rg := fun r hr => h.rg r (hs.subset hr)
  ports := h.ports
  links := h.links
  rules := Nat.lt_of_le_of_lt hs.length_le h.rules
  id := fun r hr => h.id r (hs.subset hr)

/-- What becomes at a device hangs on its rules alone. -/
theorem step_dev {t : Tp} {l m : List Ru} {d : Int} (h : l.filter (fun r => decide (r.dev = d)) = m.filter (fun r => decide (r.dev = d))) (a : Int) : stepF ⟨t, l⟩ d a = stepF ⟨t, m⟩ d a := by
  have key : ∀ (p : Ru → Bool), (∀ r, p r = true → r.dev = d) → l.filter p = m.filter p := fun p hp => by
    have e : ∀ k : List Ru, k.filter p = (k.filter fun r => decide (r.dev = d)).filter p := fun k => by
      rw [List.filter_filter]
      apply List.filter_congr
      intro r _
      cases hr : p r with
      | false => simp
      | true => simp [hp r hr]
    rw [e l, e m, h]
  have k1 := key (aclP d a) fun r hr => by
    unfold aclP takesB at hr
    simp only [Bool.and_eq_true, decide_eq_true_eq] at hr
    exact hr.2.1
  have k2 := key (fwdP d a) fun r hr => by
    unfold fwdP takesB at hr
    simp only [Bool.and_eq_true, decide_eq_true_eq] at hr
    exact hr.2.1
  have an : ∀ (p : Ru → Bool) (k : List Ru), k.any p = !(k.filter p).isEmpty := fun p k => by
    induction k with
    | nil => rfl
    | cons x k ih => by_cases hx : p x = true <;> simp [hx, ih]
  unfold stepF deniesB matchB matchR
  simp only [an, k1, k2]

def rgsN (n : Nw) : List Rg := n.rules.map (·.r)
/-- A device's labels, by the cuts of the rules' ranges. -/
def rowC (n : Nw) (d : Nat) : List Int := (atomsC (cutsL (rgsN n))).map fun r => atI n d r.lo
/-- Labels that stand for a network. -/
structure LabRep (L : Lab) (n : Nw) : Prop where
  net : L.n = n
  ok : NwOK n
  right : rightN n = true
  rep : TabRep (L.t.getD newTab) (rgsN n)
  rows : L.rows = (List.range n.t.ports.length).map (rowC n)

theorem atoms_at {R : List Rg} {i : Nat} (hi : i < (cutsL R).length) : ∃ q, (atomsC (cutsL R))[i]? = some q := ⟨_, List.getElem?_eq_getElem (by rw [atomsC_len]; exact hi)⟩
theorem rowL_rep {n : Nw} {T : Option Tab} (h : TabRep (T.getD newTab) (rgsN n)) (d : Nat) : rowL n T d = rowC n d := by
  apply List.ext_getElem?
  intro i
  unfold rowL rowC
  rw [rep_len h, List.getElem?_map, List.getElem?_map, Int.toNat_natCast]
  by_cases hi : i < (cutsL (rgsN n)).length
  · rw [List.getElem?_range hi, Option.map_some, rep_atom h, if_pos (by omega), Int.toNat_natCast]
    obtain ⟨q, hq⟩ := atoms_at hi
    rw [hq]; rfl
  · rw [List.getElem?_eq_none (by simp; omega), List.getElem?_eq_none (by rw [atomsC_len]; omega)]; rfl
/-- The atom in which an address lies. -/
theorem of_rep {T : Option Tab} {L : List Rg} (h : TabRep (T.getD newTab) L) {a : Int} (h0 : 0 ≤ a) (h1 : a < 4294967296) : ∃ (k : Nat) (r : Rg), ofT T a = k ∧ (atomsC (cutsL L))[k]? = some r ∧ r.lo ≤ a ∧ a ≤ r.hi := by
  have hc := cutsL_cuts L
  have hp := hc.pos h0
  obtain ⟨k, hk⟩ : ∃ k, (cutsL L).countP (fun y => decide (y ≤ a)) = k + 1 := ⟨_, (Nat.succ_pred_eq_of_pos hp).symm⟩
  have hle : k + 1 ≤ (cutsL L).length := by rw [← hk]; exact List.countP_le_length
  have hx : (cutsL L)[k]? = some (cutsL L)[k] := List.getElem?_eq_getElem (by omega)
  have hs := countP_srt hc.srt a
  refine ⟨k, _, by rw [rep_of h, hk]; omega, by rw [atomsC_get, hx]; rfl, ?_, ?_⟩
  · exact (hs k _ hx).2 (by omega)
  · simp only
    cases hy : (cutsL L)[k + 1]? with
    | none => simp only; omega
    | some y =>
      simp only
      have := (hs (k + 1) y hy)
      rw [hk] at this
      omega
theorem atom_in {n : Nw} (ho : NwOK n) {k : Nat} {r : Rg} (h : (atomsC (cutsL (rgsN n)))[k]? = some r) : 0 ≤ r.lo ∧ r.lo ≤ r.hi ∧ r.hi < 4294967296 := by
  have hc := cutsL_cuts (rgsN n)
  have hok : ∀ r ∈ rgsN n, RgOK r := fun r hr => by
    obtain ⟨x, hx, rfl⟩ := List.mem_map.1 hr
    exact ho.rg x hx
  rw [atomsC_get] at h
  have hrg : ∀ {x}, x ∈ cutsL (rgsN n) → 0 ≤ x ∧ x < 4294967296 := fun hx => hc.range hok hx
  have hs := hc.srt
  generalize cutsL (rgsN n) = c at h hrg hs
  cases hi : c[k]? with
  | none => rw [hi] at h; cases h
  | some x0 =>
    rw [hi] at h
    simp only [Option.map_some, Option.some.injEq] at h
    subst h
    have hil := (List.getElem?_eq_some_iff.1 hi).1
    have hiv : c[k] = x0 := (List.getElem?_eq_some_iff.1 hi).2
    have h0 := hrg (List.getElem_mem hil)
    rw [hiv] at h0
    by_cases hk : k + 1 < c.length
    · have e : c[k + 1]? = some c[k + 1] := List.getElem?_eq_getElem hk
      have h2 := hrg (List.getElem_mem hk)
      rw [List.pairwise_iff_getElem] at hs
      have h3 := hs k (k + 1) hil hk (by omega)
      simp only [e]
      refine ⟨?_, ?_, ?_⟩ <;> omega
    · have e : c[k + 1]? = none := List.getElem?_eq_none (by omega)
      simp only [e]
      refine ⟨?_, ?_, ?_⟩ <;> omega
theorem fares_in {n : Nw} {k : Nat} {r : Rg} (h : (atomsC (cutsL (rgsN n)))[k]? = some r) {a b : Int} (ha : r.lo ≤ a ∧ a ≤ r.hi) (hb : r.lo ≤ b ∧ b ≤ r.hi) (ha2 : a < 4294967296) (hb2 : b < 4294967296) (d : Int) : atI n d a = atI n d b := by
  have hs := side_atom h ha hb ha2 hb2
  unfold atI
  rw [step_same (fun x hx => List.mem_map.2 ⟨x, hx, rfl⟩) hs ha2 hb2 d]
theorem rows_get {L : Lab} {n : Nw} (h : LabRep L n) {d : Nat} (hd : d < n.t.ports.length) : L.rows[d]? = some (rowC n d) := by
  rw [h.rows, List.getElem?_map, List.getElem?_range hd]; rfl
theorem moved_ok {L : Lab} {n n' : Nw} (h : LabRep L n) {T : Option Tab} (hn : NwOK n') (hT : TabRep (T.getD newTab) (rgsN n')) {d : Nat} (i : Nat) (hi : (i : Int) < (T.getD newTab).b.sz) :
    0 ≤ ((atomT T i).getD ⟨0, 0⟩).lo ∧ ((atomT T i).getD ⟨0, 0⟩).lo < 4294967296 ∧ 0 ≤ ofT L.t ((atomT T i).getD ⟨0, 0⟩).lo ∧ ofT L.t ((atomT T i).getD ⟨0, 0⟩).lo < (rowC n d).length := by
  rw [rep_len hT] at hi
  obtain ⟨q, hx⟩ := atoms_at (R := rgsN n') (i := i) (by omega)
  rw [rep_atom hT, if_pos (by omega), Int.toNat_natCast, hx, Option.getD_some]
  obtain ⟨h1, h2, h3⟩ := atom_in hn hx
  obtain ⟨k, r, e1, e2, e3, e4⟩ := of_rep h.rep h1 (by omega)
  refine ⟨h1, by omega, by omega, ?_⟩
  rw [e1]
  have := (List.getElem?_eq_some_iff.1 e2).1
  unfold rowC
  rw [List.length_map]; omega
theorem movedL_rep {L : Lab} {n n' : Nw} (h : LabRep L n) {T : Option Tab} (hn : NwOK n') (hT : TabRep (T.getD newTab) (rgsN n')) {d : Nat} (hd : d < n.t.ports.length) (hs : ∀ a, atI n' d a = atI n d a) : movedL L T d = rowC n' d := by
  apply List.ext_getElem?
  intro i
  unfold movedL
  rw [rows_get h hd, rep_len hT, List.getElem?_map, Int.toNat_natCast]
  unfold rowC
  rw [List.getElem?_map]
  by_cases hi : i < (cutsL (rgsN n')).length
  · obtain ⟨q, hx⟩ := atoms_at hi
    rw [List.getElem?_range hi, Option.map_some, rep_atom hT, if_pos (by omega), Int.toNat_natCast, hx, Option.getD_some]
    obtain ⟨h1, h2, h3⟩ := atom_in hn hx
    obtain ⟨k, r, e1, e2, e3, e4⟩ := of_rep h.rep h1 (by omega)
    rw [e1, Int.toNat_natCast, Option.bind_some, List.getElem?_map, e2, Option.map_some, Option.map_some, Option.getD_some, hs, fares_in e2 ⟨Int.le_refl _, by omega⟩ ⟨e3, e4⟩ (by omega) (by omega)]
  · rw [List.getElem?_eq_none (by simp; omega), List.getElem?_eq_none (by rw [atomsC_len]; omega)]; rfl
/-- Labels of a network that differs by rules of one device. -/
theorem with_rep {L : Lab} {n n' : Nw} (h : LabRep L n) {T : Option Tab} {dev : Int} (ht : n'.t = n.t) (hn : NwOK n') (hr : rightN n' = true) (hT : TabRep (T.getD newTab) (rgsN n')) (hdev : ∀ d : Int, d ≠ dev → ∀ a, atI n' d a = atI n d a) : LabRep (withLab L n' T dev) n' where
  net := rfl
  ok := hn
  right := hr
  rep := hT
  rows := by
    show (List.range n'.t.ports.length).map (withRow L n' T dev) = _
    apply List.map_congr_left
    intro d hd
    rw [List.mem_range] at hd
    unfold withRow
    split
    · exact rowL_rep hT d
    · rename_i hne
      exact movedL_rep h hn hT (by rw [← ht]; exact hd) fun a => hdev d hne a
theorem rep_rules {n : Nw} (hn : NwOK n) (h : rightN n = true) : TabRep ((tabL n.rules).getD newTab) (rgsN n) := by
  have h1 := tabL_rep hn.rg n.rules.length (Nat.le_refl _)
  rw [List.take_length] at h1
  obtain ⟨hr, -⟩ := h1.get
  have hL : ((n.rules.map (·.r)).foldl stepL (some [])).getD [] = (n.rules.map (·.r)).reverse := by
    have h2 := right_rules h
    exact held_few (fun r hr => by obtain ⟨x, hx, rfl⟩ := List.mem_map.1 hr; exact rule_le (h2.1 x hx)) (by rw [List.length_map]; omega)
  rw [hL] at hr
  exact hr.perm (List.reverse_perm _)
theorem labOf_rep {n : Nw} (hn : NwOK n) (h : rightN n = true) : LabRep (labOf n) n where
  net := rfl
  ok := hn
  right := h
  rep := rep_rules hn h
  rows := by
    show (List.range n.t.ports.length).map (fun d : Nat => rowL n (tabL n.rules) d) = _
    apply List.map_congr_left
    intro d _
    exact rowL_rep (rep_rules hn h) d
end Go.Proofs.Ytanimmdlgmkmkaa.Av


/- label: Delete. -/
namespace Go.Proofs.Ytanimmdlgmkmkaa.Av
open Go
set_option linter.unusedSimpArgs false
set_option linter.unusedVariables false
set_option maxRecDepth 100000
set_option maxHeartbeats 4000000
set_option pp.maxSteps 600

def delN (n : Nw) (id : Int) : Nw := ⟨n.t, n.rules.eraseIdx (placeI n.rules id)⟩
def delR (n : Nw) (id : Int) : Ru := (n.rules[placeI n.rules id]?).getD ru0
def delLab (L : Lab) (n : Nw) (id : Int) : Lab := withLab L (delN n id) (dropT L.t (delR n id).r).1 (delR n id).dev
theorem here_lt {l : List Ru} {id : Int} (h : hereI l id = true) : placeI l id < l.length := by
  unfold hereI at h
  cases hx : l[placeI l id]? with
  | none => rw [hx] at h; cases h
  | some r => exact (List.getElem?_eq_some_iff.1 hx).1
theorem delR_get {n : Nw} {id : Int} (h : hereI n.rules id = true) : n.rules[placeI n.rules id]? = some (delR n id) := by
  unfold delR
  rw [List.getElem?_eq_getElem (here_lt h)]; rfl
theorem del_sub (n : Nw) (id : Int) : (delN n id).rules.Sublist n.rules := List.eraseIdx_sublist _ _
theorem del_perm {n : Nw} {id : Int} (h : hereI n.rules id = true) : (rgsN n).Perm ((delR n id).r :: rgsN (delN n id)) := by
  have h2 := delR_get h
  have hlt := here_lt h
  have h1 : n.rules = n.rules.take (placeI n.rules id) ++ delR n id :: n.rules.drop (placeI n.rules id + 1) := by
    conv => lhs; rw [← List.take_append_drop (placeI n.rules id) n.rules, List.drop_eq_getElem_cons hlt, (List.getElem?_eq_some_iff.1 h2).2]
  have h3 : n.rules.Perm (delR n id :: (delN n id).rules) := by
    unfold delN
    rw [List.eraseIdx_eq_take_drop_succ]
    conv => lhs; rw [h1]
    exact List.perm_middle
  exact h3.map (·.r)
/-- What the dropped range leaves. -/
theorem del_drop {L : Lab} {n : Nw} (h : LabRep L n) {id : Int} (hh : hereI n.rules id = true) :
    RgOK (delR n id).r ∧ cntT L.t (delR n id).r ≠ 0 ∧ WithOK (L.t.getD newTab) (delR n id).r (-1) ∧ (dropT L.t (delR n id).r).1 = some ((L.t.getD newTab).with_ (delR n id).r (-1)) ∧ TabRep ((dropT L.t (delR n id).r).1.getD newTab) (rgsN (delN n id)) := by
  have hm : delR n id ∈ n.rules := List.mem_of_getElem? (delR_get hh)
  have hok := h.ok.rg _ hm
  have hlen : (rgsN (delN n id)).length < 500 := by
    have := (right_rules h.right).2
    have := (del_sub n id).length_le
    unfold rgsN; rw [List.length_map]; omega
  obtain ⟨w1, w2⟩ := rep_drop (h.rep.perm (del_perm hh)) hlen
  have hc : cntT L.t (delR n id).r ≠ 0 := by
    unfold cntT
    rw [rep_count h.rep hok]
    have : 0 < (rgsN n).count (delR n id).r := List.count_pos_iff.2 (List.mem_map.2 ⟨_, hm, rfl⟩)
    omega
  have e : (dropT L.t (delR n id).r).1 = some ((L.t.getD newTab).with_ (delR n id).r (-1)) := by unfold dropT; rw [if_neg hc]
  exact ⟨hok, hc, w1, e, by rw [e]; exact w2⟩
theorem rep_size {T : Option Tab} {n : Nw} (h : TabRep (T.getD newTab) (rgsN n)) (hr : rightN n = true) : (T.getD newTab).b.sz < 2 ^ 40 := by
  rw [rep_len h]
  have hcc := cutsL_cuts (rgsN n)
  have hcl : (cutsL (rgsN n)).length ≤ 1 + 2 * (rgsN n).length := by
    have := nodup_le (m := 0 :: endsL (rgsN n)) (hcc.srt.imp fun h => by omega) fun x hx => by
      rw [List.mem_cons]; simp only [endsL, List.mem_flatMap]; exact (hcc.mem x).1 hx
    have := endsL_len (rgsN n)
    simp only [List.length_cons] at *
    omega
  have := (right_rules hr).2
  have e : (rgsN n).length = n.rules.length := by unfold rgsN; simp
  omega
theorem filter_erase {α : Type} {p : α → Bool} : ∀ {l : List α} {i : Nat} {x : α}, l[i]? = some x → p x = false → (l.eraseIdx i).filter p = l.filter p
  | [], _, _, h, _ => by simp at h
  | y :: l, 0, x, h, hp => by
    simp at h; subst h
    simp [hp]
  | y :: l, i + 1, x, h, hp => by
    simp at h
    rw [List.eraseIdx_cons_succ, List.filter_cons, List.filter_cons, filter_erase h hp]
theorem del_dev {n : Nw} {id : Int} (h : hereI n.rules id = true) (d : Int) (hd : d ≠ (delR n id).dev) (a : Int) : atI (delN n id) d a = atI n d a := by
  unfold atI delN
  rw [step_dev (filter_erase (delR_get h) (by simp; exact fun e => hd e.symm)) a]
theorem delLab_rep {L : Lab} {n : Nw} (h : LabRep L n) {id : Int} (hh : hereI n.rules id = true) : LabRep (delLab L n id) (delN n id) :=
  with_rep h rfl (ok_sub h.ok (del_sub n id)) (right_sub h.right (del_sub n id)) (del_drop h hh).2.2.2.2 (del_dev hh)

theorem del_calls {L : Lab} {n : Nw} (h : LabRep L n) (id : Int) (hh : hereI n.rules id = true) :
    PCalls Try.prog 34 [labO (some L), .raw (.int .i64 id)] (.tup [labO (some (delLab L n id)), .raw (.int .i64 0)]) := by
  have hf := find_calls L id (by rw [h.net]; have := h.ok.rules; omega) (by rw [h.net]; exact right_srt h.right)
  rw [h.net, hh] at hf
  obtain ⟨q1, q2, q3, q4, q5⟩ := del_drop h hh
  have hlt := here_lt hh
  have hx := delR_get hh
  have hrep := delLab_rep h hh
  obtain ⟨hpos, hp8⟩ := right_few h.right
  have hz2 := rep_size h.rep h.right
  have hz := rep_size q5 hrep.right
  have hdrop := tdrop_calls L.t (delR n id).r q1 fun _ => q3
  have hwith := withL_calls L (delN n id) (dropT L.t (delR n id).r).1 (delR n id).dev hrep.ok hpos hp8 hz hz2 fun d hd => ⟨_, rows_get h hd, fun i hi => moved_ok h hrep.ok q5 i hi⟩
  have hlen40 := (right_rules h.right).2
  have hLn := h.net
  have hok := h.ok
  have hne : n.rules ≠ [] := fun e => by rw [e] at hlt; simp at hlt
  have hkind : (dropT L.t (delR n id).r).2 = 0 := by unfold dropT; rw [if_neg q2]
  rw [hkind] at hdrop
  have hll : labO (some (delLab L n id)) = labO (some (withLab L (delN n id) (dropT L.t (delR n id).r).1 (delR n id).dev)) := rfl
  rw [hll]
  have hdn : delN n id = ⟨n.t, n.rules.eraseIdx (placeI n.rules id)⟩ := rfl
  have hids := labO_ids (fun _ => False) (some (withLab L (delN n id) (dropT L.t (delR n id).r).1 (delR n id).dev))
  generalize (dropT L.t (delR n id).r).1 = T' at *
  generalize withLab L (delN n id) T' (delR n id).dev = R at *
  generalize delR n id = r at *
  generalize placeI n.rules id = p at *
  clear q1 q2 q3 q4 q5 hrep hz hz2 h hll hkind
  have hfl : AV.agg [intsAV L.n.t.ports false, linksAV L.n.t.links false, rulesAV L.n.rules false] = nwAV n flN := by rw [hLn]; rfl
  refine pbody Try.func34 rfl (N := 55) rfl rfl (by simp) (by simp [noIds, hids]) fun σ => ?_
  have f8 : σ.m ⟨8, σ.nx 8, 3⟩ = none := fresh_none _ _ _
  (try (first | (with_reducible refine dops_go ?_; simp [-cellOK, labO, labC, hfl]) | (with_reducible refine OKv_go ?_; simp [-cellOK, labO, labC, hfl]) | (with_reducible refine OKr_go ?_; simp [-cellOK, labO, labC, hfl]))); repeat' (first | refine awp_seq ?_ | refine awp_block ?_ | (refine awp_skip ?_; try simp) | (refine awp_exit ?_; try simp) | (refine awp_ret ?_; try simp) | (refine awp_reg ?_; simp [-cellOK, labO, labC, hfl]) | (refine awp_drawT (fun _ => false) mixed (by decide +kernel) ?_; simp [-cellOK, labO, labC, hfl]) | (refine guarded_split ?_ ?_ <;> (intro hg; simp only [hg]; simp [-cellOK, labO, labC, hfl])) | (apply awp_cond_t; focus (simp [-cellOK, labO, labC, hfl]; done)) | (apply awp_cond_f; focus (simp [-cellOK, labO, labC, hfl]; done)) | (refine awp_cond ?_; simp [-cellOK, labO, labC, hfl]; refine ⟨?_, ?_⟩ <;> intro hc) | (refine awp_drawT isCallO mixed (by decide +kernel) ?_; simp [-cellOK, labO, labC, hfl]) | (refine PCalls.use (hf) ?_; simp [-cellOK, labO, labC, hfl]) | (refine Or.inl ⟨_, Or.inl (hf), ?_⟩; simp [-cellOK, labO, labC, hfl]) | fail)
  refine ownO_calls n flN hok hne fun v τ hO hE => ?_
  rcases hO with ⟨e, _⟩ | ⟨j, rfl, hj, hm, hn⟩
  · exact absurd (List.map_eq_nil_iff.1 e) hne
  rw [List.length_map]
  have hxp : n.rules[p] = r := (List.getElem?_eq_some_iff.1 hx).2
  have w1 : IntKind.i64.wrap ((p : Int) + 1) = ((p + 1 : Nat) : Int) := by rw [wrap64 (by omega) (by omega)]; omega
  have c1 : (intsAV n.t.ports false).cells = [intsAV n.t.ports false] := rfl
  have c2 : (linksAV n.t.links false).cells = [linksAV n.t.links false] := rfl
  have g8 : τ.m ⟨8, τ.nx 8, 3⟩ = none := fresh_none _ _ _
  have g9 : τ.m ⟨9, τ.nx 9, 7⟩ = none := fresh_none _ _ _
  have j8 : j ≠ ⟨8, τ.nx 8, 3⟩ := fun e => by rw [e, g8] at hm; cases hm
  have j9 : j ≠ ⟨9, τ.nx 9, 7⟩ := fun e => by rw [e, g9] at hm; cases hm
  (try (first | (with_reducible refine dops_go ?_; simp [-cellOK, labO, labC, new_m, set_m, new_nx', c1, c2, ru_cells, hm, hj, j8, j9, hlt, hxp, w1]) | (with_reducible refine OKv_go ?_; simp [-cellOK, labO, labC, new_m, set_m, new_nx', c1, c2, ru_cells, hm, hj, j8, j9, hlt, hxp, w1]) | (with_reducible refine OKr_go ?_; simp [-cellOK, labO, labC, new_m, set_m, new_nx', c1, c2, ru_cells, hm, hj, j8, j9, hlt, hxp, w1]))); repeat' (first | refine awp_seq ?_ | refine awp_block ?_ | (refine awp_skip ?_; try simp) | (refine awp_exit ?_; try simp) | (refine awp_ret ?_; try simp) | (refine awp_reg ?_; simp [-cellOK, labO, labC, new_m, set_m, new_nx', c1, c2, ru_cells, hm, hj, j8, j9, hlt, hxp, w1]) | (refine awp_drawT (fun _ => false) mixed (by decide +kernel) ?_; simp [-cellOK, labO, labC, new_m, set_m, new_nx', c1, c2, ru_cells, hm, hj, j8, j9, hlt, hxp, w1]) | (refine guarded_split ?_ ?_ <;> (intro hg; simp only [hg]; simp [-cellOK, labO, labC, new_m, set_m, new_nx', c1, c2, ru_cells, hm, hj, j8, j9, hlt, hxp, w1])) | (apply awp_cond_t; focus (simp [-cellOK, labO, labC, new_m, set_m, new_nx', c1, c2, ru_cells, hm, hj, j8, j9, hlt, hxp, w1]; done)) | (apply awp_cond_f; focus (simp [-cellOK, labO, labC, new_m, set_m, new_nx', c1, c2, ru_cells, hm, hj, j8, j9, hlt, hxp, w1]; done)) | (refine awp_cond ?_; simp [-cellOK, labO, labC, new_m, set_m, new_nx', c1, c2, ru_cells, hm, hj, j8, j9, hlt, hxp, w1]; refine ⟨?_, ?_⟩ <;> intro hc) | (refine awp_drawT isCallO mixed (by decide +kernel) ?_; simp [-cellOK, labO, labC, new_m, set_m, new_nx', c1, c2, ru_cells, hm, hj, j8, j9, hlt, hxp, w1]) | fail)
  refine ruDelete_calls (l := n.rules) (i := p) hlt (by omega) hj (by simp [new_m, set_m, new_nx', hm, j8, j9]) fun τ2 m1 m2 m3 => ?_
  have e8 : τ2.m ⟨8, τ.nx 8, 3⟩ = some (.buf [.agg [intsAV n.t.ports false, linksAV n.t.links false, .rs j 0 n.rules.length]]) := by
    rw [m2 _ (Ne.symm j8)]; simp [new_m, set_m, new_nx']
  have e9 : τ2.m ⟨9, τ.nx 9, 7⟩ = some (.buf [ruAV r]) := by
    rw [m2 _ (Ne.symm j9)]; simp [new_m, set_m, new_nx']; rfl
  have hE2 : Ext σ τ2 := by
    refine ⟨fun i o h => ?_, fun s => ?_⟩
    · have q1 : i ≠ j := fun e => by rw [e, hn] at h; cases h
      have h' := hE.m i o h
      have q8 : i ≠ ⟨8, τ.nx 8, 3⟩ := fun e => by rw [e, g8] at h'; cases h'
      have q9 : i ≠ ⟨9, τ.nx 9, 7⟩ := fun e => by rw [e, g9] at h'; cases h'
      rw [m2 i q1]; simp [new_m, set_m, new_nx', q8, q9, h']
    · have := hE.nx s
      rw [m3]
      simp only [St.set, St.new]
      repeat' split
      all_goals omega
  have s8 : σ.m ⟨8, τ.nx 8, 3⟩ = none := by
    cases h : σ.m ⟨8, τ.nx 8, 3⟩ with
    | none => rfl
    | some o => rw [hE.m _ _ h] at g8; cases g8
  have s9 : σ.m ⟨9, τ.nx 9, 7⟩ = none := by
    cases h : σ.m ⟨9, τ.nx 9, 7⟩ with
    | none => rfl
    | some o => rw [hE.m _ _ h] at g9; cases g9
  have i89 : (⟨8, τ.nx 8, 3⟩ : Id) ≠ ⟨9, τ.nx 9, 7⟩ := by simp
  clear m2 m3 hE g8 g9 f8 hm
  generalize (⟨8, τ.nx 8, 3⟩ : Id) = i8 at *
  generalize (⟨9, τ.nx 9, 7⟩ : Id) = i9 at *
  (try (first | (with_reducible refine dops_go ?_; simp [labO, labC, e8, e9]) | (with_reducible refine OKv_go ?_; simp [labO, labC, e8, e9]) | (with_reducible refine OKr_go ?_; simp [labO, labC, e8, e9])))
  generalize hπ : τ2.set i8 _ = π
  have p8 : π.m i8 = some (.buf [.agg [intsAV n.t.ports false, linksAV n.t.links false, .rs j 0 (n.rules.length - 1)]]) := by rw [← hπ, set_hit e8]
  have p9 : π.m i9 = some (.buf [ruAV r]) := by rw [← hπ, set_ne (Ne.symm i89)]; exact e9
  have pj : π.m j = some (.buf ((n.rules.eraseIdx p ++ [ru0]).map ruAV)) := by rw [← hπ, set_ne j8]; exact m1
  have hE3 : Ext σ π := by rw [← hπ]; exact Ext.setF hE2 s8
  clear hπ e8 e9 m1 hE2
  generalize hA : put 55 _ _ _ = A
  have a0 : A 0 = labO (some L) := by rw [← hA]; simp [labO, labC]
  have a8 : A 8 = .rp i8 0 0 := by rw [← hA]; simp
  have a9 : A 9 = .rp i9 0 0 := by rw [← hA]; simp
  clear hA
  refine awp_freeze i8 ?_
  refine awp_freezeD j ?_
  refine awp_freeze i9 ?_
  have g1 : ∀ (m m' : Mem) l b, giveUp m' m (intsAV l b) = intsAV l b := fun _ _ _ _ => rfl
  have g2 : ∀ (m m' : Mem) l b, giveUp m' m (linksAV l b) = linksAV l b := fun _ _ _ _ => rfl
  have fin : ((π.del i8).del j).m i9 = some (.buf [ruAV r]) := by rw [del_other (Ne.symm j9), del_other (Ne.symm i89)]; exact p9
  have b8 : giveUp (((π.del i8).del j).del i9).m ((π.del i8).del j).m (giveUpD ((π.del i8).del j).m (π.del i8).m (giveUp (π.del i8).m π.m (A 8))) = .pp (nwAV (delN n id) flN).cells 0 := by
    rw [a8, giveUp_rp_made (by simp [St.del]) p8 rfl]
    simp only [giveUpD, AV.cells, List.map_cons, List.map_nil, g1, g2]
    rw [giveUp_rs_made (by simp [St.del]) (by rw [del_other j8]; exact pj) (by simp [List.length_eraseIdx_of_lt hlt]), hj]
    simp only [giveUp, hdn, nw_cells, rulesAV, flN, List.drop_zero]
    congr 4
    rw [← List.map_take, List.take_left' (List.length_eraseIdx_of_lt hlt)]
    rfl
  have b9 : giveUp (((π.del i8).del j).del i9).m ((π.del i8).del j).m (giveUpD ((π.del i8).del j).m (π.del i8).m (giveUp (π.del i8).m π.m (A 9))) = .pp (ruAV r).cells 0 := by
    rw [a9, giveUp_rp_ne (Ne.symm i89)]
    simp only [giveUpD]
    rw [giveUp_rp_ne (Ne.symm j9), giveUp_rp_made (by simp [St.del]) fin rfl]
  have b0 : giveUp (((π.del i8).del j).del i9).m ((π.del i8).del j).m (giveUpD ((π.del i8).del j).m (π.del i8).m (giveUp (π.del i8).m π.m (A 0))) = labO (some L) := by
    rw [a0]
    simp [labO, labC, giveUp, giveUpD, intsAV, linksAV, rulesAV]
    cases L.t <;> rfl
  have hE4 : Ext σ (((π.del i8).del j).del i9) := by
    refine ⟨fun i o h => ?_, hE3.nx⟩
    rw [del_other (fun e => by rw [e, s9] at h; cases h), del_other (fun e => by rw [e, hn] at h; cases h), del_other (fun e => by rw [e, s8] at h; cases h)]
    exact hE3.m i o h
  generalize hA' : (fun t => giveUp _ _ _) = A'
  have c0 : A' 0 = labO (some L) := by rw [← hA']; exact b0
  have c8 : A' 8 = .pp (nwAV (delN n id) flN).cells 0 := by rw [← hA']; exact b8
  have c9 : A' 9 = .pp (ruAV r).cells 0 := by rw [← hA']; exact b9
  clear hA' b0 b8 b9 fin a0 a8 a9 p8 p9 pj hE3
  generalize ((π.del i8).del j).del i9 = ρ at *
  generalize delN n id = n' at *
  (try (first | (with_reducible refine dops_go ?_; simp [-cellOK, c0, c8, c9, labO, labC, nw_cells, nw_fold, ru_cells, rg_fold]) | (with_reducible refine OKv_go ?_; simp [-cellOK, c0, c8, c9, labO, labC, nw_cells, nw_fold, ru_cells, rg_fold]) | (with_reducible refine OKr_go ?_; simp [-cellOK, c0, c8, c9, labO, labC, nw_cells, nw_fold, ru_cells, rg_fold]))); repeat' (first | refine awp_seq ?_ | refine awp_block ?_ | (refine awp_skip ?_; try simp) | (refine awp_exit ?_; try simp) | (refine awp_ret ?_; try simp) | (refine retP_same (by simp) ?_; simp) | (refine retP_no (by simp) (by simp [noIds]) (by repeat (first | assumption | exact Ext.refl _ | refine ext_new' ?_ | refine Ext.setF ?_ (by first | assumption | (simp [new_nx', St.set, fresh_none]; done) | exact ext_fresh (by assumption)))) ?_; simp [-cellOK, c0, c8, c9, labO, labC, nw_cells, nw_fold, ru_cells, rg_fold, new_m, set_m, new_nx']) | (refine awp_reg ?_; simp [-cellOK, c0, c8, c9, labO, labC, nw_cells, nw_fold, ru_cells, rg_fold]) | (refine awp_drawT (fun _ => false) mixed (by decide +kernel) ?_; simp [-cellOK, c0, c8, c9, labO, labC, nw_cells, nw_fold, ru_cells, rg_fold]) | (refine guarded_split ?_ ?_ <;> (intro hg; simp only [hg]; simp [-cellOK, c0, c8, c9, labO, labC, nw_cells, nw_fold, ru_cells, rg_fold])) | (apply awp_cond_t; focus (simp [-cellOK, c0, c8, c9, labO, labC, nw_cells, nw_fold, ru_cells, rg_fold]; done)) | (apply awp_cond_f; focus (simp [-cellOK, c0, c8, c9, labO, labC, nw_cells, nw_fold, ru_cells, rg_fold]; done)) | (refine awp_cond ?_; simp [-cellOK, c0, c8, c9, labO, labC, nw_cells, nw_fold, ru_cells, rg_fold]; refine ⟨?_, ?_⟩ <;> intro hc) | (refine awp_drawT isCallO mixed (by decide +kernel) ?_; simp [-cellOK, c0, c8, c9, labO, labC, nw_cells, nw_fold, ru_cells, rg_fold]) | (refine PCalls.use (hdrop) ?_; simp [-cellOK, c0, c8, c9, labO, labC, nw_cells, nw_fold, ru_cells, rg_fold]) | (refine Or.inl ⟨_, Or.inl (hdrop), ?_⟩; simp [-cellOK, c0, c8, c9, labO, labC, nw_cells, nw_fold, ru_cells, rg_fold]) | (refine PCalls.use (hwith) ?_; simp [-cellOK, c0, c8, c9, labO, labC, nw_cells, nw_fold, ru_cells, rg_fold]) | (refine Or.inl ⟨_, Or.inl (hwith), ?_⟩; simp [-cellOK, c0, c8, c9, labO, labC, nw_cells, nw_fold, ru_cells, rg_fold]) | fail)
end Go.Proofs.Ytanimmdlgmkmkaa.Av


/- label: the live question. -/
namespace Go.Proofs.Ytanimmdlgmkmkaa.Av
open Go
set_option linter.unusedSimpArgs false
set_option linter.unusedVariables false
set_option maxRecDepth 100000
set_option maxHeartbeats 4000000
set_option pp.maxSteps 600

theorem netN_right : rightN netN = true := by decide +kernel
theorem netN_here : hereI netN.rules 5 = true := by decide +kernel
theorem net_at1 : atLab (labOf netN) 2 1 = some (-3) := by decide +kernel
theorem net_at2 : atLab (delLab (labOf netN) netN 5) 2 1 = some (-1) := by decide +kernel
theorem net_atom : atomT (labOf netN).t 1 = some ⟨20, 24⟩ := by decide +kernel
theorem net_len1 : ((labOf netN).t.getD newTab).b.sz = 7 := by decide +kernel
theorem net_len2 : ((delLab (labOf netN) netN 5).t.getD newTab).b.sz = 5 := by decide +kernel
theorem rows_small {L : Lab} {n : Nw} (h : LabRep L n) : L.rows.length < 2 ^ 60 ∧ ∀ r ∈ L.rows, r.length < 2 ^ 60 := by
  have h1 := (right_few h.right).2
  have h2 := rep_size h.rep h.right
  rw [rep_len h.rep] at h2
  refine ⟨by rw [h.rows]; simp; omega, fun r hr => ?_⟩
  rw [h.rows] at hr
  obtain ⟨d, -, rfl⟩ := List.mem_map.1 hr
  unfold rowC
  rw [List.length_map, atomsC_len]; omega
theorem alive10_calls : PCalls Try.prog 21 [] (.raw (.bool true)) := by
  have hn := net_calls
  have r1 := labOf_rep netN_ok netN_right
  have r2 := delLab_rep r1 netN_here
  have hof := of_calls netN flN netN_ok
  have e0 : ofL netN = (some (labOf netN), 0) := by unfold ofL; rw [netN_right]; rfl
  rw [e0] at hof
  have hd := del_calls r1 5 netN_here
  have ha1 := labAt_calls (labOf netN) 2 1 (rows_small r1).1 (rows_small r1).2
  have ha2 := labAt_calls (delLab (labOf netN) netN 5) 2 1 (rows_small r2).1 (rows_small r2).2
  have hat := labAtom_calls (some (labOf netN)) 1 fun M h => by injection h with h; rw [← h, net_len1]; decide
  have hl1 := labAtoms_calls (some (labOf netN))
  have hl2 := labAtoms_calls (some (delLab (labOf netN) netN 5))
  rw [net_at1] at ha1
  rw [net_at2] at ha2
  simp only [Option.bind_some, net_atom, Option.getD_some, Option.isSome_some] at ha1 ha2 hat
  simp only [net_len1] at hl1
  simp only [net_len2] at hl2
  have hrg : rgAV ⟨20, 24⟩ = .agg [.raw (.int .u32 20), .raw (.int .u32 24)] := rfl
  rw [hrg] at hat
  have hids1 := labO_ids (fun _ => False) (some (labOf netN))
  have hids2 := labO_ids (fun _ => False) (some (delLab (labOf netN) netN 5))
  obtain ⟨L, hL⟩ : ∃ L, labOf netN = L := ⟨_, rfl⟩
  obtain ⟨M, hM⟩ : ∃ M, delLab (labOf netN) netN 5 = M := ⟨_, rfl⟩
  rw [hM] at hd ha2 hl2 hids2
  rw [hL] at hof hd ha1 hat hl1 hids1
  obtain ⟨cL, hcL⟩ : ∃ c, labC L = c := ⟨_, rfl⟩
  have e1 : labO (some L) = .pp cL 0 := by rw [← hcL]; rfl
  rw [e1] at hof hd ha1 hat hl1 hids1
  clear r1 r2 e0 hL hM e1 hcL
  generalize netN = N at hn hof
  refine pbody Try.func21 rfl (N := 76) rfl rfl (by simp) (by simp [noIds]) fun σ => ?_
  (try (first | (with_reducible refine dops_go ?_; simp [-cellOK, nw_cells, nw_fold, new_m, set_m, new_nx']) | (with_reducible refine OKv_go ?_; simp [-cellOK, nw_cells, nw_fold, new_m, set_m, new_nx']) | (with_reducible refine OKr_go ?_; simp [-cellOK, nw_cells, nw_fold, new_m, set_m, new_nx']))); repeat' (first | refine awp_seq ?_ | refine awp_block ?_ | (refine awp_skip ?_; try simp) | (refine awp_exit ?_; try simp) | (refine awp_ret ?_; try simp) | (refine retP_same (by simp) ?_; simp) | (refine retP_no (by simp) (by simp [noIds]) (by repeat (first | assumption | exact Ext.refl _ | refine ext_new' ?_ | refine Ext.setF ?_ (by first | assumption | (simp [new_nx', St.set, fresh_none]; done) | exact ext_fresh (by assumption)))) ?_; simp [-cellOK, nw_cells, nw_fold, new_m, set_m, new_nx', new_m, set_m, new_nx']) | (refine awp_reg ?_; simp [-cellOK, nw_cells, nw_fold, new_m, set_m, new_nx']) | (refine awp_drawT (fun _ => false) mixed (by decide +kernel) ?_; simp [-cellOK, nw_cells, nw_fold, new_m, set_m, new_nx']) | (refine guarded_split ?_ ?_ <;> (intro hg; simp only [hg]; simp [-cellOK, nw_cells, nw_fold, new_m, set_m, new_nx'])) | (apply awp_cond_t; focus (simp [-cellOK, nw_cells, nw_fold, new_m, set_m, new_nx']; done)) | (apply awp_cond_f; focus (simp [-cellOK, nw_cells, nw_fold, new_m, set_m, new_nx']; done)) | (refine awp_cond ?_; simp [-cellOK, nw_cells, nw_fold, new_m, set_m, new_nx']; refine ⟨?_, ?_⟩ <;> intro hc) | (refine awp_drawT isCallO mixed (by decide +kernel) ?_; simp [-cellOK, nw_cells, nw_fold, new_m, set_m, new_nx']) | (refine PCalls.use (hn) ?_; simp [-cellOK, nw_cells, nw_fold, new_m, set_m, new_nx']) | (refine Or.inl ⟨_, Or.inl (hn), ?_⟩; simp [-cellOK, nw_cells, nw_fold, new_m, set_m, new_nx']) | (refine PCalls.use (hof) ?_; simp [-cellOK, nw_cells, nw_fold, new_m, set_m, new_nx']) | (refine Or.inl ⟨_, Or.inl (hof), ?_⟩; simp [-cellOK, nw_cells, nw_fold, new_m, set_m, new_nx']) | (refine PCalls.use (hd) ?_; simp [-cellOK, nw_cells, nw_fold, new_m, set_m, new_nx']) | (refine Or.inl ⟨_, Or.inl (hd), ?_⟩; simp [-cellOK, nw_cells, nw_fold, new_m, set_m, new_nx']) | (refine PCalls.use (ha1) ?_; simp [-cellOK, nw_cells, nw_fold, new_m, set_m, new_nx']) | (refine Or.inl ⟨_, Or.inl (ha1), ?_⟩; simp [-cellOK, nw_cells, nw_fold, new_m, set_m, new_nx']) | (refine PCalls.use (ha2) ?_; simp [-cellOK, nw_cells, nw_fold, new_m, set_m, new_nx']) | (refine Or.inl ⟨_, Or.inl (ha2), ?_⟩; simp [-cellOK, nw_cells, nw_fold, new_m, set_m, new_nx']) | (refine PCalls.use (hat) ?_; simp [-cellOK, nw_cells, nw_fold, new_m, set_m, new_nx']) | (refine Or.inl ⟨_, Or.inl (hat), ?_⟩; simp [-cellOK, nw_cells, nw_fold, new_m, set_m, new_nx']) | (refine PCalls.use (hl1) ?_; simp [-cellOK, nw_cells, nw_fold, new_m, set_m, new_nx']) | (refine Or.inl ⟨_, Or.inl (hl1), ?_⟩; simp [-cellOK, nw_cells, nw_fold, new_m, set_m, new_nx']) | (refine PCalls.use (hl2) ?_; simp [-cellOK, nw_cells, nw_fold, new_m, set_m, new_nx']) | (refine Or.inl ⟨_, Or.inl (hl2), ?_⟩; simp [-cellOK, nw_cells, nw_fold, new_m, set_m, new_nx']) | fail)
end Go.Proofs.Ytanimmdlgmkmkaa.Av


/- label: the network of labels; no labels; the law LabelNil walked. -/
namespace Go.Proofs.Ytanimmdlgmkmkaa.Av
open Go
set_option linter.unusedSimpArgs false
set_option linter.unusedVariables false
set_option maxRecDepth 100000
set_option maxHeartbeats 4000000
set_option pp.maxSteps 600

def nw0AV : AV := .agg [.sl 0 [] true, .sl 0 [] true, .sl 0 [] true]
theorem nw0_eq : nw0AV = .agg [.sl 0 [] true, .sl 0 [] true, .sl 0 [] true] := rfl
theorem labNet0_calls : PCalls Try.prog 35 [.raw (.pointer none)] nw0AV := by
  unfold nw0AV
  refine pbody Try.func35 rfl (N := 11) rfl rfl (by simp) (by simp [noIds]) fun σ => ?_
  (try (first | (with_reducible refine dops_go ?_; simp [-cellOK, new_m, set_m, new_nx']) | (with_reducible refine OKv_go ?_; simp [-cellOK, new_m, set_m, new_nx']) | (with_reducible refine OKr_go ?_; simp [-cellOK, new_m, set_m, new_nx']))); repeat' (first | refine awp_seq ?_ | refine awp_block ?_ | (refine awp_skip ?_; try simp) | (refine awp_exit ?_; try simp) | (refine awp_ret ?_; try simp) | (refine retP_same (by simp) ?_; simp) | (refine retP_no (by simp) (by simp [noIds]) (by repeat (first | assumption | exact Ext.refl _ | refine ext_new' ?_ | refine Ext.setF ?_ (by first | assumption | (simp [new_nx', St.set, fresh_none]; done) | exact ext_fresh (by assumption)))) ?_; simp [-cellOK, new_m, set_m, new_nx', new_m, set_m, new_nx']) | (refine awp_reg ?_; simp [-cellOK, new_m, set_m, new_nx']) | (refine awp_drawT (fun _ => false) mixed (by decide +kernel) ?_; simp [-cellOK, new_m, set_m, new_nx']) | (refine guarded_split ?_ ?_ <;> (intro hg; simp only [hg]; simp [-cellOK, new_m, set_m, new_nx'])) | (apply awp_cond_t; focus (simp [-cellOK, new_m, set_m, new_nx']; done)) | (apply awp_cond_f; focus (simp [-cellOK, new_m, set_m, new_nx']; done)) | (refine awp_cond ?_; simp [-cellOK, new_m, set_m, new_nx']; refine ⟨?_, ?_⟩ <;> intro hc) | (refine awp_drawT isCallO mixed (by decide +kernel) ?_; simp [-cellOK, new_m, set_m, new_nx']) | fail)
theorem ins0_calls (r : Ru) : PCalls Try.prog 33 [.raw (.pointer none), ruAV r] (.tup [.raw (.pointer none), .raw (.int .i64 1)]) := by
  refine pbody Try.func33 rfl (N := 52) rfl rfl (by simp) (by simp [noIds]) fun σ => ?_
  (try (first | (with_reducible refine dops_go ?_; simp [-cellOK, ru_cells]) | (with_reducible refine OKv_go ?_; simp [-cellOK, ru_cells]) | (with_reducible refine OKr_go ?_; simp [-cellOK, ru_cells]))); repeat' (first | refine awp_seq ?_ | refine awp_block ?_ | (refine awp_skip ?_; try simp) | (refine awp_exit ?_; try simp) | (refine awp_ret ?_; try simp) | (refine retP_same (by simp) ?_; simp) | (refine retP_no (by simp) (by simp [noIds]) (by repeat (first | assumption | exact Ext.refl _ | refine ext_new' ?_ | refine Ext.setF ?_ (by first | assumption | (simp [new_nx', St.set, fresh_none]; done) | exact ext_fresh (by assumption)))) ?_; simp [-cellOK, ru_cells, new_m, set_m, new_nx']) | (refine awp_reg ?_; simp [-cellOK, ru_cells]) | (refine awp_drawT (fun _ => false) mixed (by decide +kernel) ?_; simp [-cellOK, ru_cells]) | (refine guarded_split ?_ ?_ <;> (intro hg; simp only [hg]; simp [-cellOK, ru_cells])) | (apply awp_cond_t; focus (simp [-cellOK, ru_cells]; done)) | (apply awp_cond_f; focus (simp [-cellOK, ru_cells]; done)) | (refine awp_cond ?_; simp [-cellOK, ru_cells]; refine ⟨?_, ?_⟩ <;> intro hc) | (refine awp_drawT isCallO mixed (by decide +kernel) ?_; simp [-cellOK, ru_cells]) | fail)
theorem del0_calls (id : Int) : PCalls Try.prog 34 [.raw (.pointer none), .raw (.int .i64 id)] (.tup [.raw (.pointer none), .raw (.int .i64 1)]) := by
  refine pbody Try.func34 rfl (N := 55) rfl rfl (by simp) (by simp [noIds]) fun σ => ?_
  (try (first | (with_reducible refine dops_go ?_; simp [-cellOK]) | (with_reducible refine OKv_go ?_; simp [-cellOK]) | (with_reducible refine OKr_go ?_; simp [-cellOK]))); repeat' (first | refine awp_seq ?_ | refine awp_block ?_ | (refine awp_skip ?_; try simp) | (refine awp_exit ?_; try simp) | (refine awp_ret ?_; try simp) | (refine retP_same (by simp) ?_; simp) | (refine retP_no (by simp) (by simp [noIds]) (by repeat (first | assumption | exact Ext.refl _ | refine ext_new' ?_ | refine Ext.setF ?_ (by first | assumption | (simp [new_nx', St.set, fresh_none]; done) | exact ext_fresh (by assumption)))) ?_; simp [-cellOK, new_m, set_m, new_nx']) | (refine awp_reg ?_; simp [-cellOK]) | (refine awp_drawT (fun _ => false) mixed (by decide +kernel) ?_; simp [-cellOK]) | (refine guarded_split ?_ ?_ <;> (intro hg; simp only [hg]; simp [-cellOK])) | (apply awp_cond_t; focus (simp [-cellOK]; done)) | (apply awp_cond_f; focus (simp [-cellOK]; done)) | (refine awp_cond ?_; simp [-cellOK]; refine ⟨?_, ?_⟩ <;> intro hc) | (refine awp_drawT isCallO mixed (by decide +kernel) ?_; simp [-cellOK]) | fail)
theorem at0_calls (d a : Int) : PCalls Try.prog 24 [.raw (.pointer none), .raw (.int .i64 d), .raw (.int .i64 a)] (.tup [.raw (.int .i64 0), .raw (.bool false)]) := by
  refine pbody Try.func24 rfl (N := 49) rfl rfl (by simp) (by simp [noIds]) fun σ => ?_
  (try (first | (with_reducible refine dops_go ?_; simp [-cellOK]) | (with_reducible refine OKv_go ?_; simp [-cellOK]) | (with_reducible refine OKr_go ?_; simp [-cellOK]))); repeat' (first | refine awp_seq ?_ | refine awp_block ?_ | (refine awp_skip ?_; try simp) | (refine awp_exit ?_; try simp) | (refine awp_ret ?_; try simp) | (refine retP_same (by simp) ?_; simp) | (refine retP_no (by simp) (by simp [noIds]) (by repeat (first | assumption | exact Ext.refl _ | refine ext_new' ?_ | refine Ext.setF ?_ (by first | assumption | (simp [new_nx', St.set, fresh_none]; done) | exact ext_fresh (by assumption)))) ?_; simp [-cellOK, new_m, set_m, new_nx']) | (refine awp_reg ?_; simp [-cellOK]) | (refine awp_drawT (fun _ => false) mixed (by decide +kernel) ?_; simp [-cellOK]) | (refine guarded_split ?_ ?_ <;> (intro hg; simp only [hg]; simp [-cellOK])) | (apply awp_cond_t; focus (simp [-cellOK]; done)) | (apply awp_cond_f; focus (simp [-cellOK]; done)) | (refine awp_cond ?_; simp [-cellOK]; refine ⟨?_, ?_⟩ <;> intro hc) | (refine awp_drawT isCallO mixed (by decide +kernel) ?_; simp [-cellOK]) | fail)
theorem labelNil_calls (r : Ru) : PCalls Try.prog 10 [ruAV r] (.raw (.bool true)) := by
  have h1 := ins0_calls r
  have h2 := del0_calls r.id
  have h3 := labAtom_calls none 0 (by simp)
  have h4 := at0_calls 0 0
  have h5 := labNet0_calls
  have h6 := labAtoms_calls none
  have hal := alive10_calls
  simp only [labO, Option.bind_none, Option.getD_none, Option.isSome_none] at h3 h6
  have hz : rgAV ⟨0, 0⟩ = .agg [.raw (.int .u32 0), .raw (.int .u32 0)] := rfl
  rw [hz] at h3
  rw [nw0_eq] at h5
  have w0 : IntKind.i64.wrap 0 = 0 := wrap64 (by decide) (by decide)
  refine pbody Try.func10 rfl (N := 71) rfl rfl (by simp) (by simp [noIds]) fun σ => ?_
  (try (first | (with_reducible refine dops_go ?_; simp [-cellOK, ru_cells, ru_fold, new_m, set_m, new_nx', w0]) | (with_reducible refine OKv_go ?_; simp [-cellOK, ru_cells, ru_fold, new_m, set_m, new_nx', w0]) | (with_reducible refine OKr_go ?_; simp [-cellOK, ru_cells, ru_fold, new_m, set_m, new_nx', w0]))); repeat' (first | refine awp_seq ?_ | refine awp_block ?_ | (refine awp_skip ?_; try simp) | (refine awp_exit ?_; try simp) | (refine awp_ret ?_; try simp) | (refine retP_same (by simp) ?_; simp) | (refine retP_no (by simp) (by simp [noIds]) (by repeat (first | assumption | exact Ext.refl _ | refine ext_new' ?_ | refine Ext.setF ?_ (by first | assumption | (simp [new_nx', St.set, fresh_none]; done) | exact ext_fresh (by assumption)))) ?_; simp [-cellOK, ru_cells, ru_fold, new_m, set_m, new_nx', w0, new_m, set_m, new_nx']) | (refine awp_reg ?_; simp [-cellOK, ru_cells, ru_fold, new_m, set_m, new_nx', w0]) | (refine awp_drawT (fun _ => false) mixed (by decide +kernel) ?_; simp [-cellOK, ru_cells, ru_fold, new_m, set_m, new_nx', w0]) | (refine guarded_split ?_ ?_ <;> (intro hg; simp only [hg]; simp [-cellOK, ru_cells, ru_fold, new_m, set_m, new_nx', w0])) | (apply awp_cond_t; focus (simp [-cellOK, ru_cells, ru_fold, new_m, set_m, new_nx', w0]; done)) | (apply awp_cond_f; focus (simp [-cellOK, ru_cells, ru_fold, new_m, set_m, new_nx', w0]; done)) | (refine awp_cond ?_; simp [-cellOK, ru_cells, ru_fold, new_m, set_m, new_nx', w0]; refine ⟨?_, ?_⟩ <;> intro hc) | (refine awp_drawT isCallO mixed (by decide +kernel) ?_; simp [-cellOK, ru_cells, ru_fold, new_m, set_m, new_nx', w0]) | (refine PCalls.use (h1) ?_; simp [-cellOK, ru_cells, ru_fold, new_m, set_m, new_nx', w0]) | (refine Or.inl ⟨_, Or.inl (h1), ?_⟩; simp [-cellOK, ru_cells, ru_fold, new_m, set_m, new_nx', w0]) | (refine PCalls.use (h2) ?_; simp [-cellOK, ru_cells, ru_fold, new_m, set_m, new_nx', w0]) | (refine Or.inl ⟨_, Or.inl (h2), ?_⟩; simp [-cellOK, ru_cells, ru_fold, new_m, set_m, new_nx', w0]) | (refine PCalls.use (h3) ?_; simp [-cellOK, ru_cells, ru_fold, new_m, set_m, new_nx', w0]) | (refine Or.inl ⟨_, Or.inl (h3), ?_⟩; simp [-cellOK, ru_cells, ru_fold, new_m, set_m, new_nx', w0]) | (refine PCalls.use (h4) ?_; simp [-cellOK, ru_cells, ru_fold, new_m, set_m, new_nx', w0]) | (refine Or.inl ⟨_, Or.inl (h4), ?_⟩; simp [-cellOK, ru_cells, ru_fold, new_m, set_m, new_nx', w0]) | (refine PCalls.use (h5) ?_; simp [-cellOK, ru_cells, ru_fold, new_m, set_m, new_nx', w0]) | (refine Or.inl ⟨_, Or.inl (h5), ?_⟩; simp [-cellOK, ru_cells, ru_fold, new_m, set_m, new_nx', w0]) | (refine PCalls.use (h6) ?_; simp [-cellOK, ru_cells, ru_fold, new_m, set_m, new_nx', w0]) | (refine Or.inl ⟨_, Or.inl (h6), ?_⟩; simp [-cellOK, ru_cells, ru_fold, new_m, set_m, new_nx', w0]) | (refine PCalls.use (hal) ?_; simp [-cellOK, ru_cells, ru_fold, new_m, set_m, new_nx', w0]) | (refine Or.inl ⟨_, Or.inl (hal), ?_⟩; simp [-cellOK, ru_cells, ru_fold, new_m, set_m, new_nx', w0]) | fail)
end Go.Proofs.Ytanimmdlgmkmkaa.Av

