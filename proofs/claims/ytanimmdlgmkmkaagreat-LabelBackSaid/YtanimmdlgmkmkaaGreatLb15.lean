/- Labels: LabelBack Part 15 of 17: AvL18, AvL25, AvL19, AvL26. -/
import Derived.Test.YtanimmdlgmkmkaaGreatLb9
import Derived.Test.YtanimmdlgmkmkaaGreatLb11
import Derived.Test.YtanimmdlgmkmkaaGreatLb13

/- The document's Find, Insert, Delete of rules. -/
namespace Go.Proofs.YtanimmdlgmkmkaaGreat.Av
open Go
set_option linter.unusedSimpArgs false
set_option linter.unusedVariables false
set_option maxRecDepth 100000
set_option maxHeartbeats 4000000
set_option pp.maxSteps 600

def isId (id : Int) (r : Ru) : Bool := decide (r.id = id)
def findR (l : List Ru) (id : Int) : Option Ru := l.find? (isId id)
theorem ru0_cells : (ruAV ru0).cells = [.raw (.int .i64 0), .raw (.int .i64 0), .raw (.int .i64 0), .raw (.int .i64 0), .raw (.int .u32 0), .raw (.int .u32 0), .raw (.int .i64 0)] := rfl
theorem ru_putL (r s : Ru) : setPart (ruAV r) 0 [.raw (.int .i64 s.id), .raw (.int .i64 s.dev), .raw (.int .i64 s.prio), .raw (.int .i64 s.kind), .raw (.int .u32 s.r.lo), .raw (.int .u32 s.r.hi), .raw (.int .i64 s.port)] = ruAV s := rfl
theorem ru_put0 (r : Ru) : setPart (ruAV r) 0 [.raw (.int .i64 0), .raw (.int .i64 0), .raw (.int .i64 0), .raw (.int .i64 0), .raw (.int .u32 0), .raw (.int .u32 0), .raw (.int .i64 0)] = ruAV ru0 := rfl
theorem refFind_calls (l : List Ru) (f : Bool) (id : Int) (hl : l.length < 2 ^ 60) :
    PCalls Tryz.prog 41 [rulesAV l f, .raw (.int .i64 id)] (.tup [ruAV ((findR l id).getD ru0), .raw (.bool (findR l id).isSome)]) := by
  refine pbody Tryz.func41 rfl (N := 25) rfl rfl (by simp) (by simp [noIds, ru_ids]) fun σ => ?_
  have f4 : σ.m ⟨4, σ.nx 4, 7⟩ = none := fresh_none _ _ _
  (try ((first | with_reducible refine dops_go ?_ | with_reducible refine OKv_go ?_ | with_reducible refine OKr_go ?_); simp [-cellOK, new_m, set_m, new_nx', ru0_fold, ru0_cells])); repeat' (first | refine awp_seq ?_ | refine awp_block ?_ | (refine awp_skip ?_; try simp) | (refine awp_exit ?_; try simp) | (refine awp_ret ?_; try simp) | ((first | refine awp_reg ?_ | refine awp_drawT (fun _ => false) mixed (by decide +kernel) ?_ | refine awp_drawT isCallO mixed (by decide +kernel) ?_); simp [-cellOK, new_m, set_m, new_nx', ru0_fold, ru0_cells]) | (refine guarded_split ?_ ?_ <;> (intro hg; simp only [hg]; simp [-cellOK, new_m, set_m, new_nx', ru0_fold, ru0_cells])) | (apply awp_cond_t; focus (simp [-cellOK, new_m, set_m, new_nx', ru0_fold, ru0_cells]; done)) | (apply awp_cond_f; focus (simp [-cellOK, new_m, set_m, new_nx', ru0_fold, ru0_cells]; done)) | (refine awp_cond ?_; simp [-cellOK, new_m, set_m, new_nx', ru0_fold, ru0_cells]; refine ⟨?_, ?_⟩ <;> intro hc) | fail)
  refine awp_loopH (fun n A τ => Ext σ τ ∧ A 0 = rulesAV l f ∧ A 1 = .raw (.int .i64 id) ∧ A 4 = .rp ⟨4, σ.nx 4, 7⟩ 0 0 ∧ τ.m ⟨4, σ.nx 4, 7⟩ = some (.buf [ruAV ru0]) ∧ ∃ i : Nat, A 6 = .raw (.int .i64 i) ∧ i ≤ l.length ∧ n = l.length - i ∧ findR l id = findR (l.drop i) id) l.length ?_ ?_
  · exact ⟨(by repeat (first | assumption | exact Ext.refl _ | refine ext_new' ?_ | refine Ext.setF ?_ (by first | assumption | (simp [new_nx', St.set, fresh_none]; done) | exact ext_fresh (by assumption)))), by simp, by simp, by simp [ru0_cells], by simp [new_m, ru0_cells], 0, by simp, by omega, by omega, by simp⟩
  generalize (⟨4, σ.nx 4, 7⟩ : Id) = i4 at *
  rintro n A τ ⟨hE, a0, a1, a4, m4, i, a6, hi, rfl, hf⟩ I1 hI1
  by_cases hlt : i < l.length
  · have hx : l[i]? = some l[i] := List.getElem?_eq_getElem hlt
    obtain ⟨r, hr⟩ : ∃ r, l[i] = r := ⟨_, rfl⟩
    rw [List.drop_eq_getElem_cons hlt, hr] at hf
    have w1 : IntKind.i64.wrap ((i : Int) + 1) = ((i + 1 : Nat) : Int) := by rw [wrap64 (by omega) (by omega)]; omega
    by_cases he : r.id = id
    · have he' := eq_true he
      have e1 : findR l id = some r := by rw [hf]; simp [findR, isId, he]
      rw [e1]
      (try ((first | with_reducible refine dops_go ?_ | with_reducible refine OKv_go ?_ | with_reducible refine OKr_go ?_); simp [-cellOK, a0, a1, a4, a6, m4, rulesAV, hlt, hx, hr, ru0_cells, ru_cells, ru_fold, he', ru_putL, new_m, set_m, new_nx'])); repeat' (first | refine awp_seq ?_ | refine awp_block ?_ | (refine awp_skip ?_; try simp) | (refine awp_exit ?_; try simp) | (refine awp_ret ?_; try simp) | (refine retP_same (by simp) ?_; simp) | (refine retP_no (by simp) (by simp [noIds]) (by repeat (first | assumption | exact Ext.refl _ | refine ext_new' ?_ | refine Ext.setF ?_ (by first | assumption | (simp [new_nx', St.set, fresh_none]; done) | exact ext_fresh (by assumption)))) ?_; simp [-cellOK, a0, a1, a4, a6, m4, rulesAV, hlt, hx, hr, ru0_cells, ru_cells, ru_fold, he', ru_putL, new_m, set_m, new_nx', new_m, set_m, new_nx']) | ((first | refine awp_reg ?_ | refine awp_drawT (fun _ => false) mixed (by decide +kernel) ?_ | refine awp_drawT isCallO mixed (by decide +kernel) ?_); simp [-cellOK, a0, a1, a4, a6, m4, rulesAV, hlt, hx, hr, ru0_cells, ru_cells, ru_fold, he', ru_putL, new_m, set_m, new_nx']) | (refine guarded_split ?_ ?_ <;> (intro hg; simp only [hg]; simp [-cellOK, a0, a1, a4, a6, m4, rulesAV, hlt, hx, hr, ru0_cells, ru_cells, ru_fold, he', ru_putL, new_m, set_m, new_nx'])) | (apply awp_cond_t; focus (simp [-cellOK, a0, a1, a4, a6, m4, rulesAV, hlt, hx, hr, ru0_cells, ru_cells, ru_fold, he', ru_putL, new_m, set_m, new_nx']; done)) | (apply awp_cond_f; focus (simp [-cellOK, a0, a1, a4, a6, m4, rulesAV, hlt, hx, hr, ru0_cells, ru_cells, ru_fold, he', ru_putL, new_m, set_m, new_nx']; done)) | (refine awp_cond ?_; simp [-cellOK, a0, a1, a4, a6, m4, rulesAV, hlt, hx, hr, ru0_cells, ru_cells, ru_fold, he', ru_putL, new_m, set_m, new_nx']; refine ⟨?_, ?_⟩ <;> intro hc) | fail)
    · have he' := eq_false he
      have e1 : findR l id = findR (l.drop (i + 1)) id := by rw [hf]; simp [findR, isId, he]
      (try ((first | with_reducible refine dops_go ?_ | with_reducible refine OKv_go ?_ | with_reducible refine OKr_go ?_); simp [-cellOK, a0, a1, a4, a6, m4, rulesAV, hlt, hx, hr, ru_cells, ru_fold, he', w1])); repeat' (first | refine awp_seq ?_ | refine awp_block ?_ | (refine awp_skip ?_; try simp) | (refine awp_exit ?_; try simp) | (refine awp_ret ?_; try simp) | (refine retP_same (by simp) ?_; simp) | (refine retP_no (by simp) (by simp [noIds]) (by repeat (first | assumption | exact Ext.refl _ | refine ext_new' ?_ | refine Ext.setF ?_ (by first | assumption | (simp [new_nx', St.set, fresh_none]; done) | exact ext_fresh (by assumption)))) ?_; simp [-cellOK, a0, a1, a4, a6, m4, rulesAV, hlt, hx, hr, ru_cells, ru_fold, he', w1, new_m, set_m, new_nx']) | ((first | refine awp_reg ?_ | refine awp_drawT (fun _ => false) mixed (by decide +kernel) ?_ | refine awp_drawT isCallO mixed (by decide +kernel) ?_); simp [-cellOK, a0, a1, a4, a6, m4, rulesAV, hlt, hx, hr, ru_cells, ru_fold, he', w1]) | (refine guarded_split ?_ ?_ <;> (intro hg; simp only [hg]; simp [-cellOK, a0, a1, a4, a6, m4, rulesAV, hlt, hx, hr, ru_cells, ru_fold, he', w1])) | (apply awp_cond_t; focus (simp [-cellOK, a0, a1, a4, a6, m4, rulesAV, hlt, hx, hr, ru_cells, ru_fold, he', w1]; done)) | (apply awp_cond_f; focus (simp [-cellOK, a0, a1, a4, a6, m4, rulesAV, hlt, hx, hr, ru_cells, ru_fold, he', w1]; done)) | (refine awp_cond ?_; simp [-cellOK, a0, a1, a4, a6, m4, rulesAV, hlt, hx, hr, ru_cells, ru_fold, he', w1]; refine ⟨?_, ?_⟩ <;> intro hc) | fail)
      exact hI1 (l.length - (i + 1)) _ _ (by omega) ⟨hE, by simp [a0, rulesAV], by simp [a1], by simp [a4], m4, i + 1, by simp, by omega, rfl, e1⟩
  · have e1 : findR l id = none := by rw [hf, List.drop_of_length_le (by omega)]; rfl
    rw [e1]
    (try ((first | with_reducible refine dops_go ?_ | with_reducible refine OKv_go ?_ | with_reducible refine OKr_go ?_); simp [-cellOK, a0, a1, a4, a6, m4, rulesAV, hlt, ru0_fold, ru0_cells, ru_put0, new_m, set_m, new_nx'])); repeat' (first | refine awp_seq ?_ | refine awp_block ?_ | (refine awp_skip ?_; try simp) | (refine awp_exit ?_; try simp) | (refine awp_ret ?_; try simp) | (refine retP_same (by simp) ?_; simp) | (refine retP_no (by simp) (by simp [noIds]) (by repeat (first | assumption | exact Ext.refl _ | refine ext_new' ?_ | refine Ext.setF ?_ (by first | assumption | (simp [new_nx', St.set, fresh_none]; done) | exact ext_fresh (by assumption)))) ?_; simp [-cellOK, a0, a1, a4, a6, m4, rulesAV, hlt, ru0_fold, ru0_cells, ru_put0, new_m, set_m, new_nx', new_m, set_m, new_nx']) | ((first | refine awp_reg ?_ | refine awp_drawT (fun _ => false) mixed (by decide +kernel) ?_ | refine awp_drawT isCallO mixed (by decide +kernel) ?_); simp [-cellOK, a0, a1, a4, a6, m4, rulesAV, hlt, ru0_fold, ru0_cells, ru_put0, new_m, set_m, new_nx']) | (refine guarded_split ?_ ?_ <;> (intro hg; simp only [hg]; simp [-cellOK, a0, a1, a4, a6, m4, rulesAV, hlt, ru0_fold, ru0_cells, ru_put0, new_m, set_m, new_nx'])) | (apply awp_cond_t; focus (simp [-cellOK, a0, a1, a4, a6, m4, rulesAV, hlt, ru0_fold, ru0_cells, ru_put0, new_m, set_m, new_nx']; done)) | (apply awp_cond_f; focus (simp [-cellOK, a0, a1, a4, a6, m4, rulesAV, hlt, ru0_fold, ru0_cells, ru_put0, new_m, set_m, new_nx']; done)) | (refine awp_cond ?_; simp [-cellOK, a0, a1, a4, a6, m4, rulesAV, hlt, ru0_fold, ru0_cells, ru_put0, new_m, set_m, new_nx']; refine ⟨?_, ?_⟩ <;> intro hc) | fail)
theorem findR_here {l : List Ru} (hs : Srt l) (id : Int) : findR l id = if hereI l id = true then l[placeI l id]? else none := by
  cases hh : hereI l id with
  | true =>
    rw [if_pos rfl]
    have hh2 := hh
    unfold hereI at hh2
    cases hx : l[placeI l id]? with
    | none => rw [hx] at hh2; cases hh2
    | some r =>
      rw [hx] at hh2
      simp only [decide_eq_true_eq] at hh2
      unfold findR
      rw [List.find?_eq_some_iff_append]
      obtain ⟨hl, hv⟩ := List.getElem?_eq_some_iff.1 hx
      refine ⟨by simp [isId, hh2], l.take (placeI l id), l.drop (placeI l id + 1), ?_, fun a ha => ?_⟩
      · rw [← hv, ← List.drop_eq_getElem_cons hl, List.take_append_drop]
      · obtain ⟨k, hk, rfl⟩ := List.mem_take_iff_getElem.1 ha
        have hk' : k < placeI l id := by omega
        have := place_lo (List.getElem?_eq_getElem (l := l) (i := k) (by omega)) hk'
        simp [isId]; omega
  | false =>
    rw [if_neg (by simp)]
    unfold findR
    rw [List.find?_eq_none]
    intro x hx he
    simp only [isId, decide_eq_true_eq] at he
    obtain ⟨k, hk, rfl⟩ := List.mem_iff_getElem.1 hx
    have hk' : l[k]? = some l[k] := List.getElem?_eq_getElem hk
    by_cases hp : placeI l id ≤ k
    · have := place_hi hs hh hk' hp; omega
    · have := place_lo (id := id) hk' (by omega); omega
end Go.Proofs.YtanimmdlgmkmkaaGreat.Av


/- The document's Insert and Delete of labels' networks. -/
namespace Go.Proofs.YtanimmdlgmkmkaaGreat.Av
open Go
set_option linter.unusedSimpArgs false
set_option linter.unusedVariables false
set_option maxRecDepth 100000
set_option maxHeartbeats 4000000
set_option pp.maxSteps 600

/-- As far as the document's list has come. -/
def insAcc (l : List Ru) (r : Ru) (i : Nat) : List Ru := if placeI l r.id < i then l.take (placeI l r.id) ++ r :: (l.take i).drop (placeI l r.id) else l.take i
def nwZAV : AV := .agg [.sl 0 [] true, .sl 0 [] true, .sl 0 [] true]
def refInsA (n : Nw) (f : Fl) (r : Ru) : AV := if hereI n.rules r.id = true then .tup [nwZAV, .raw (.int .i64 142)] else if rightN (insN n r) = true then .tup [nwAV (insN n r) ⟨f.p, f.l, false⟩, .raw (.int .i64 0)] else .tup [nwZAV, .raw (.int .i64 71)]
def delRef (n : Nw) (id : Int) : Nw := ⟨n.t, n.rules.filter fun x => !isId id x⟩
def refDelA (n : Nw) (f : Fl) (id : Int) : AV := if hereI n.rules id = true then .tup [nwAV (delRef n id) ⟨f.p, f.l, false⟩, .raw (.int .i64 0)] else .tup [nwZAV, .raw (.int .i64 143)]
end Go.Proofs.YtanimmdlgmkmkaaGreat.Av


/- label: the law LabelBack walked. -/
namespace Go.Proofs.YtanimmdlgmkmkaaGreat.Av
open Go
set_option linter.unusedSimpArgs false
set_option linter.unusedVariables false
set_option maxRecDepth 100000
set_option maxHeartbeats 4000000
set_option pp.maxSteps 600

theorem fits09_right {n : Nw} (h : fits09 n = true) : rightN n = true := by
  unfold fits09 at h
  simp only [Bool.and_eq_true] at h
  exact h.2.2.2
theorem labelBack_calls (n : Nw) (f : Fl) (r : Ru) (id : Int) (hn : NwOK n) (hr : RuOK r) :
    PCalls Tryz.prog 7 [nwAV n f, ruAV r, .raw (.int .i64 id)] (.raw (.bool true)) := by
  have hal := alive10_calls
  have hfit := fits09_calls n f hn.w
  have hof := of_calls n f hn
  refine pbody Tryz.func7 rfl (N := 94) rfl rfl (by simp) (by simp [noIds]) fun σ => ?_
  cases hf : fits09 n with
  | false =>
    rw [hf] at hfit
    have hids := labO_ids (fun _ => False) (ofL n).1
    generalize (ofL n).2 = e at hof
    generalize (ofL n).1 = L at hof hids
    (try ((first | with_reducible refine dops_go ?_ | with_reducible refine OKv_go ?_ | with_reducible refine OKr_go ?_); simp [-cellOK, nw_cells, nw_fold, ru_cells, ru_fold, new_m, set_m, new_nx'])); repeat' (first | refine awp_seq ?_ | refine awp_block ?_ | (refine awp_skip ?_; try simp) | (refine awp_exit ?_; try simp) | (refine awp_ret ?_; try simp) | (refine retP_same (by simp) ?_; simp) | (refine retP_no (by simp) (by simp [noIds]) (by repeat (first | assumption | exact Ext.refl _ | refine ext_new' ?_ | refine Ext.setF ?_ (by first | assumption | (simp [new_nx', St.set, fresh_none]; done) | exact ext_fresh (by assumption)))) ?_; simp [-cellOK, nw_cells, nw_fold, ru_cells, ru_fold, new_m, set_m, new_nx', new_m, set_m, new_nx']) | ((first | refine awp_reg ?_ | refine awp_drawT (fun _ => false) mixed (by decide +kernel) ?_ | refine awp_drawT isCallO mixed (by decide +kernel) ?_ | refine PCalls.use (hfit) ?_ | refine Or.inl ⟨_, Or.inl (hfit), ?_⟩ | refine PCalls.use (hof) ?_ | refine Or.inl ⟨_, Or.inl (hof), ?_⟩ | refine PCalls.use (hal) ?_ | refine Or.inl ⟨_, Or.inl (hal), ?_⟩); simp [-cellOK, nw_cells, nw_fold, ru_cells, ru_fold, new_m, set_m, new_nx']) | (refine guarded_split ?_ ?_ <;> (intro hg; simp only [hg]; simp [-cellOK, nw_cells, nw_fold, ru_cells, ru_fold, new_m, set_m, new_nx'])) | (apply awp_cond_t; focus (simp [-cellOK, nw_cells, nw_fold, ru_cells, ru_fold, new_m, set_m, new_nx']; done)) | (apply awp_cond_f; focus (simp [-cellOK, nw_cells, nw_fold, ru_cells, ru_fold, new_m, set_m, new_nx']; done)) | (refine awp_cond ?_; simp [-cellOK, nw_cells, nw_fold, ru_cells, ru_fold, new_m, set_m, new_nx']; refine ⟨?_, ?_⟩ <;> intro hc) | fail)
  | true =>
  rw [hf] at hfit
  have hR := fits09_right hf
  have e0 : ofL n = (some (labOf n), 0) := by unfold ofL; rw [hR]; rfl
  rw [e0] at hof
  have hrep := labOf_rep hn hR
  have hsrt := right_srt hR
  have h40 := (right_rules hR).2
  -- what Insert comes to
  have hins : ∃ (X : AV) (eI : Int), PCalls Tryz.prog 37 [labO (some (labOf n)), ruAV r] (.tup [X, .raw (.int .i64 eI)]) ∧ ((eI = 0) = False ∨ (eI = 0) = True ∧
      ∃ Y, PCalls Tryz.prog 39 [X, .raw (.int .i64 r.id)] (.tup [Y, .raw (.int .i64 0)]) ∧ PCalls Tryz.prog 26 [Y, nwAV n f] (.raw (.bool true))) := by
    cases hh : hereI n.rules r.id with
    | true => exact ⟨_, _, ins_twice_calls hrep r hh, .inl (by simp)⟩
    | false =>
      have h1 := ins_calls hrep r hr hh
      unfold insA at h1
      cases hRi : rightN (insN n r) with
      | false =>
        rw [if_neg (by simp [hRi])] at h1
        exact ⟨_, _, h1, .inl (by simp)⟩
      | true =>
        rw [if_pos hRi] at h1
        have hrep2 := insLab_rep hrep hr hRi
        have h2 := del_calls hrep2 r.id (ins_here n.rules r)
        have hrep3 := delLab_rep hrep2 (ins_here n.rules r)
        rw [ins_del] at hrep3
        exact ⟨_, _, h1, .inr ⟨by simp, _, h2, sameL_calls f hrep3⟩⟩
  have hfind := refFind_calls n.rules f.r id (by omega)
  rw [findR_here hsrt] at hfind
  have hdel : ∃ (b : Bool) (x : Ru) (X : AV) (eD : Int), PCalls Tryz.prog 41 [rulesAV n.rules f.r, .raw (.int .i64 id)] (.tup [ruAV x, .raw (.bool b)]) ∧ PCalls Tryz.prog 39 [labO (some (labOf n)), .raw (.int .i64 id)] (.tup [X, .raw (.int .i64 eD)]) ∧
      (b = false ∧ (eD = 0) = False ∨ b = true ∧ (eD = 0) = True ∧
      ∃ Y, PCalls Tryz.prog 37 [X, ruAV x] (.tup [Y, .raw (.int .i64 0)]) ∧ PCalls Tryz.prog 26 [Y, nwAV n f] (.raw (.bool true))) := by
    cases hh : hereI n.rules id with
    | false =>
      rw [hh] at hfind
      exact ⟨_, _, _, _, hfind, del_none_calls hrep id hh, .inl ⟨rfl, by simp⟩⟩
    | true =>
      rw [hh, if_pos rfl, delR_get hh] at hfind
      obtain ⟨hi1, hi2⟩ := del_insN hsrt hh
      have hm : delR n id ∈ n.rules := List.mem_of_getElem? (delR_get hh)
      have hrx : RuOK (delR n id) := ⟨hn.rg _ hm, hn.id _ hm⟩
      have hrep2 := delLab_rep hrep hh
      have h1 := ins_calls hrep2 (delR n id) hrx (by rw [hi2]; exact del_not hsrt hh)
      unfold insA at h1
      rw [if_pos (by rw [hi1]; exact hR)] at h1
      have hrep3 := insLab_rep hrep2 hrx (by rw [hi1]; exact hR)
      rw [hi1] at hrep3
      exact ⟨_, _, _, _, hfind, del_calls hrep id hh, .inr ⟨rfl, by simp, _, h1, sameL_calls f hrep3⟩⟩
  obtain ⟨X, eI, hins, hI⟩ := hins
  obtain ⟨b, x, Z, eD, hfind, hdel, hD⟩ := hdel
  have hXi := hins.1
  have hZi := hdel.1
  obtain ⟨cL, hcL⟩ : ∃ c, labO (some (labOf n)) = .pp c 0 := ⟨_, rfl⟩
  rw [hcL] at hof hins hdel
  simp only [noIds, AV.ids, idsL] at hXi hZi
  clear hrep hcL
  rcases hI with hI | ⟨hI, Y, hI1, hI2⟩ <;> rcases hD with ⟨rfl, hD⟩ | ⟨rfl, hD, W, hD1, hD2⟩
  · (try ((first | with_reducible refine dops_go ?_ | with_reducible refine OKv_go ?_ | with_reducible refine OKr_go ?_); simp [-cellOK, nw_cells, nw_fold, ru_cells, ru_fold, new_m, set_m, new_nx', ru0_cells, ru_putL, hI, hD])); repeat' (first | refine awp_seq ?_ | refine awp_block ?_ | (refine awp_skip ?_; try simp) | (refine awp_exit ?_; try simp) | (refine awp_ret ?_; try simp) | (refine retP_same (by simp) ?_; simp) | (refine retP_no (by simp) (by simp [noIds]) (by repeat (first | assumption | exact Ext.refl _ | refine ext_new' ?_ | refine Ext.setF ?_ (by first | assumption | (simp [new_nx', St.set, fresh_none]; done) | exact ext_fresh (by assumption)))) ?_; simp [-cellOK, nw_cells, nw_fold, ru_cells, ru_fold, new_m, set_m, new_nx', ru0_cells, ru_putL, hI, hD, new_m, set_m, new_nx']) | ((first | refine awp_reg ?_ | refine awp_drawT (fun _ => false) mixed (by decide +kernel) ?_ | refine awp_drawT isCallO mixed (by decide +kernel) ?_ | refine PCalls.use (hfit) ?_ | refine Or.inl ⟨_, Or.inl (hfit), ?_⟩ | refine PCalls.use (hof) ?_ | refine Or.inl ⟨_, Or.inl (hof), ?_⟩ | refine PCalls.use (hins) ?_ | refine Or.inl ⟨_, Or.inl (hins), ?_⟩ | refine PCalls.use (hfind) ?_ | refine Or.inl ⟨_, Or.inl (hfind), ?_⟩ | refine PCalls.use (hdel) ?_ | refine Or.inl ⟨_, Or.inl (hdel), ?_⟩ | refine PCalls.use (hal) ?_ | refine Or.inl ⟨_, Or.inl (hal), ?_⟩); simp [-cellOK, nw_cells, nw_fold, ru_cells, ru_fold, new_m, set_m, new_nx', ru0_cells, ru_putL, hI, hD]) | (refine guarded_split ?_ ?_ <;> (intro hg; simp only [hg]; simp [-cellOK, nw_cells, nw_fold, ru_cells, ru_fold, new_m, set_m, new_nx', ru0_cells, ru_putL, hI, hD])) | (apply awp_cond_t; focus (simp [-cellOK, nw_cells, nw_fold, ru_cells, ru_fold, new_m, set_m, new_nx', ru0_cells, ru_putL, hI, hD]; done)) | (apply awp_cond_f; focus (simp [-cellOK, nw_cells, nw_fold, ru_cells, ru_fold, new_m, set_m, new_nx', ru0_cells, ru_putL, hI, hD]; done)) | (refine awp_cond ?_; simp [-cellOK, nw_cells, nw_fold, ru_cells, ru_fold, new_m, set_m, new_nx', ru0_cells, ru_putL, hI, hD]; refine ⟨?_, ?_⟩ <;> intro hc) | fail)
  · (try ((first | with_reducible refine dops_go ?_ | with_reducible refine OKv_go ?_ | with_reducible refine OKr_go ?_); simp [-cellOK, nw_cells, nw_fold, ru_cells, ru_fold, new_m, set_m, new_nx', ru0_cells, ru_putL, hI, hD])); repeat' (first | refine awp_seq ?_ | refine awp_block ?_ | (refine awp_skip ?_; try simp) | (refine awp_exit ?_; try simp) | (refine awp_ret ?_; try simp) | (refine retP_same (by simp) ?_; simp) | (refine retP_no (by simp) (by simp [noIds]) (by repeat (first | assumption | exact Ext.refl _ | refine ext_new' ?_ | refine Ext.setF ?_ (by first | assumption | (simp [new_nx', St.set, fresh_none]; done) | exact ext_fresh (by assumption)))) ?_; simp [-cellOK, nw_cells, nw_fold, ru_cells, ru_fold, new_m, set_m, new_nx', ru0_cells, ru_putL, hI, hD, new_m, set_m, new_nx']) | ((first | refine awp_reg ?_ | refine awp_drawT (fun _ => false) mixed (by decide +kernel) ?_ | refine awp_drawT isCallO mixed (by decide +kernel) ?_ | refine PCalls.use (hfit) ?_ | refine Or.inl ⟨_, Or.inl (hfit), ?_⟩ | refine PCalls.use (hof) ?_ | refine Or.inl ⟨_, Or.inl (hof), ?_⟩ | refine PCalls.use (hins) ?_ | refine Or.inl ⟨_, Or.inl (hins), ?_⟩ | refine PCalls.use (hfind) ?_ | refine Or.inl ⟨_, Or.inl (hfind), ?_⟩ | refine PCalls.use (hdel) ?_ | refine Or.inl ⟨_, Or.inl (hdel), ?_⟩ | refine PCalls.use (hD1) ?_ | refine Or.inl ⟨_, Or.inl (hD1), ?_⟩ | refine PCalls.use (hD2) ?_ | refine Or.inl ⟨_, Or.inl (hD2), ?_⟩ | refine PCalls.use (hal) ?_ | refine Or.inl ⟨_, Or.inl (hal), ?_⟩); simp [-cellOK, nw_cells, nw_fold, ru_cells, ru_fold, new_m, set_m, new_nx', ru0_cells, ru_putL, hI, hD]) | (refine guarded_split ?_ ?_ <;> (intro hg; simp only [hg]; simp [-cellOK, nw_cells, nw_fold, ru_cells, ru_fold, new_m, set_m, new_nx', ru0_cells, ru_putL, hI, hD])) | (apply awp_cond_t; focus (simp [-cellOK, nw_cells, nw_fold, ru_cells, ru_fold, new_m, set_m, new_nx', ru0_cells, ru_putL, hI, hD]; done)) | (apply awp_cond_f; focus (simp [-cellOK, nw_cells, nw_fold, ru_cells, ru_fold, new_m, set_m, new_nx', ru0_cells, ru_putL, hI, hD]; done)) | (refine awp_cond ?_; simp [-cellOK, nw_cells, nw_fold, ru_cells, ru_fold, new_m, set_m, new_nx', ru0_cells, ru_putL, hI, hD]; refine ⟨?_, ?_⟩ <;> intro hc) | fail)
  · (try ((first | with_reducible refine dops_go ?_ | with_reducible refine OKv_go ?_ | with_reducible refine OKr_go ?_); simp [-cellOK, nw_cells, nw_fold, ru_cells, ru_fold, new_m, set_m, new_nx', ru0_cells, ru_putL, hI, hD])); repeat' (first | refine awp_seq ?_ | refine awp_block ?_ | (refine awp_skip ?_; try simp) | (refine awp_exit ?_; try simp) | (refine awp_ret ?_; try simp) | (refine retP_same (by simp) ?_; simp) | (refine retP_no (by simp) (by simp [noIds]) (by repeat (first | assumption | exact Ext.refl _ | refine ext_new' ?_ | refine Ext.setF ?_ (by first | assumption | (simp [new_nx', St.set, fresh_none]; done) | exact ext_fresh (by assumption)))) ?_; simp [-cellOK, nw_cells, nw_fold, ru_cells, ru_fold, new_m, set_m, new_nx', ru0_cells, ru_putL, hI, hD, new_m, set_m, new_nx']) | ((first | refine awp_reg ?_ | refine awp_drawT (fun _ => false) mixed (by decide +kernel) ?_ | refine awp_drawT isCallO mixed (by decide +kernel) ?_ | refine PCalls.use (hfit) ?_ | refine Or.inl ⟨_, Or.inl (hfit), ?_⟩ | refine PCalls.use (hof) ?_ | refine Or.inl ⟨_, Or.inl (hof), ?_⟩ | refine PCalls.use (hins) ?_ | refine Or.inl ⟨_, Or.inl (hins), ?_⟩ | refine PCalls.use (hI1) ?_ | refine Or.inl ⟨_, Or.inl (hI1), ?_⟩ | refine PCalls.use (hI2) ?_ | refine Or.inl ⟨_, Or.inl (hI2), ?_⟩ | refine PCalls.use (hfind) ?_ | refine Or.inl ⟨_, Or.inl (hfind), ?_⟩ | refine PCalls.use (hdel) ?_ | refine Or.inl ⟨_, Or.inl (hdel), ?_⟩ | refine PCalls.use (hal) ?_ | refine Or.inl ⟨_, Or.inl (hal), ?_⟩); simp [-cellOK, nw_cells, nw_fold, ru_cells, ru_fold, new_m, set_m, new_nx', ru0_cells, ru_putL, hI, hD]) | (refine guarded_split ?_ ?_ <;> (intro hg; simp only [hg]; simp [-cellOK, nw_cells, nw_fold, ru_cells, ru_fold, new_m, set_m, new_nx', ru0_cells, ru_putL, hI, hD])) | (apply awp_cond_t; focus (simp [-cellOK, nw_cells, nw_fold, ru_cells, ru_fold, new_m, set_m, new_nx', ru0_cells, ru_putL, hI, hD]; done)) | (apply awp_cond_f; focus (simp [-cellOK, nw_cells, nw_fold, ru_cells, ru_fold, new_m, set_m, new_nx', ru0_cells, ru_putL, hI, hD]; done)) | (refine awp_cond ?_; simp [-cellOK, nw_cells, nw_fold, ru_cells, ru_fold, new_m, set_m, new_nx', ru0_cells, ru_putL, hI, hD]; refine ⟨?_, ?_⟩ <;> intro hc) | fail)
  · (try ((first | with_reducible refine dops_go ?_ | with_reducible refine OKv_go ?_ | with_reducible refine OKr_go ?_); simp [-cellOK, nw_cells, nw_fold, ru_cells, ru_fold, new_m, set_m, new_nx', ru0_cells, ru_putL, hI, hD])); repeat' (first | refine awp_seq ?_ | refine awp_block ?_ | (refine awp_skip ?_; try simp) | (refine awp_exit ?_; try simp) | (refine awp_ret ?_; try simp) | (refine retP_same (by simp) ?_; simp) | (refine retP_no (by simp) (by simp [noIds]) (by repeat (first | assumption | exact Ext.refl _ | refine ext_new' ?_ | refine Ext.setF ?_ (by first | assumption | (simp [new_nx', St.set, fresh_none]; done) | exact ext_fresh (by assumption)))) ?_; simp [-cellOK, nw_cells, nw_fold, ru_cells, ru_fold, new_m, set_m, new_nx', ru0_cells, ru_putL, hI, hD, new_m, set_m, new_nx']) | ((first | refine awp_reg ?_ | refine awp_drawT (fun _ => false) mixed (by decide +kernel) ?_ | refine awp_drawT isCallO mixed (by decide +kernel) ?_ | refine PCalls.use (hfit) ?_ | refine Or.inl ⟨_, Or.inl (hfit), ?_⟩ | refine PCalls.use (hof) ?_ | refine Or.inl ⟨_, Or.inl (hof), ?_⟩ | refine PCalls.use (hins) ?_ | refine Or.inl ⟨_, Or.inl (hins), ?_⟩ | refine PCalls.use (hI1) ?_ | refine Or.inl ⟨_, Or.inl (hI1), ?_⟩ | refine PCalls.use (hI2) ?_ | refine Or.inl ⟨_, Or.inl (hI2), ?_⟩ | refine PCalls.use (hfind) ?_ | refine Or.inl ⟨_, Or.inl (hfind), ?_⟩ | refine PCalls.use (hdel) ?_ | refine Or.inl ⟨_, Or.inl (hdel), ?_⟩ | refine PCalls.use (hD1) ?_ | refine Or.inl ⟨_, Or.inl (hD1), ?_⟩ | refine PCalls.use (hD2) ?_ | refine Or.inl ⟨_, Or.inl (hD2), ?_⟩ | refine PCalls.use (hal) ?_ | refine Or.inl ⟨_, Or.inl (hal), ?_⟩); simp [-cellOK, nw_cells, nw_fold, ru_cells, ru_fold, new_m, set_m, new_nx', ru0_cells, ru_putL, hI, hD]) | (refine guarded_split ?_ ?_ <;> (intro hg; simp only [hg]; simp [-cellOK, nw_cells, nw_fold, ru_cells, ru_fold, new_m, set_m, new_nx', ru0_cells, ru_putL, hI, hD])) | (apply awp_cond_t; focus (simp [-cellOK, nw_cells, nw_fold, ru_cells, ru_fold, new_m, set_m, new_nx', ru0_cells, ru_putL, hI, hD]; done)) | (apply awp_cond_f; focus (simp [-cellOK, nw_cells, nw_fold, ru_cells, ru_fold, new_m, set_m, new_nx', ru0_cells, ru_putL, hI, hD]; done)) | (refine awp_cond ?_; simp [-cellOK, nw_cells, nw_fold, ru_cells, ru_fold, new_m, set_m, new_nx', ru0_cells, ru_putL, hI, hD]; refine ⟨?_, ?_⟩ <;> intro hc) | fail)
end Go.Proofs.YtanimmdlgmkmkaaGreat.Av


/- label: the law LabelEdits walked. -/
namespace Go.Proofs.YtanimmdlgmkmkaaGreat.Av
open Go
set_option linter.unusedSimpArgs false
set_option linter.unusedVariables false
set_option maxRecDepth 100000
set_option maxHeartbeats 4000000
set_option pp.maxSteps 600

structure Acl where
  del : Bool
  r : Ru
def aclAV (p : Acl) : AV := .agg [.raw (.bool p.del), .raw (.int .i64 p.r.id), .raw (.int .i64 p.r.dev), .raw (.int .i64 p.r.prio), .raw (.int .i64 p.r.kind), .raw (.int .u32 p.r.r.lo), .raw (.int .u32 p.r.r.hi), .raw (.int .i64 p.r.port)]
def aclsAV (l : List Acl) (f : Bool) : AV := .sl 8 (l.map aclAV) f
end Go.Proofs.YtanimmdlgmkmkaaGreat.Av

