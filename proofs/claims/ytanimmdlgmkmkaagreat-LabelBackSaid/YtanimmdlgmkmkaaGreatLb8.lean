/- Labels: LabelBack Part 8 of 17: AvN6, AvN10, AvT2, AvT3, AvT4, AvT5, AvT6, AvT7, AvT8, AvN25, AvT9, AvT10, AvN26, AvN27, AvN28, AvN29, AvN30, AvN15, AvN18, AvN19, AvN20, AvN21, AvN32, AvN23. -/
import Derived.Test.YtanimmdlgmkmkaaGreatLb6
import Derived.Test.YtanimmdlgmkmkaaGreatLb7

/- Networks: rules as the program goes by them. -/
namespace Go.Proofs.YtanimmdlgmkmkaaGreat.Av
open Go
set_option linter.unusedSimpArgs false
set_option linter.unusedVariables false
set_option maxRecDepth 100000
set_option maxHeartbeats 2000000
set_option pp.maxSteps 300

def deniesB (l : List Ru) (d a : Int) : Bool := l.any (aclP d a) && decide ((minR (l.filter (aclP d a))).kind = 3)
theorem denies_calls (l : List Ru) (f : Bool) (d a : Int) (hl : l.length < 2932031007403) : PCalls Tryz.prog 200 [rulesAV l f, .raw (.int .i64 d), .raw (.int .u32 a)] (.raw (.bool (deniesB l d a))) := by
  have hf := first_calls (g := 216) (caps := [.pp [.raw (.int .i64 d)] 0, .pp [.raw (.int .u32 a)] 0]) l f hl (fun r _ => aclP_calls r d a)
  obtain ⟨b, hb⟩ : ∃ b, l.any (aclP d a) = b := ⟨_, rfl⟩
  obtain ⟨m, hmm⟩ : ∃ m, minR (l.filter (aclP d a)) = m := ⟨_, rfl⟩
  unfold deniesB
  rw [hb, hmm] at hf ⊢
  refine pbody Tryz.func200 rfl (N := 21) rfl rfl (by simp) (by simp [noIds]) fun σ => ?_
  repeat (refine awp_seq ?_)
  refine awp_reg ?_
  simp
  refine awp_freeze ⟨4, σ.nx 4, 1⟩ ?_
  refine awp_freeze ⟨5, σ.nx 5, 1⟩ ?_
  generalize hτ : St.del _ _ = τ
  generalize hA : (fun t => giveUp _ _ _) = A
  have a0 : A 0 = rulesAV l f := by rw [← hA]; simp [rulesAV]
  have a4 : A 4 = .pp [.raw (.int .i64 d)] 0 := by rw [← hA, ← hτ]; simp [giveUp, St.new, St.del]
  have a5 : A 5 = .pp [.raw (.int .u32 a)] 0 := by rw [← hA, ← hτ]; simp [giveUp, St.new, St.del]
  have hE : Ext σ τ := by
    rw [← hτ]
    refine ⟨fun i o h => ?_, fun s => ?_⟩
    · rw [del_other (fun e => by rw [e, fresh_none] at h; cases h), del_other (fun e => by rw [e, fresh_none] at h; cases h)]
      exact new_up _ _ (new_up _ _ h)
    · exact Nat.le_trans (St.new_le σ 4 1 (.buf [.raw (.int .i64 d)]) s) (St.new_le (σ.new 4 1 (.buf [.raw (.int .i64 d)])) 5 1 (.buf [.raw (.int .u32 a)]) s)
  clear hτ hA
  (try (first | (with_reducible refine dops_go ?_; simp [a0, a4, a5]) | (with_reducible refine OKv_go ?_; simp [a0, a4, a5]) | (with_reducible refine OKr_go ?_; simp [a0, a4, a5]))); repeat' (first | refine awp_seq ?_ | refine awp_block ?_ | (refine awp_skip ?_; try simp) | (refine awp_exit ?_; try simp) | (refine awp_ret ?_; try simp) | (refine retP_same (by simp) ?_; simp) | (refine retP_flat (by simp) (by simp) (by simp (maxDischargeDepth := 30) [a0, a4, a5]) ?_; simp) | (refine awp_reg ?_; simp [a0, a4, a5]) | (refine awp_drawT (fun _ => false) mixed (by decide +kernel) ?_; simp [a0, a4, a5]) | (refine guarded_split ?_ ?_ <;> (intro hg; simp only [hg]; simp [a0, a4, a5])) | (apply awp_cond_t; focus (simp [a0, a4, a5]; done)) | (apply awp_cond_f; focus (simp [a0, a4, a5]; done)) | (refine awp_cond ?_; simp [a0, a4, a5]; refine ⟨?_, ?_⟩ <;> intro hc))
  refine PCalls.use hf ?_
  (try (first | (with_reducible refine dops_go ?_; simp [a0, a4, a5, ru_cells, ru_ok, hE]) | (with_reducible refine OKv_go ?_; simp [a0, a4, a5, ru_cells, ru_ok, hE]) | (with_reducible refine OKr_go ?_; simp [a0, a4, a5, ru_cells, ru_ok, hE]))); repeat' (first | refine awp_seq ?_ | refine awp_block ?_ | (refine awp_skip ?_; try simp) | (refine awp_exit ?_; try simp) | (refine awp_ret ?_; try simp) | (refine retP_same (by simp) ?_; simp) | (refine retP_flat (by simp) (by simp) (by simp (maxDischargeDepth := 30) [a0, a4, a5, ru_cells, ru_ok, hE]) ?_; simp) | (refine awp_reg ?_; simp [a0, a4, a5, ru_cells, ru_ok, hE]) | (refine awp_drawT (fun _ => false) mixed (by decide +kernel) ?_; simp [a0, a4, a5, ru_cells, ru_ok, hE]) | (refine guarded_split ?_ ?_ <;> (intro hg; simp only [hg]; simp [a0, a4, a5, ru_cells, ru_ok, hE])) | (apply awp_cond_t; focus (simp [a0, a4, a5, ru_cells, ru_ok, hE]; done)) | (apply awp_cond_f; focus (simp [a0, a4, a5, ru_cells, ru_ok, hE]; done)) | (refine awp_cond ?_; simp [a0, a4, a5, ru_cells, ru_ok, hE]; refine ⟨?_, ?_⟩ <;> intro hc))

def matchR (l : List Ru) (d a : Int) : Ru := minR (l.filter (fwdP d a))
def matchB (l : List Ru) (d a : Int) : Bool := l.any (fwdP d a)
theorem match_calls (l : List Ru) (f : Bool) (d a : Int) (hl : l.length < 2932031007403) : PCalls Tryz.prog 201 [rulesAV l f, .raw (.int .i64 d), .raw (.int .u32 a)] (.tup [ruAV (matchR l d a), .raw (.bool (matchB l d a))]) := by
  have hf := first_calls (g := 218) (caps := [.pp [.raw (.int .i64 d)] 0, .pp [.raw (.int .u32 a)] 0]) l f hl (fun r _ => fwdP_calls r d a)
  unfold matchR matchB
  obtain ⟨b, hb⟩ : ∃ b, l.any (fwdP d a) = b := ⟨_, rfl⟩
  obtain ⟨m, hmm⟩ : ∃ m, minR (l.filter (fwdP d a)) = m := ⟨_, rfl⟩
  rw [hb, hmm] at hf ⊢
  refine pbody Tryz.func201 rfl (N := 13) rfl rfl (by simp) (by simp [noIds, ruAV]) fun σ => ?_
  repeat (refine awp_seq ?_)
  refine awp_reg ?_
  simp
  refine awp_freeze ⟨4, σ.nx 4, 1⟩ ?_
  refine awp_freeze ⟨5, σ.nx 5, 1⟩ ?_
  generalize hτ : St.del _ _ = τ
  generalize hA : (fun t => giveUp _ _ _) = A
  have a0 : A 0 = rulesAV l f := by rw [← hA]; simp [rulesAV]
  have a4 : A 4 = .pp [.raw (.int .i64 d)] 0 := by rw [← hA, ← hτ]; simp [giveUp, St.new, St.del]
  have a5 : A 5 = .pp [.raw (.int .u32 a)] 0 := by rw [← hA, ← hτ]; simp [giveUp, St.new, St.del]
  have a6 : A 6 = .rp ⟨6, σ.nx 6, 7⟩ 0 0 := by rw [← hA, ← hτ]; simp [giveUp, St.new, St.del]
  have m6 : τ.m ⟨6, σ.nx 6, 7⟩ = some (.buf [ruAV ⟨0, 0, 0, 0, ⟨0, 0⟩, 0⟩]) := by rw [← hτ]; simp [St.new, St.del, ruAV]
  have hE : Ext σ τ := by
    rw [← hτ]
    refine ⟨fun i o h => ?_, fun s => ?_⟩
    · rw [del_other (fun e => by rw [e, fresh_none] at h; cases h), del_other (fun e => by rw [e, fresh_none] at h; cases h)]
      exact new_up _ _ (new_up _ _ (new_up _ _ h))
    · exact Nat.le_trans (Nat.le_trans (St.new_le σ 4 1 (.buf [.raw (.int .i64 d)]) s) (St.new_le (σ.new 4 1 (.buf [.raw (.int .i64 d)])) 5 1 (.buf [.raw (.int .u32 a)]) s)) (St.new_le ((σ.new 4 1 (.buf [.raw (.int .i64 d)])).new 5 1 (.buf [.raw (.int .u32 a)])) 6 7 (.buf [ruAV ⟨0, 0, 0, 0, ⟨0, 0⟩, 0⟩]) s)
  clear hτ hA
  have f6 : σ.m ⟨6, σ.nx 6, 7⟩ = none := fresh_none _ _ _
  (try (first | (with_reducible refine dops_go ?_; simp [a0, a4, a5, a6, m6]) | (with_reducible refine OKv_go ?_; simp [a0, a4, a5, a6, m6]) | (with_reducible refine OKr_go ?_; simp [a0, a4, a5, a6, m6]))); repeat' (first | refine awp_seq ?_ | refine awp_block ?_ | (refine awp_skip ?_; try simp) | (refine awp_exit ?_; try simp) | (refine awp_ret ?_; try simp) | (refine retP_same (by simp) ?_; simp) | (refine retP_flat (by simp) (by simp) (by simp (maxDischargeDepth := 30) [a0, a4, a5, a6, m6]) ?_; simp) | (refine awp_reg ?_; simp [a0, a4, a5, a6, m6]) | (refine awp_drawT (fun _ => false) mixed (by decide +kernel) ?_; simp [a0, a4, a5, a6, m6]) | (refine guarded_split ?_ ?_ <;> (intro hg; simp only [hg]; simp [a0, a4, a5, a6, m6])) | (apply awp_cond_t; focus (simp [a0, a4, a5, a6, m6]; done)) | (apply awp_cond_f; focus (simp [a0, a4, a5, a6, m6]; done)) | (refine awp_cond ?_; simp [a0, a4, a5, a6, m6]; refine ⟨?_, ?_⟩ <;> intro hc))
  refine PCalls.use hf ?_
  (try (first | (with_reducible refine dops_go ?_; simp [a0, a4, a5, a6, m6, ru_cells, ru_part]) | (with_reducible refine OKv_go ?_; simp [a0, a4, a5, a6, m6, ru_cells, ru_part]) | (with_reducible refine OKr_go ?_; simp [a0, a4, a5, a6, m6, ru_cells, ru_part]))); repeat' (first | refine awp_seq ?_ | refine awp_block ?_ | (refine awp_skip ?_; try simp) | (refine awp_exit ?_; try simp) | (refine awp_ret ?_; try simp) | (refine awp_reg ?_; simp [a0, a4, a5, a6, m6, ru_cells, ru_part]) | (refine awp_drawT (fun _ => false) mixed (by decide +kernel) ?_; simp [a0, a4, a5, a6, m6, ru_cells, ru_part]) | (refine guarded_split ?_ ?_ <;> (intro hg; simp only [hg]; simp [a0, a4, a5, a6, m6, ru_cells, ru_part])) | (apply awp_cond_t; focus (simp [a0, a4, a5, a6, m6, ru_cells, ru_part]; done)) | (apply awp_cond_f; focus (simp [a0, a4, a5, a6, m6, ru_cells, ru_part]; done)) | (refine awp_cond ?_; simp [a0, a4, a5, a6, m6, ru_cells, ru_part]; refine ⟨?_, ?_⟩ <;> intro hc))
  exact retP_flat (.inr rfl) rfl (hE.setF f6) (by simp [a6, m6, St.set, ru_cells]; exact ru_fold _)

/-- Rules that are right, in the order of their IDs, as the program says it: from the last ID on. -/
def allFrom (last : Int) : List Ru → Bool
  | [] => true
  | r :: l => ruleB r && decide (last < r.id) && allFrom r.id l
def allB (l : List Ru) : Bool := allFrom 0 l && decide (l.length ≤ 40)
theorem all_calls (l : List Ru) (f : Bool) (hl : l.length < 2932031007403) : PCalls Tryz.prog 126 [rulesAV l f] (.raw (.bool (allB l))) := by
  refine pbody Tryz.func126 rfl (N := 27) rfl rfl (by simp) (by simp [noIds]) fun σ => ?_
  (try (first | (with_reducible refine dops_go ?_; simp [rulesAV]) | (with_reducible refine OKv_go ?_; simp [rulesAV]) | (with_reducible refine OKr_go ?_; simp [rulesAV]))); repeat' (first | refine awp_seq ?_ | refine awp_block ?_ | (refine awp_skip ?_; try simp) | (refine awp_exit ?_; try simp) | (refine awp_ret ?_; try simp) | (refine retP_same (by simp) ?_; simp) | (refine retP_flat (by simp) (by simp) (by simp (maxDischargeDepth := 30) [rulesAV]) ?_; simp) | (refine awp_reg ?_; simp [rulesAV]) | (refine awp_drawT (fun _ => false) mixed (by decide +kernel) ?_; simp [rulesAV]) | (refine guarded_split ?_ ?_ <;> (intro hg; simp only [hg]; simp [rulesAV])) | (apply awp_cond_t; focus (simp [rulesAV]; done)) | (apply awp_cond_f; focus (simp [rulesAV]; done)) | (refine awp_cond ?_; simp [rulesAV]; refine ⟨?_, ?_⟩ <;> intro hc))
  refine awp_loopH (fun n A τ => Ext σ τ ∧ A 0 = rulesAV l f ∧ A 6 = rulesAV l f ∧ A 7 = .raw (.int .i64 l.length) ∧ ∃ (i : Nat) (last : Int), A 8 = .raw (.int .i64 i) ∧ A 3 = .raw (.int .i64 last) ∧ i ≤ l.length ∧ n = l.length - i ∧ allFrom 0 l = allFrom last (l.drop i)) l.length ?_ ?_
  · exact ⟨by simp, by simp [rulesAV], by simp [rulesAV], by simp [rulesAV], 0, 0, by simp, by simp, by omega, by omega, by simp⟩
  rintro n A τ ⟨hE, a0, a6, a7, i, last, a8, a3, hi, rfl, hall⟩ I1 hI1
  by_cases hlt : i < l.length
  · have hx : l[i]? = some l[i] := List.getElem?_eq_getElem hlt
    have w1 : IntKind.i64.wrap ((i : Int) + 1) = ((i + 1 : Nat) : Int) := by rw [wrap64 (by omega) (by omega)]; omega
    have hd : l.drop i = l[i] :: l.drop (i + 1) := List.drop_eq_getElem_cons hlt
    rw [hd] at hall
    simp only [allFrom] at hall
    obtain ⟨b, hb⟩ : ∃ b, ruleB l[i] = b := ⟨_, rfl⟩
    have hr := hb ▸ ruleRight_calls l[i]
    rw [hb] at hall
    (try (first | (with_reducible refine dops_go ?_; simp [rulesAV, a0, a6, a7, a8, a3, hlt, hx, ru_cells, ru_ok, ru_fold, w1]) | (with_reducible refine OKv_go ?_; simp [rulesAV, a0, a6, a7, a8, a3, hlt, hx, ru_cells, ru_ok, ru_fold, w1]) | (with_reducible refine OKr_go ?_; simp [rulesAV, a0, a6, a7, a8, a3, hlt, hx, ru_cells, ru_ok, ru_fold, w1]))); repeat' (first | refine awp_seq ?_ | refine awp_block ?_ | (refine awp_skip ?_; try simp) | (refine awp_exit ?_; try simp) | (refine awp_ret ?_; try simp) | (refine retP_same (by simp) ?_; simp) | (refine retP_flat (by simp) (by simp) (by simp (maxDischargeDepth := 30) [rulesAV, a0, a6, a7, a8, a3, hlt, hx, ru_cells, ru_ok, ru_fold, w1]) ?_; simp) | (refine awp_reg ?_; simp [rulesAV, a0, a6, a7, a8, a3, hlt, hx, ru_cells, ru_ok, ru_fold, w1]) | (refine awp_drawT (fun _ => false) mixed (by decide +kernel) ?_; simp [rulesAV, a0, a6, a7, a8, a3, hlt, hx, ru_cells, ru_ok, ru_fold, w1]) | (refine guarded_split ?_ ?_ <;> (intro hg; simp only [hg]; simp [rulesAV, a0, a6, a7, a8, a3, hlt, hx, ru_cells, ru_ok, ru_fold, w1])) | (apply awp_cond_t; focus (simp [rulesAV, a0, a6, a7, a8, a3, hlt, hx, ru_cells, ru_ok, ru_fold, w1]; done)) | (apply awp_cond_f; focus (simp [rulesAV, a0, a6, a7, a8, a3, hlt, hx, ru_cells, ru_ok, ru_fold, w1]; done)) | (refine awp_cond ?_; simp [rulesAV, a0, a6, a7, a8, a3, hlt, hx, ru_cells, ru_ok, ru_fold, w1]; refine ⟨?_, ?_⟩ <;> intro hc))
    refine PCalls.use hr ?_
    cases b with
    | false =>
      (try (first | (with_reducible refine dops_go ?_; simp [rulesAV, a0, a6, a7, a8, a3, hlt, hx, ru_cells, ru_ok, ru_fold, w1, hE]) | (with_reducible refine OKv_go ?_; simp [rulesAV, a0, a6, a7, a8, a3, hlt, hx, ru_cells, ru_ok, ru_fold, w1, hE]) | (with_reducible refine OKr_go ?_; simp [rulesAV, a0, a6, a7, a8, a3, hlt, hx, ru_cells, ru_ok, ru_fold, w1, hE]))); repeat' (first | refine awp_seq ?_ | refine awp_block ?_ | (refine awp_skip ?_; try simp) | (refine awp_exit ?_; try simp) | (refine awp_ret ?_; try simp) | (refine retP_same (by simp) ?_; simp) | (refine retP_flat (by simp) (by simp) (by simp (maxDischargeDepth := 30) [rulesAV, a0, a6, a7, a8, a3, hlt, hx, ru_cells, ru_ok, ru_fold, w1, hE]) ?_; simp) | (refine awp_reg ?_; simp [rulesAV, a0, a6, a7, a8, a3, hlt, hx, ru_cells, ru_ok, ru_fold, w1, hE]) | (refine awp_drawT (fun _ => false) mixed (by decide +kernel) ?_; simp [rulesAV, a0, a6, a7, a8, a3, hlt, hx, ru_cells, ru_ok, ru_fold, w1, hE]) | (refine guarded_split ?_ ?_ <;> (intro hg; simp only [hg]; simp [rulesAV, a0, a6, a7, a8, a3, hlt, hx, ru_cells, ru_ok, ru_fold, w1, hE])) | (apply awp_cond_t; focus (simp [rulesAV, a0, a6, a7, a8, a3, hlt, hx, ru_cells, ru_ok, ru_fold, w1, hE]; done)) | (apply awp_cond_f; focus (simp [rulesAV, a0, a6, a7, a8, a3, hlt, hx, ru_cells, ru_ok, ru_fold, w1, hE]; done)) | (refine awp_cond ?_; simp [rulesAV, a0, a6, a7, a8, a3, hlt, hx, ru_cells, ru_ok, ru_fold, w1, hE]; refine ⟨?_, ?_⟩ <;> intro hc))
      simp [allB, hall]
    | true =>
      by_cases hlast : l[i].id ≤ last
      · (try (first | (with_reducible refine dops_go ?_; simp [rulesAV, a0, a6, a7, a8, a3, hlt, hx, ru_cells, ru_ok, ru_fold, w1, hE, hlast]) | (with_reducible refine OKv_go ?_; simp [rulesAV, a0, a6, a7, a8, a3, hlt, hx, ru_cells, ru_ok, ru_fold, w1, hE, hlast]) | (with_reducible refine OKr_go ?_; simp [rulesAV, a0, a6, a7, a8, a3, hlt, hx, ru_cells, ru_ok, ru_fold, w1, hE, hlast]))); repeat' (first | refine awp_seq ?_ | refine awp_block ?_ | (refine awp_skip ?_; try simp) | (refine awp_exit ?_; try simp) | (refine awp_ret ?_; try simp) | (refine retP_same (by simp) ?_; simp) | (refine retP_flat (by simp) (by simp) (by simp (maxDischargeDepth := 30) [rulesAV, a0, a6, a7, a8, a3, hlt, hx, ru_cells, ru_ok, ru_fold, w1, hE, hlast]) ?_; simp) | (refine awp_reg ?_; simp [rulesAV, a0, a6, a7, a8, a3, hlt, hx, ru_cells, ru_ok, ru_fold, w1, hE, hlast]) | (refine awp_drawT (fun _ => false) mixed (by decide +kernel) ?_; simp [rulesAV, a0, a6, a7, a8, a3, hlt, hx, ru_cells, ru_ok, ru_fold, w1, hE, hlast]) | (refine guarded_split ?_ ?_ <;> (intro hg; simp only [hg]; simp [rulesAV, a0, a6, a7, a8, a3, hlt, hx, ru_cells, ru_ok, ru_fold, w1, hE, hlast])) | (apply awp_cond_t; focus (simp [rulesAV, a0, a6, a7, a8, a3, hlt, hx, ru_cells, ru_ok, ru_fold, w1, hE, hlast]; done)) | (apply awp_cond_f; focus (simp [rulesAV, a0, a6, a7, a8, a3, hlt, hx, ru_cells, ru_ok, ru_fold, w1, hE, hlast]; done)) | (refine awp_cond ?_; simp [rulesAV, a0, a6, a7, a8, a3, hlt, hx, ru_cells, ru_ok, ru_fold, w1, hE, hlast]; refine ⟨?_, ?_⟩ <;> intro hc))
        have : ¬ last < l[i].id := by omega
        simp [allB, hall, this]
      · (try (first | (with_reducible refine dops_go ?_; simp [rulesAV, a0, a6, a7, a8, a3, hlt, hx, ru_cells, ru_ok, ru_fold, w1, hlast]) | (with_reducible refine OKv_go ?_; simp [rulesAV, a0, a6, a7, a8, a3, hlt, hx, ru_cells, ru_ok, ru_fold, w1, hlast]) | (with_reducible refine OKr_go ?_; simp [rulesAV, a0, a6, a7, a8, a3, hlt, hx, ru_cells, ru_ok, ru_fold, w1, hlast]))); repeat' (first | refine awp_seq ?_ | refine awp_block ?_ | (refine awp_skip ?_; try simp) | (refine awp_exit ?_; try simp) | (refine awp_ret ?_; try simp) | (refine retP_same (by simp) ?_; simp) | (refine retP_flat (by simp) (by simp) (by simp (maxDischargeDepth := 30) [rulesAV, a0, a6, a7, a8, a3, hlt, hx, ru_cells, ru_ok, ru_fold, w1, hlast]) ?_; simp) | (refine awp_reg ?_; simp [rulesAV, a0, a6, a7, a8, a3, hlt, hx, ru_cells, ru_ok, ru_fold, w1, hlast]) | (refine awp_drawT (fun _ => false) mixed (by decide +kernel) ?_; simp [rulesAV, a0, a6, a7, a8, a3, hlt, hx, ru_cells, ru_ok, ru_fold, w1, hlast]) | (refine guarded_split ?_ ?_ <;> (intro hg; simp only [hg]; simp [rulesAV, a0, a6, a7, a8, a3, hlt, hx, ru_cells, ru_ok, ru_fold, w1, hlast])) | (apply awp_cond_t; focus (simp [rulesAV, a0, a6, a7, a8, a3, hlt, hx, ru_cells, ru_ok, ru_fold, w1, hlast]; done)) | (apply awp_cond_f; focus (simp [rulesAV, a0, a6, a7, a8, a3, hlt, hx, ru_cells, ru_ok, ru_fold, w1, hlast]; done)) | (refine awp_cond ?_; simp [rulesAV, a0, a6, a7, a8, a3, hlt, hx, ru_cells, ru_ok, ru_fold, w1, hlast]; refine ⟨?_, ?_⟩ <;> intro hc))
        have hg : last < l[i].id := by omega
        exact hI1 (l.length - (i + 1)) _ _ (by omega) ⟨by simp [hE], by simp [a0], by simp [a6, rulesAV], by simp [a7], i + 1, l[i].id, by simp, by simp, by omega, rfl, by simpa [hg] using hall⟩
  · have : i = l.length := by omega
    subst this
    (try (first | (with_reducible refine dops_go ?_; simp [rulesAV, a0, a6, a7, a8, a3, hE]) | (with_reducible refine OKv_go ?_; simp [rulesAV, a0, a6, a7, a8, a3, hE]) | (with_reducible refine OKr_go ?_; simp [rulesAV, a0, a6, a7, a8, a3, hE]))); repeat' (first | refine awp_seq ?_ | refine awp_block ?_ | (refine awp_skip ?_; try simp) | (refine awp_exit ?_; try simp) | (refine awp_ret ?_; try simp) | (refine retP_same (by simp) ?_; simp) | (refine retP_flat (by simp) (by simp) (by simp (maxDischargeDepth := 30) [rulesAV, a0, a6, a7, a8, a3, hE]) ?_; simp) | (refine awp_reg ?_; simp [rulesAV, a0, a6, a7, a8, a3, hE]) | (refine awp_drawT (fun _ => false) mixed (by decide +kernel) ?_; simp [rulesAV, a0, a6, a7, a8, a3, hE]) | (refine guarded_split ?_ ?_ <;> (intro hg; simp only [hg]; simp [rulesAV, a0, a6, a7, a8, a3, hE])) | (apply awp_cond_t; focus (simp [rulesAV, a0, a6, a7, a8, a3, hE]; done)) | (apply awp_cond_f; focus (simp [rulesAV, a0, a6, a7, a8, a3, hE]; done)) | (refine awp_cond ?_; simp [rulesAV, a0, a6, a7, a8, a3, hE]; refine ⟨?_, ?_⟩ <;> intro hc))
    rw [List.drop_length] at hall
    simp only [allFrom] at hall
    simp [allB, hall]
    omega
end Go.Proofs.YtanimmdlgmkmkaaGreat.Av


/- Networks: one step of a packet. -/
namespace Go.Proofs.YtanimmdlgmkmkaaGreat.Av
open Go
set_option linter.unusedSimpArgs false
set_option linter.unusedVariables false
set_option maxRecDepth 100000
set_option maxHeartbeats 2000000
set_option pp.maxSteps 300

def stepF (n : Nw) (d a : Int) : Int × Pt :=
  if deniesB n.rules d a = true then (2, ⟨0, 0⟩) else if matchB n.rules d a = false then (0, ⟨0, 0⟩) else if (matchR n.rules d a).kind = 1 then (1, ⟨0, 0⟩)
  else if (nextM n.t ⟨d, (matchR n.rules d a).port⟩).isSome = true then (4, ⟨d, (matchR n.rules d a).port⟩) else (3, ⟨d, (matchR n.rules d a).port⟩)
theorem nw_cells (n : Nw) (f : Fl) : (nwAV n f).cells = [intsAV n.t.ports f.p, linksAV n.t.links f.l, rulesAV n.rules f.r] := rfl
theorem new_m {σ : St} {slot sz : Nat} {o : Ob} {j : Id} : (σ.new slot sz o).m j = if j = ⟨slot, σ.nx slot, sz⟩ then some o else σ.m j := rfl
theorem set_m {σ : St} {i j : Id} {o : Ob} : (σ.set i o).m j = if j = i ∧ (σ.m i).isSome = true then some o else σ.m j := rfl
theorem new_nx' {σ : St} {slot sz s : Nat} {o : Ob} : (σ.new slot sz o).nx s = if s = slot then σ.nx s + 1 else σ.nx s := rfl
theorem step_calls (n : Nw) (f : Fl) (d a : Int) (hl : n.t.links.length < 2 ^ 42) (hl2 : n.rules.length < 2932031007403) :
    PCalls Tryz.prog 158 [nwAV n f, .raw (.int .i64 d), .raw (.int .u32 a)] (.tup [.raw (.int .i64 (stepF n d a).1), ptAV (stepF n d a).2]) := by
  have hd := denies_calls n.rules f.r d a hl2
  have hm := match_calls n.rules f.r d a hl2
  have hn := fun p => next_calls n.t f p hl
  unfold stepF
  obtain ⟨b1, h1⟩ : ∃ b, deniesB n.rules d a = b := ⟨_, rfl⟩
  obtain ⟨b2, h2⟩ : ∃ b, matchB n.rules d a = b := ⟨_, rfl⟩
  obtain ⟨r, hr⟩ : ∃ r, matchR n.rules d a = r := ⟨_, rfl⟩
  rw [h1] at hd
  rw [h2, hr] at hm
  rw [h1, h2, hr]
  clear h1 h2 hr
  have hn := hn ⟨d, r.port⟩
  obtain ⟨b3, h3⟩ : ∃ b, (nextM n.t ⟨d, r.port⟩).isSome = b := ⟨_, rfl⟩
  obtain ⟨q, hq⟩ : ∃ q, (nextM n.t ⟨d, r.port⟩).getD ⟨0, 0⟩ = q := ⟨_, rfl⟩
  rw [h3, hq] at hn
  rw [h3]
  refine pbody Tryz.func158 rfl (N := 50) rfl rfl (by simp) (by simp [noIds, ptAV]) fun σ => ?_
  have ho1 : cellOK (intsAV n.t.ports f.p) = true := rfl
  have ho2 : cellOK (linksAV n.t.links f.l) = true := rfl
  have ho3 : cellOK (rulesAV n.rules f.r) = true := rfl
  simp only [cellOK] at ho1 ho2 ho3
  have hpf : ∀ x y : Int, AV.agg [.raw (.int .i64 x), .raw (.int .i64 y)] = ptAV ⟨x, y⟩ := fun _ _ => rfl
  have hpc : ∀ q : Pt, (ptAV q).cells = [.raw (.int .i64 q.dev), .raw (.int .i64 q.port)] := fun q => rfl
  have hps : ∀ (q : Pt) (x y : Int), setPart (ptAV q) 0 [.raw (.int .i64 x), .raw (.int .i64 y)] = ptAV ⟨x, y⟩ := fun _ _ _ => rfl
  have f7 : σ.m ⟨7, σ.nx 7, 2⟩ = none := fresh_none _ _ _
  have hnf : AV.agg [intsAV n.t.ports f.p, linksAV n.t.links f.l] = tpAV n.t f := rfl
  (try (first | (with_reducible refine dops_go ?_; simp [nw_cells, ho1, ho2, ho3, hpf, hpc, hps]) | (with_reducible refine OKv_go ?_; simp [nw_cells, ho1, ho2, ho3, hpf, hpc, hps]) | (with_reducible refine OKr_go ?_; simp [nw_cells, ho1, ho2, ho3, hpf, hpc, hps]))); repeat' (first | refine awp_seq ?_ | refine awp_block ?_ | (refine awp_skip ?_; try simp) | (refine awp_exit ?_; try simp) | (refine awp_ret ?_; try simp) | (refine retP_same (by simp) ?_; simp) | (refine retP_flat (by simp) (by simp) (by simp (maxDischargeDepth := 30) [nw_cells, ho1, ho2, ho3, hpf, hpc, hps]) ?_; simp) | (refine awp_reg ?_; simp [nw_cells, ho1, ho2, ho3, hpf, hpc, hps]) | (refine awp_drawT (fun _ => false) mixed (by decide +kernel) ?_; simp [nw_cells, ho1, ho2, ho3, hpf, hpc, hps]) | (refine guarded_split ?_ ?_ <;> (intro hg; simp only [hg]; simp [nw_cells, ho1, ho2, ho3, hpf, hpc, hps])) | (apply awp_cond_t; focus (simp [nw_cells, ho1, ho2, ho3, hpf, hpc, hps]; done)) | (apply awp_cond_f; focus (simp [nw_cells, ho1, ho2, ho3, hpf, hpc, hps]; done)) | (refine awp_cond ?_; simp [nw_cells, ho1, ho2, ho3, hpf, hpc, hps]; refine ⟨?_, ?_⟩ <;> intro hc))
  refine PCalls.use hd ?_
  cases b1 with
  | true =>
    (try (first | (with_reducible refine dops_go ?_; simp [nw_cells, ho1, ho2, ho3, hpf, hpc, hps]) | (with_reducible refine OKv_go ?_; simp [nw_cells, ho1, ho2, ho3, hpf, hpc, hps]) | (with_reducible refine OKr_go ?_; simp [nw_cells, ho1, ho2, ho3, hpf, hpc, hps]))); repeat' (first | refine awp_seq ?_ | refine awp_block ?_ | (refine awp_skip ?_; try simp) | (refine awp_exit ?_; try simp) | (refine awp_ret ?_; try simp) | (refine awp_reg ?_; simp [nw_cells, ho1, ho2, ho3, hpf, hpc, hps]) | (refine awp_drawT (fun _ => false) mixed (by decide +kernel) ?_; simp [nw_cells, ho1, ho2, ho3, hpf, hpc, hps]) | (refine guarded_split ?_ ?_ <;> (intro hg; simp only [hg]; simp [nw_cells, ho1, ho2, ho3, hpf, hpc, hps])) | (apply awp_cond_t; focus (simp [nw_cells, ho1, ho2, ho3, hpf, hpc, hps]; done)) | (apply awp_cond_f; focus (simp [nw_cells, ho1, ho2, ho3, hpf, hpc, hps]; done)) | (refine awp_cond ?_; simp [nw_cells, ho1, ho2, ho3, hpf, hpc, hps]; refine ⟨?_, ?_⟩ <;> intro hc))
    refine retP_flat (.inr rfl) rfl (by repeat (first | exact Ext.refl _ | refine ext_new' ?_ | refine Ext.setF ?_ (by simp [new_nx', St.set, fresh_none]))) ?_
    simp [St.set, St.new, hpc, hpf, hps]
  | false =>
    (try (first | (with_reducible refine dops_go ?_; simp [nw_cells, ho1, ho2, ho3, hpf, hpc, hps]) | (with_reducible refine OKv_go ?_; simp [nw_cells, ho1, ho2, ho3, hpf, hpc, hps]) | (with_reducible refine OKr_go ?_; simp [nw_cells, ho1, ho2, ho3, hpf, hpc, hps]))); repeat' (first | refine awp_seq ?_ | refine awp_block ?_ | (refine awp_skip ?_; try simp) | (refine awp_exit ?_; try simp) | (refine awp_ret ?_; try simp) | (refine retP_same (by simp) ?_; simp) | (refine retP_flat (by simp) (by simp) (by simp (maxDischargeDepth := 30) [nw_cells, ho1, ho2, ho3, hpf, hpc, hps]) ?_; simp) | (refine awp_reg ?_; simp [nw_cells, ho1, ho2, ho3, hpf, hpc, hps]) | (refine awp_drawT (fun _ => false) mixed (by decide +kernel) ?_; simp [nw_cells, ho1, ho2, ho3, hpf, hpc, hps]) | (refine guarded_split ?_ ?_ <;> (intro hg; simp only [hg]; simp [nw_cells, ho1, ho2, ho3, hpf, hpc, hps])) | (apply awp_cond_t; focus (simp [nw_cells, ho1, ho2, ho3, hpf, hpc, hps]; done)) | (apply awp_cond_f; focus (simp [nw_cells, ho1, ho2, ho3, hpf, hpc, hps]; done)) | (refine awp_cond ?_; simp [nw_cells, ho1, ho2, ho3, hpf, hpc, hps]; refine ⟨?_, ?_⟩ <;> intro hc))
    refine PCalls.use hm ?_
    cases b2 with
    | false =>
      (try (first | (with_reducible refine dops_go ?_; simp [nw_cells, ho1, ho2, ho3, hpf, hpc, hps, ru_cells, ru_ok, ru_fold]) | (with_reducible refine OKv_go ?_; simp [nw_cells, ho1, ho2, ho3, hpf, hpc, hps, ru_cells, ru_ok, ru_fold]) | (with_reducible refine OKr_go ?_; simp [nw_cells, ho1, ho2, ho3, hpf, hpc, hps, ru_cells, ru_ok, ru_fold]))); repeat' (first | refine awp_seq ?_ | refine awp_block ?_ | (refine awp_skip ?_; try simp) | (refine awp_exit ?_; try simp) | (refine awp_ret ?_; try simp) | (refine awp_reg ?_; simp [nw_cells, ho1, ho2, ho3, hpf, hpc, hps, ru_cells, ru_ok, ru_fold]) | (refine awp_drawT (fun _ => false) mixed (by decide +kernel) ?_; simp [nw_cells, ho1, ho2, ho3, hpf, hpc, hps, ru_cells, ru_ok, ru_fold]) | (refine guarded_split ?_ ?_ <;> (intro hg; simp only [hg]; simp [nw_cells, ho1, ho2, ho3, hpf, hpc, hps, ru_cells, ru_ok, ru_fold])) | (apply awp_cond_t; focus (simp [nw_cells, ho1, ho2, ho3, hpf, hpc, hps, ru_cells, ru_ok, ru_fold]; done)) | (apply awp_cond_f; focus (simp [nw_cells, ho1, ho2, ho3, hpf, hpc, hps, ru_cells, ru_ok, ru_fold]; done)) | (refine awp_cond ?_; simp [nw_cells, ho1, ho2, ho3, hpf, hpc, hps, ru_cells, ru_ok, ru_fold]; refine ⟨?_, ?_⟩ <;> intro hc))
      refine retP_flat (.inr rfl) rfl (by repeat (first | exact Ext.refl _ | refine ext_new' ?_ | refine Ext.setF ?_ (by simp [new_nx', St.set, fresh_none]))) ?_
      simp [St.set, St.new, hpc, hpf, hps]
    | true =>
      by_cases hk : r.kind = 1
      · (try (first | (with_reducible refine dops_go ?_; simp [nw_cells, ho1, ho2, ho3, hpf, hpc, hps, ru_cells, ru_ok, ru_fold, hk]) | (with_reducible refine OKv_go ?_; simp [nw_cells, ho1, ho2, ho3, hpf, hpc, hps, ru_cells, ru_ok, ru_fold, hk]) | (with_reducible refine OKr_go ?_; simp [nw_cells, ho1, ho2, ho3, hpf, hpc, hps, ru_cells, ru_ok, ru_fold, hk]))); repeat' (first | refine awp_seq ?_ | refine awp_block ?_ | (refine awp_skip ?_; try simp) | (refine awp_exit ?_; try simp) | (refine awp_ret ?_; try simp) | (refine awp_reg ?_; simp [nw_cells, ho1, ho2, ho3, hpf, hpc, hps, ru_cells, ru_ok, ru_fold, hk]) | (refine awp_drawT (fun _ => false) mixed (by decide +kernel) ?_; simp [nw_cells, ho1, ho2, ho3, hpf, hpc, hps, ru_cells, ru_ok, ru_fold, hk]) | (refine guarded_split ?_ ?_ <;> (intro hg; simp only [hg]; simp [nw_cells, ho1, ho2, ho3, hpf, hpc, hps, ru_cells, ru_ok, ru_fold, hk])) | (apply awp_cond_t; focus (simp [nw_cells, ho1, ho2, ho3, hpf, hpc, hps, ru_cells, ru_ok, ru_fold, hk]; done)) | (apply awp_cond_f; focus (simp [nw_cells, ho1, ho2, ho3, hpf, hpc, hps, ru_cells, ru_ok, ru_fold, hk]; done)) | (refine awp_cond ?_; simp [nw_cells, ho1, ho2, ho3, hpf, hpc, hps, ru_cells, ru_ok, ru_fold, hk]; refine ⟨?_, ?_⟩ <;> intro hc))
        refine retP_flat (.inr rfl) rfl (by repeat (first | exact Ext.refl _ | refine ext_new' ?_ | refine Ext.setF ?_ (by simp [new_nx', St.set, fresh_none]))) ?_
        simp [St.set, St.new, hpc, hpf, hps, hk]
      · (try (first | (with_reducible refine dops_go ?_; simp [nw_cells, ho1, ho2, ho3, hpf, hpc, hps, ru_cells, ru_ok, ru_fold, hk, hnf, new_m, set_m, new_nx']) | (with_reducible refine OKv_go ?_; simp [nw_cells, ho1, ho2, ho3, hpf, hpc, hps, ru_cells, ru_ok, ru_fold, hk, hnf, new_m, set_m, new_nx']) | (with_reducible refine OKr_go ?_; simp [nw_cells, ho1, ho2, ho3, hpf, hpc, hps, ru_cells, ru_ok, ru_fold, hk, hnf, new_m, set_m, new_nx']))); repeat' (first | refine awp_seq ?_ | refine awp_block ?_ | (refine awp_skip ?_; try simp) | (refine awp_exit ?_; try simp) | (refine awp_ret ?_; try simp) | (refine retP_same (by simp) ?_; simp) | (refine retP_flat (by simp) (by simp) (by simp (maxDischargeDepth := 30) [nw_cells, ho1, ho2, ho3, hpf, hpc, hps, ru_cells, ru_ok, ru_fold, hk, hnf, new_m, set_m, new_nx']) ?_; simp) | (refine awp_reg ?_; simp [nw_cells, ho1, ho2, ho3, hpf, hpc, hps, ru_cells, ru_ok, ru_fold, hk, hnf, new_m, set_m, new_nx']) | (refine awp_drawT (fun _ => false) mixed (by decide +kernel) ?_; simp [nw_cells, ho1, ho2, ho3, hpf, hpc, hps, ru_cells, ru_ok, ru_fold, hk, hnf, new_m, set_m, new_nx']) | (refine guarded_split ?_ ?_ <;> (intro hg; simp only [hg]; simp [nw_cells, ho1, ho2, ho3, hpf, hpc, hps, ru_cells, ru_ok, ru_fold, hk, hnf, new_m, set_m, new_nx'])) | (apply awp_cond_t; focus (simp [nw_cells, ho1, ho2, ho3, hpf, hpc, hps, ru_cells, ru_ok, ru_fold, hk, hnf, new_m, set_m, new_nx']; done)) | (apply awp_cond_f; focus (simp [nw_cells, ho1, ho2, ho3, hpf, hpc, hps, ru_cells, ru_ok, ru_fold, hk, hnf, new_m, set_m, new_nx']; done)) | (refine awp_cond ?_; simp [nw_cells, ho1, ho2, ho3, hpf, hpc, hps, ru_cells, ru_ok, ru_fold, hk, hnf, new_m, set_m, new_nx']; refine ⟨?_, ?_⟩ <;> intro hc))
        refine PCalls.use hn ?_
        cases b3 with
        | true =>
          (try (first | (with_reducible refine dops_go ?_; simp [nw_cells, ho1, ho2, ho3, hpf, hpc, hps, ru_cells, ru_ok, ru_fold, hk, hnf, new_m, set_m, new_nx']) | (with_reducible refine OKv_go ?_; simp [nw_cells, ho1, ho2, ho3, hpf, hpc, hps, ru_cells, ru_ok, ru_fold, hk, hnf, new_m, set_m, new_nx']) | (with_reducible refine OKr_go ?_; simp [nw_cells, ho1, ho2, ho3, hpf, hpc, hps, ru_cells, ru_ok, ru_fold, hk, hnf, new_m, set_m, new_nx']))); repeat' (first | refine awp_seq ?_ | refine awp_block ?_ | (refine awp_skip ?_; try simp) | (refine awp_exit ?_; try simp) | (refine awp_ret ?_; try simp) | (refine awp_reg ?_; simp [nw_cells, ho1, ho2, ho3, hpf, hpc, hps, ru_cells, ru_ok, ru_fold, hk, hnf, new_m, set_m, new_nx']) | (refine awp_drawT (fun _ => false) mixed (by decide +kernel) ?_; simp [nw_cells, ho1, ho2, ho3, hpf, hpc, hps, ru_cells, ru_ok, ru_fold, hk, hnf, new_m, set_m, new_nx']) | (refine guarded_split ?_ ?_ <;> (intro hg; simp only [hg]; simp [nw_cells, ho1, ho2, ho3, hpf, hpc, hps, ru_cells, ru_ok, ru_fold, hk, hnf, new_m, set_m, new_nx'])) | (apply awp_cond_t; focus (simp [nw_cells, ho1, ho2, ho3, hpf, hpc, hps, ru_cells, ru_ok, ru_fold, hk, hnf, new_m, set_m, new_nx']; done)) | (apply awp_cond_f; focus (simp [nw_cells, ho1, ho2, ho3, hpf, hpc, hps, ru_cells, ru_ok, ru_fold, hk, hnf, new_m, set_m, new_nx']; done)) | (refine awp_cond ?_; simp [nw_cells, ho1, ho2, ho3, hpf, hpc, hps, ru_cells, ru_ok, ru_fold, hk, hnf, new_m, set_m, new_nx']; refine ⟨?_, ?_⟩ <;> intro hc))
          refine retP_flat (.inr rfl) rfl (by repeat (first | exact Ext.refl _ | refine ext_new' ?_ | refine Ext.setF ?_ (by simp [new_nx', St.set, fresh_none]))) ?_
          simp [St.set, St.new, hpc, hpf, hps, hk]
        | false =>
          (try (first | (with_reducible refine dops_go ?_; simp [nw_cells, ho1, ho2, ho3, hpf, hpc, hps, ru_cells, ru_ok, ru_fold, hk, hnf, new_m, set_m, new_nx']) | (with_reducible refine OKv_go ?_; simp [nw_cells, ho1, ho2, ho3, hpf, hpc, hps, ru_cells, ru_ok, ru_fold, hk, hnf, new_m, set_m, new_nx']) | (with_reducible refine OKr_go ?_; simp [nw_cells, ho1, ho2, ho3, hpf, hpc, hps, ru_cells, ru_ok, ru_fold, hk, hnf, new_m, set_m, new_nx']))); repeat' (first | refine awp_seq ?_ | refine awp_block ?_ | (refine awp_skip ?_; try simp) | (refine awp_exit ?_; try simp) | (refine awp_ret ?_; try simp) | (refine awp_reg ?_; simp [nw_cells, ho1, ho2, ho3, hpf, hpc, hps, ru_cells, ru_ok, ru_fold, hk, hnf, new_m, set_m, new_nx']) | (refine awp_drawT (fun _ => false) mixed (by decide +kernel) ?_; simp [nw_cells, ho1, ho2, ho3, hpf, hpc, hps, ru_cells, ru_ok, ru_fold, hk, hnf, new_m, set_m, new_nx']) | (refine guarded_split ?_ ?_ <;> (intro hg; simp only [hg]; simp [nw_cells, ho1, ho2, ho3, hpf, hpc, hps, ru_cells, ru_ok, ru_fold, hk, hnf, new_m, set_m, new_nx'])) | (apply awp_cond_t; focus (simp [nw_cells, ho1, ho2, ho3, hpf, hpc, hps, ru_cells, ru_ok, ru_fold, hk, hnf, new_m, set_m, new_nx']; done)) | (apply awp_cond_f; focus (simp [nw_cells, ho1, ho2, ho3, hpf, hpc, hps, ru_cells, ru_ok, ru_fold, hk, hnf, new_m, set_m, new_nx']; done)) | (refine awp_cond ?_; simp [nw_cells, ho1, ho2, ho3, hpf, hpc, hps, ru_cells, ru_ok, ru_fold, hk, hnf, new_m, set_m, new_nx']; refine ⟨?_, ?_⟩ <;> intro hc))
          refine retP_flat (.inr rfl) rfl (by repeat (first | exact Ext.refl _ | refine ext_new' ?_ | refine Ext.setF ?_ (by simp [new_nx', St.set, fresh_none]))) ?_
          simp [St.set, St.new, hpc, hpf, hps, hk]
end Go.Proofs.YtanimmdlgmkmkaaGreat.Av


/- Trees: how they lie; heights, sizes, nodes; the turning of a node. -/
namespace Go.Proofs.YtanimmdlgmkmkaaGreat.Av
open Go
set_option linter.unusedSimpArgs false
set_option linter.unusedVariables false
set_option maxRecDepth 100000
set_option maxHeartbeats 2000000
set_option pp.maxSteps 600

def Tr.av : Tr → AV
  | .nil => .raw (.pointer none)
  | .node l k v r => .pp [.raw (.int .u64 k), .raw (.int .i64 v), l.av, r.av, .raw (.int .i64 (Tr.node l k v r).ht), .raw (.int .i64 (Tr.node l k v r).sz)] 0
def prAV (k v : Int) : AV := .agg [.raw (.int .u64 k), .raw (.int .i64 v)]
@[simp] theorem av_nil : Tr.nil.av = .raw (.pointer none) := rfl
theorem av_node (l : Tr) (k v : Int) (r : Tr) : (Tr.node l k v r).av = .pp [.raw (.int .u64 k), .raw (.int .i64 v), l.av, r.av, .raw (.int .i64 (Tr.node l k v r).ht), .raw (.int .i64 (Tr.node l k v r).sz)] 0 := rfl
@[simp] theorem av_ids (K : Id → Prop) : ∀ t : Tr, t.av.ids K
  | .nil => by simp [Tr.av, AV.ids]
  | .node l k v r => by simp only [Tr.av, AV.ids, idsL, av_ids K l, av_ids K r, and_self]
@[simp] theorem av_cells (t : Tr) : t.av.cells = [t.av] := by cases t <;> rfl
@[simp] theorem av_oneOk (t : Tr) : cellOK t.av = true := by cases t <;> rfl
theorem av_setPart (t : Tr) (off : Nat) (x : AV) : setPart t.av off [x] = x := by cases t <;> rfl

theorem high_calls (t : Tr) : PCalls Tryz.prog 219 [t.av] (.raw (.int .i64 t.ht)) := by
  refine pbody Tryz.func219 rfl (N := 9) rfl rfl (by simp) (by simp [noIds]) fun σ => ?_
  cases t with
  | nil => (try ((first | with_reducible refine dops_go ?_ | with_reducible refine OKv_go ?_ | with_reducible refine OKr_go ?_); simp [-cellOK, Tr.ht])); repeat' (first | refine awp_seq ?_ | refine awp_block ?_ | (refine awp_skip ?_; try simp) | (refine awp_exit ?_; try simp) | (refine awp_ret ?_; try simp) | (refine retP_same (by simp) ?_; simp) | (refine retP_no (by simp) (by simp [noIds]) (by repeat (first | assumption | exact Ext.refl _ | refine ext_new' ?_ | refine Ext.setF ?_ (by first | assumption | (simp [new_nx', St.set, fresh_none]; done) | exact ext_fresh (by assumption)))) ?_; simp [-cellOK, Tr.ht, new_m, set_m, new_nx']) | ((first | refine awp_reg ?_ | refine awp_drawT (fun _ => false) mixed (by decide +kernel) ?_ | refine awp_drawT isCallO mixed (by decide +kernel) ?_); simp [-cellOK, Tr.ht]) | (refine guarded_split ?_ ?_ <;> (intro hg; simp only [hg]; simp [-cellOK, Tr.ht])) | (apply awp_cond_t; focus (simp [-cellOK, Tr.ht]; done)) | (apply awp_cond_f; focus (simp [-cellOK, Tr.ht]; done)) | (refine awp_cond ?_; simp [-cellOK, Tr.ht]; refine ⟨?_, ?_⟩ <;> intro hc) | fail)
  | node l k v r =>
    obtain ⟨h, hh⟩ : ∃ h, (Tr.node l k v r).ht = h := ⟨_, rfl⟩
    rw [hh]
    (try ((first | with_reducible refine dops_go ?_ | with_reducible refine OKv_go ?_ | with_reducible refine OKr_go ?_); simp [-cellOK, av_node, hh])); repeat' (first | refine awp_seq ?_ | refine awp_block ?_ | (refine awp_skip ?_; try simp) | (refine awp_exit ?_; try simp) | (refine awp_ret ?_; try simp) | (refine retP_same (by simp) ?_; simp) | (refine retP_no (by simp) (by simp [noIds]) (by repeat (first | assumption | exact Ext.refl _ | refine ext_new' ?_ | refine Ext.setF ?_ (by first | assumption | (simp [new_nx', St.set, fresh_none]; done) | exact ext_fresh (by assumption)))) ?_; simp [-cellOK, av_node, hh, new_m, set_m, new_nx']) | ((first | refine awp_reg ?_ | refine awp_drawT (fun _ => false) mixed (by decide +kernel) ?_ | refine awp_drawT isCallO mixed (by decide +kernel) ?_); simp [-cellOK, av_node, hh]) | (refine guarded_split ?_ ?_ <;> (intro hg; simp only [hg]; simp [-cellOK, av_node, hh])) | (apply awp_cond_t; focus (simp [-cellOK, av_node, hh]; done)) | (apply awp_cond_f; focus (simp [-cellOK, av_node, hh]; done)) | (refine awp_cond ?_; simp [-cellOK, av_node, hh]; refine ⟨?_, ?_⟩ <;> intro hc) | fail)
theorem size_calls (t : Tr) : PCalls Tryz.prog 187 [t.av] (.raw (.int .i64 t.sz)) := by
  refine pbody Tryz.func187 rfl (N := 9) rfl rfl (by simp) (by simp [noIds]) fun σ => ?_
  cases t with
  | nil => (try ((first | with_reducible refine dops_go ?_ | with_reducible refine OKv_go ?_ | with_reducible refine OKr_go ?_); simp [-cellOK, Tr.sz])); repeat' (first | refine awp_seq ?_ | refine awp_block ?_ | (refine awp_skip ?_; try simp) | (refine awp_exit ?_; try simp) | (refine awp_ret ?_; try simp) | (refine retP_same (by simp) ?_; simp) | (refine retP_no (by simp) (by simp [noIds]) (by repeat (first | assumption | exact Ext.refl _ | refine ext_new' ?_ | refine Ext.setF ?_ (by first | assumption | (simp [new_nx', St.set, fresh_none]; done) | exact ext_fresh (by assumption)))) ?_; simp [-cellOK, Tr.sz, new_m, set_m, new_nx']) | ((first | refine awp_reg ?_ | refine awp_drawT (fun _ => false) mixed (by decide +kernel) ?_ | refine awp_drawT isCallO mixed (by decide +kernel) ?_); simp [-cellOK, Tr.sz]) | (refine guarded_split ?_ ?_ <;> (intro hg; simp only [hg]; simp [-cellOK, Tr.sz])) | (apply awp_cond_t; focus (simp [-cellOK, Tr.sz]; done)) | (apply awp_cond_f; focus (simp [-cellOK, Tr.sz]; done)) | (refine awp_cond ?_; simp [-cellOK, Tr.sz]; refine ⟨?_, ?_⟩ <;> intro hc) | fail)
  | node l k v r =>
    obtain ⟨h, hh⟩ : ∃ h, (Tr.node l k v r).sz = h := ⟨_, rfl⟩
    rw [hh]
    (try ((first | with_reducible refine dops_go ?_ | with_reducible refine OKv_go ?_ | with_reducible refine OKr_go ?_); simp [-cellOK, av_node, hh])); repeat' (first | refine awp_seq ?_ | refine awp_block ?_ | (refine awp_skip ?_; try simp) | (refine awp_exit ?_; try simp) | (refine awp_ret ?_; try simp) | (refine retP_same (by simp) ?_; simp) | (refine retP_no (by simp) (by simp [noIds]) (by repeat (first | assumption | exact Ext.refl _ | refine ext_new' ?_ | refine Ext.setF ?_ (by first | assumption | (simp [new_nx', St.set, fresh_none]; done) | exact ext_fresh (by assumption)))) ?_; simp [-cellOK, av_node, hh, new_m, set_m, new_nx']) | ((first | refine awp_reg ?_ | refine awp_drawT (fun _ => false) mixed (by decide +kernel) ?_ | refine awp_drawT isCallO mixed (by decide +kernel) ?_); simp [-cellOK, av_node, hh]) | (refine guarded_split ?_ ?_ <;> (intro hg; simp only [hg]; simp [-cellOK, av_node, hh])) | (apply awp_cond_t; focus (simp [-cellOK, av_node, hh]; done)) | (apply awp_cond_f; focus (simp [-cellOK, av_node, hh]; done)) | (refine awp_cond ?_; simp [-cellOK, av_node, hh]; refine ⟨?_, ?_⟩ <;> intro hc) | fail)
@[simp] theorem pr_cells (k v : Int) : (prAV k v).cells = [.raw (.int .u64 k), .raw (.int .i64 v)] := rfl
@[simp] theorem pr_ids (K : Id → Prop) (k v : Int) : (prAV k v).ids K := by simp [prAV]
theorem idsL_map {α : Type} {K : Id → Prop} {f : α → AV} (h : ∀ x, (f x).ids K) : ∀ l : List α, idsL K (l.map f)
  | [] => by simp
  | a :: l => by simp only [List.map_cons, idsL]; exact ⟨h a, idsL_map h l⟩
@[simp] theorem i_ids (K : Id → Prop) (n : Int) : (iAV n).ids K := by simp [iAV]
@[simp] theorem lk_ids (K : Id → Prop) (p : Lk) : (lkAV p).ids K := by simp [lkAV]
@[simp] theorem rg_ids (K : Id → Prop) (p : Rg) : (rgAV p).ids K := by simp [rgAV]
@[simp] theorem ru_ids (K : Id → Prop) (p : Ru) : (ruAV p).ids K := by simp [ruAV]
@[simp] theorem ints_ids (K : Id → Prop) (l : List Int) (f : Bool) : (intsAV l f).ids K := by simp only [intsAV, AV.ids]; exact idsL_map (i_ids K) l
@[simp] theorem links_ids (K : Id → Prop) (l : List Lk) (f : Bool) : (linksAV l f).ids K := by simp only [linksAV, AV.ids]; exact idsL_map (lk_ids K) l
@[simp] theorem rules_ids (K : Id → Prop) (l : List Ru) (f : Bool) : (rulesAV l f).ids K := by simp only [rulesAV, AV.ids]; exact idsL_map (ru_ids K) l
@[simp] theorem nw_ids (K : Id → Prop) (n : Nw) (f : Fl) : (nwAV n f).ids K := by simp [nwAV]
@[simp] theorem ints_ok (l : List Int) (f : Bool) : cellOK (intsAV l f) = true := rfl
@[simp] theorem links_ok (l : List Lk) (f : Bool) : cellOK (linksAV l f) = true := rfl
@[simp] theorem rules_ok (l : List Ru) (f : Bool) : cellOK (rulesAV l f) = true := rfl
theorem pr_fold (k v : Int) : AV.agg [.raw (.int .u64 k), .raw (.int .i64 v)] = prAV k v := rfl
theorem pr_put (k v : Int) : Av.setPart (prAV 0 0) 0 [.raw (.int .u64 k), .raw (.int .i64 v)] = prAV k v := rfl

theorem made_calls (l : Tr) (k v : Int) (r : Tr) (h : l.sz + r.sz < 2 ^ 60) : PCalls Tryz.prog 207 [l.av, prAV k v, r.av] (Tr.node l k v r).av := by
  have z1 := l.ht_nn
  have z2 := r.ht_nn
  have z3 := l.sz_nn
  have z4 := r.sz_nn
  have z5 := l.ht_le
  have z6 := r.ht_le
  have e1 : IntKind.i64.wrap (1 + (if l.ht < r.ht then r.ht else l.ht)) = (Tr.node l k v r).ht := by
    rw [wrap64 (by split <;> omega) (by split <;> omega)]; simp only [Tr.ht]; split <;> omega
  have e2 : IntKind.i64.wrap (1 + l.sz) = 1 + l.sz := wrap64 (by omega) (by omega)
  have e3 : IntKind.i64.wrap (1 + l.sz + r.sz) = (Tr.node l k v r).sz := by
    rw [wrap64 (by omega) (by omega)]; rfl
  obtain ⟨H, hH⟩ : ∃ h, (Tr.node l k v r).ht = h := ⟨_, rfl⟩
  obtain ⟨Z, hZ⟩ : ∃ h, (Tr.node l k v r).sz = h := ⟨_, rfl⟩
  have hh1 := high_calls l
  have hh2 := high_calls r
  have hs1 := size_calls l
  have hs2 := size_calls r
  rw [av_node, hH, hZ]
  rw [hH] at e1
  rw [hZ] at e3
  refine pbody Tryz.func207 rfl (N := 24) rfl rfl (by simp) (by simp [noIds]) fun σ => ?_
  (try ((first | with_reducible refine dops_go ?_ | with_reducible refine OKv_go ?_ | with_reducible refine OKr_go ?_); simp [-cellOK, pr_cells, pr_fold, av_setPart, e1, e2, e3])); repeat' (first | refine awp_seq ?_ | refine awp_block ?_ | (refine awp_skip ?_; try simp) | (refine awp_exit ?_; try simp) | (refine awp_ret ?_; try simp) | ((first | refine awp_reg ?_ | refine awp_drawT (fun _ => false) mixed (by decide +kernel) ?_ | refine awp_drawT isCallO mixed (by decide +kernel) ?_ | refine PCalls.use (hh1) ?_ | refine Or.inl ⟨_, Or.inl (hh1), ?_⟩ | refine PCalls.use (hh2) ?_ | refine Or.inl ⟨_, Or.inl (hh2), ?_⟩ | refine PCalls.use (hs1) ?_ | refine Or.inl ⟨_, Or.inl (hs1), ?_⟩ | refine PCalls.use (hs2) ?_ | refine Or.inl ⟨_, Or.inl (hs2), ?_⟩); simp [-cellOK, pr_cells, pr_fold, av_setPart, e1, e2, e3]) | (refine guarded_split ?_ ?_ <;> (intro hg; simp only [hg]; simp [-cellOK, pr_cells, pr_fold, av_setPart, e1, e2, e3])) | (apply awp_cond_t; focus (simp [-cellOK, pr_cells, pr_fold, av_setPart, e1, e2, e3]; done)) | (apply awp_cond_f; focus (simp [-cellOK, pr_cells, pr_fold, av_setPart, e1, e2, e3]; done)) | (refine awp_cond ?_; simp [-cellOK, pr_cells, pr_fold, av_setPart, e1, e2, e3]; refine ⟨?_, ?_⟩ <;> intro hc) | fail)
  refine retP_give (x := .rp ⟨23, σ.nx 23, 6⟩ 0 0) (.inr rfl) (by repeat (first | assumption | exact Ext.refl _ | refine ext_new' ?_ | refine Ext.setF ?_ (by first | assumption | (simp [new_nx', St.set, fresh_none]; done) | exact ext_fresh (by assumption)))) ?_ ?_
  · simp [new_nx']
  · simp [giveUps, giveUp, fresh_none, new_m, new_nx']
end Go.Proofs.YtanimmdlgmkmkaaGreat.Av


/- Trees: the turning of a node; a tree's top, length, values. -/
namespace Go.Proofs.YtanimmdlgmkmkaaGreat.Av
open Go
set_option linter.unusedSimpArgs false
set_option linter.unusedVariables false
set_option maxRecDepth 100000
set_option maxHeartbeats 4000000
set_option pp.maxSteps 600

theorem even_calls (l : Tr) (k v : Int) (r : Tr) (h : l.sz + r.sz < 2 ^ 50) : PCalls Tryz.prog 208 [l.av, prAV k v, r.av] (Tr.even l k v r).av := by
  have z1 := l.ht_nn
  have z2 := r.ht_nn
  have z3 := l.sz_nn
  have z4 := r.sz_nn
  have z5 := l.ht_le
  have z6 := r.ht_le
  have w1 : IntKind.i64.wrap (r.ht + 1) = r.ht + 1 := wrap64 (by omega) (by omega)
  have w2 : IntKind.i64.wrap (l.ht + 1) = l.ht + 1 := wrap64 (by omega) (by omega)
  have hl := high_calls l
  have hr := high_calls r
  by_cases h1 : r.ht + 1 < l.ht
  · cases l with
    | nil => simp only [Tr.ht] at h1; omega
    | node ll lk lv lr =>
      have y1 := ll.sz_nn
      have y2 := lr.sz_nn
      have y3 := ll.ht_nn
      have y4 := lr.ht_nn
      have hz : (Tr.node ll lk lv lr).sz = 1 + ll.sz + lr.sz := rfl
      have g1 := high_calls ll
      have g2 := high_calls lr
      rw [av_node] at hl ⊢
      obtain ⟨H, hH⟩ : ∃ H, (Tr.node ll lk lv lr).ht = H := ⟨_, rfl⟩
      obtain ⟨Z, hZ⟩ : ∃ Z, (Tr.node ll lk lv lr).sz = Z := ⟨_, rfl⟩
      by_cases h2 : lr.ht ≤ ll.ht
      · have m1 := made_calls lr k v r (by omega)
        have m2 := made_calls ll lk lv (.node lr k v r) (by simp only [Tr.sz]; omega)
        have e : Tr.even (.node ll lk lv lr) k v r = .node ll lk lv (.node lr k v r) := by simp only [Tr.even, if_pos h1, if_pos h2]
        rw [e]
        rw [hH] at h1 hl w2 ⊢
        rw [hZ] at hl
        refine pbody Tryz.func208 rfl (N := 139) rfl rfl (by simp) (by simp [noIds]) fun σ => ?_
        rw [hZ]
        generalize Tr.node ll lk lv (.node lr k v r) = T at m2 ⊢
        generalize Tr.node lr k v r = U at m1 m2
        (try ((first | with_reducible refine dops_go ?_ | with_reducible refine OKv_go ?_ | with_reducible refine OKr_go ?_); simp [-cellOK, pr_cells, pr_fold, h1, h2, w1, w2])); repeat' (first | refine awp_seq ?_ | refine awp_block ?_ | (refine awp_skip ?_; try simp) | (refine awp_exit ?_; try simp) | (refine awp_ret ?_; try simp) | (refine retP_same (by simp) ?_; simp) | (refine retP_no (by simp) (by simp [noIds]) (by repeat (first | assumption | exact Ext.refl _ | refine ext_new' ?_ | refine Ext.setF ?_ (by first | assumption | (simp [new_nx', St.set, fresh_none]; done) | exact ext_fresh (by assumption)))) ?_; simp [-cellOK, pr_cells, pr_fold, h1, h2, w1, w2, new_m, set_m, new_nx']) | ((first | refine awp_reg ?_ | refine awp_drawT (fun _ => false) mixed (by decide +kernel) ?_ | refine awp_drawT isCallO mixed (by decide +kernel) ?_ | refine PCalls.use (hl) ?_ | refine Or.inl ⟨_, Or.inl (hl), ?_⟩ | refine PCalls.use (hr) ?_ | refine Or.inl ⟨_, Or.inl (hr), ?_⟩ | refine PCalls.use (g1) ?_ | refine Or.inl ⟨_, Or.inl (g1), ?_⟩ | refine PCalls.use (g2) ?_ | refine Or.inl ⟨_, Or.inl (g2), ?_⟩ | refine PCalls.use (m1) ?_ | refine Or.inl ⟨_, Or.inl (m1), ?_⟩ | refine PCalls.use (m2) ?_ | refine Or.inl ⟨_, Or.inl (m2), ?_⟩); simp [-cellOK, pr_cells, pr_fold, h1, h2, w1, w2]) | (refine guarded_split ?_ ?_ <;> (intro hg; simp only [hg]; simp [-cellOK, pr_cells, pr_fold, h1, h2, w1, w2])) | (apply awp_cond_t; focus (simp [-cellOK, pr_cells, pr_fold, h1, h2, w1, w2]; done)) | (apply awp_cond_f; focus (simp [-cellOK, pr_cells, pr_fold, h1, h2, w1, w2]; done)) | (refine awp_cond ?_; simp [-cellOK, pr_cells, pr_fold, h1, h2, w1, w2]; refine ⟨?_, ?_⟩ <;> intro hc) | fail)
      · cases lr with
        | nil => simp only [Tr.ht] at h2; omega
        | node a mk mv b =>
          have x1 := a.sz_nn
          have x2 := b.sz_nn
          have hz2 : (Tr.node a mk mv b).sz = 1 + a.sz + b.sz := rfl
          have m1 := made_calls ll lk lv a (by omega)
          have m2 := made_calls b k v r (by omega)
          have m3 := made_calls (.node ll lk lv a) mk mv (.node b k v r) (by simp only [Tr.sz]; omega)
          have e : Tr.even (.node ll lk lv (.node a mk mv b)) k v r = .node (.node ll lk lv a) mk mv (.node b k v r) := by simp only [Tr.even, if_pos h1, if_neg h2]
          rw [e]
          have hm := av_node a mk mv b
          obtain ⟨H2, hH2⟩ : ∃ H, (Tr.node a mk mv b).ht = H := ⟨_, rfl⟩
          obtain ⟨Z2, hZ2⟩ : ∃ Z, (Tr.node a mk mv b).sz = Z := ⟨_, rfl⟩
          rw [hH, hZ] at hl ⊢
          rw [hH] at h1 w2
          rw [hH2] at h2
          rw [hH2, hZ2] at hm
          rw [hH2, hm] at g2
          rw [hm] at hl ⊢
          refine pbody Tryz.func208 rfl (N := 139) rfl rfl (by simp) (by simp [noIds]) fun σ => ?_
          generalize Tr.node (.node ll lk lv a) mk mv (.node b k v r) = T at m3 ⊢
          generalize Tr.node ll lk lv a = U at m1 m3
          generalize Tr.node b k v r = V at m2 m3
          (try ((first | with_reducible refine dops_go ?_ | with_reducible refine OKv_go ?_ | with_reducible refine OKr_go ?_); simp [-cellOK, pr_cells, pr_fold, h1, h2, w1, w2])); repeat' (first | refine awp_seq ?_ | refine awp_block ?_ | (refine awp_skip ?_; try simp) | (refine awp_exit ?_; try simp) | (refine awp_ret ?_; try simp) | (refine retP_same (by simp) ?_; simp) | (refine retP_no (by simp) (by simp [noIds]) (by repeat (first | assumption | exact Ext.refl _ | refine ext_new' ?_ | refine Ext.setF ?_ (by first | assumption | (simp [new_nx', St.set, fresh_none]; done) | exact ext_fresh (by assumption)))) ?_; simp [-cellOK, pr_cells, pr_fold, h1, h2, w1, w2, new_m, set_m, new_nx']) | ((first | refine awp_reg ?_ | refine awp_drawT (fun _ => false) mixed (by decide +kernel) ?_ | refine awp_drawT isCallO mixed (by decide +kernel) ?_ | refine PCalls.use (hl) ?_ | refine Or.inl ⟨_, Or.inl (hl), ?_⟩ | refine PCalls.use (hr) ?_ | refine Or.inl ⟨_, Or.inl (hr), ?_⟩ | refine PCalls.use (g1) ?_ | refine Or.inl ⟨_, Or.inl (g1), ?_⟩ | refine PCalls.use (g2) ?_ | refine Or.inl ⟨_, Or.inl (g2), ?_⟩ | refine PCalls.use (m1) ?_ | refine Or.inl ⟨_, Or.inl (m1), ?_⟩ | refine PCalls.use (m2) ?_ | refine Or.inl ⟨_, Or.inl (m2), ?_⟩ | refine PCalls.use (m3) ?_ | refine Or.inl ⟨_, Or.inl (m3), ?_⟩); simp [-cellOK, pr_cells, pr_fold, h1, h2, w1, w2]) | (refine guarded_split ?_ ?_ <;> (intro hg; simp only [hg]; simp [-cellOK, pr_cells, pr_fold, h1, h2, w1, w2])) | (apply awp_cond_t; focus (simp [-cellOK, pr_cells, pr_fold, h1, h2, w1, w2]; done)) | (apply awp_cond_f; focus (simp [-cellOK, pr_cells, pr_fold, h1, h2, w1, w2]; done)) | (refine awp_cond ?_; simp [-cellOK, pr_cells, pr_fold, h1, h2, w1, w2]; refine ⟨?_, ?_⟩ <;> intro hc) | fail)
  · by_cases h3 : l.ht + 1 < r.ht
    · cases r with
      | nil => simp only [Tr.ht] at h3; omega
      | node rl rk rv rr =>
        have y1 := rl.sz_nn
        have y2 := rr.sz_nn
        have y3 := rl.ht_nn
        have y4 := rr.ht_nn
        have hz : (Tr.node rl rk rv rr).sz = 1 + rl.sz + rr.sz := rfl
        have g1 := high_calls rl
        have g2 := high_calls rr
        rw [av_node] at hr ⊢
        obtain ⟨H, hH⟩ : ∃ H, (Tr.node rl rk rv rr).ht = H := ⟨_, rfl⟩
        obtain ⟨Z, hZ⟩ : ∃ Z, (Tr.node rl rk rv rr).sz = Z := ⟨_, rfl⟩
        by_cases h2 : rl.ht ≤ rr.ht
        · have m1 := made_calls l k v rl (by omega)
          have m2 := made_calls (.node l k v rl) rk rv rr (by simp only [Tr.sz]; omega)
          have e : Tr.even l k v (.node rl rk rv rr) = .node (.node l k v rl) rk rv rr := by simp only [Tr.even, if_neg h1, if_pos h3, if_pos h2]
          rw [e]
          rw [hH] at h1 h3 w1
          rw [hH, hZ] at hr ⊢
          refine pbody Tryz.func208 rfl (N := 139) rfl rfl (by simp) (by simp [noIds]) fun σ => ?_
          generalize Tr.node (.node l k v rl) rk rv rr = T at m2 ⊢
          generalize Tr.node l k v rl = U at m1 m2
          (try ((first | with_reducible refine dops_go ?_ | with_reducible refine OKv_go ?_ | with_reducible refine OKr_go ?_); simp [-cellOK, pr_cells, pr_fold, h1, h2, h3, w1, w2])); repeat' (first | refine awp_seq ?_ | refine awp_block ?_ | (refine awp_skip ?_; try simp) | (refine awp_exit ?_; try simp) | (refine awp_ret ?_; try simp) | (refine retP_same (by simp) ?_; simp) | (refine retP_no (by simp) (by simp [noIds]) (by repeat (first | assumption | exact Ext.refl _ | refine ext_new' ?_ | refine Ext.setF ?_ (by first | assumption | (simp [new_nx', St.set, fresh_none]; done) | exact ext_fresh (by assumption)))) ?_; simp [-cellOK, pr_cells, pr_fold, h1, h2, h3, w1, w2, new_m, set_m, new_nx']) | ((first | refine awp_reg ?_ | refine awp_drawT (fun _ => false) mixed (by decide +kernel) ?_ | refine awp_drawT isCallO mixed (by decide +kernel) ?_ | refine PCalls.use (hl) ?_ | refine Or.inl ⟨_, Or.inl (hl), ?_⟩ | refine PCalls.use (hr) ?_ | refine Or.inl ⟨_, Or.inl (hr), ?_⟩ | refine PCalls.use (g1) ?_ | refine Or.inl ⟨_, Or.inl (g1), ?_⟩ | refine PCalls.use (g2) ?_ | refine Or.inl ⟨_, Or.inl (g2), ?_⟩ | refine PCalls.use (m1) ?_ | refine Or.inl ⟨_, Or.inl (m1), ?_⟩ | refine PCalls.use (m2) ?_ | refine Or.inl ⟨_, Or.inl (m2), ?_⟩); simp [-cellOK, pr_cells, pr_fold, h1, h2, h3, w1, w2]) | (refine guarded_split ?_ ?_ <;> (intro hg; simp only [hg]; simp [-cellOK, pr_cells, pr_fold, h1, h2, h3, w1, w2])) | (apply awp_cond_t; focus (simp [-cellOK, pr_cells, pr_fold, h1, h2, h3, w1, w2]; done)) | (apply awp_cond_f; focus (simp [-cellOK, pr_cells, pr_fold, h1, h2, h3, w1, w2]; done)) | (refine awp_cond ?_; simp [-cellOK, pr_cells, pr_fold, h1, h2, h3, w1, w2]; refine ⟨?_, ?_⟩ <;> intro hc) | fail)
        · cases rl with
          | nil => simp only [Tr.ht] at h2; omega
          | node a mk mv b =>
            have x1 := a.sz_nn
            have x2 := b.sz_nn
            have hz2 : (Tr.node a mk mv b).sz = 1 + a.sz + b.sz := rfl
            have m1 := made_calls l k v a (by omega)
            have m2 := made_calls b rk rv rr (by omega)
            have m3 := made_calls (.node l k v a) mk mv (.node b rk rv rr) (by simp only [Tr.sz]; omega)
            have e : Tr.even l k v (.node (.node a mk mv b) rk rv rr) = .node (.node l k v a) mk mv (.node b rk rv rr) := by simp only [Tr.even, if_neg h1, if_pos h3, if_neg h2]
            rw [e]
            have hm := av_node a mk mv b
            obtain ⟨H2, hH2⟩ : ∃ H, (Tr.node a mk mv b).ht = H := ⟨_, rfl⟩
            obtain ⟨Z2, hZ2⟩ : ∃ Z, (Tr.node a mk mv b).sz = Z := ⟨_, rfl⟩
            rw [hH, hZ] at hr ⊢
            rw [hH] at h1 h3 w1
            rw [hH2] at h2
            rw [hH2, hZ2] at hm
            rw [hH2, hm] at g1
            rw [hm] at hr ⊢
            refine pbody Tryz.func208 rfl (N := 139) rfl rfl (by simp) (by simp [noIds]) fun σ => ?_
            generalize Tr.node (.node l k v a) mk mv (.node b rk rv rr) = T at m3 ⊢
            generalize Tr.node l k v a = U at m1 m3
            generalize Tr.node b rk rv rr = V at m2 m3
            (try ((first | with_reducible refine dops_go ?_ | with_reducible refine OKv_go ?_ | with_reducible refine OKr_go ?_); simp [-cellOK, pr_cells, pr_fold, h1, h2, h3, w1, w2])); repeat' (first | refine awp_seq ?_ | refine awp_block ?_ | (refine awp_skip ?_; try simp) | (refine awp_exit ?_; try simp) | (refine awp_ret ?_; try simp) | (refine retP_same (by simp) ?_; simp) | (refine retP_no (by simp) (by simp [noIds]) (by repeat (first | assumption | exact Ext.refl _ | refine ext_new' ?_ | refine Ext.setF ?_ (by first | assumption | (simp [new_nx', St.set, fresh_none]; done) | exact ext_fresh (by assumption)))) ?_; simp [-cellOK, pr_cells, pr_fold, h1, h2, h3, w1, w2, new_m, set_m, new_nx']) | ((first | refine awp_reg ?_ | refine awp_drawT (fun _ => false) mixed (by decide +kernel) ?_ | refine awp_drawT isCallO mixed (by decide +kernel) ?_ | refine PCalls.use (hl) ?_ | refine Or.inl ⟨_, Or.inl (hl), ?_⟩ | refine PCalls.use (hr) ?_ | refine Or.inl ⟨_, Or.inl (hr), ?_⟩ | refine PCalls.use (g1) ?_ | refine Or.inl ⟨_, Or.inl (g1), ?_⟩ | refine PCalls.use (g2) ?_ | refine Or.inl ⟨_, Or.inl (g2), ?_⟩ | refine PCalls.use (m1) ?_ | refine Or.inl ⟨_, Or.inl (m1), ?_⟩ | refine PCalls.use (m2) ?_ | refine Or.inl ⟨_, Or.inl (m2), ?_⟩ | refine PCalls.use (m3) ?_ | refine Or.inl ⟨_, Or.inl (m3), ?_⟩); simp [-cellOK, pr_cells, pr_fold, h1, h2, h3, w1, w2]) | (refine guarded_split ?_ ?_ <;> (intro hg; simp only [hg]; simp [-cellOK, pr_cells, pr_fold, h1, h2, h3, w1, w2])) | (apply awp_cond_t; focus (simp [-cellOK, pr_cells, pr_fold, h1, h2, h3, w1, w2]; done)) | (apply awp_cond_f; focus (simp [-cellOK, pr_cells, pr_fold, h1, h2, h3, w1, w2]; done)) | (refine awp_cond ?_; simp [-cellOK, pr_cells, pr_fold, h1, h2, h3, w1, w2]; refine ⟨?_, ?_⟩ <;> intro hc) | fail)
    · have m1 := made_calls l k v r (by omega)
      have e : Tr.even l k v r = .node l k v r := by simp only [Tr.even, if_neg h1, if_neg h3]
      rw [e]
      refine pbody Tryz.func208 rfl (N := 139) rfl rfl (by simp) (by simp [noIds]) fun σ => ?_
      generalize Tr.node l k v r = T at m1 ⊢
      (try ((first | with_reducible refine dops_go ?_ | with_reducible refine OKv_go ?_ | with_reducible refine OKr_go ?_); simp [-cellOK, pr_cells, pr_fold, h1, h3, w1, w2])); repeat' (first | refine awp_seq ?_ | refine awp_block ?_ | (refine awp_skip ?_; try simp) | (refine awp_exit ?_; try simp) | (refine awp_ret ?_; try simp) | (refine retP_same (by simp) ?_; simp) | (refine retP_no (by simp) (by simp [noIds]) (by repeat (first | assumption | exact Ext.refl _ | refine ext_new' ?_ | refine Ext.setF ?_ (by first | assumption | (simp [new_nx', St.set, fresh_none]; done) | exact ext_fresh (by assumption)))) ?_; simp [-cellOK, pr_cells, pr_fold, h1, h3, w1, w2, new_m, set_m, new_nx']) | ((first | refine awp_reg ?_ | refine awp_drawT (fun _ => false) mixed (by decide +kernel) ?_ | refine awp_drawT isCallO mixed (by decide +kernel) ?_ | refine PCalls.use (hl) ?_ | refine Or.inl ⟨_, Or.inl (hl), ?_⟩ | refine PCalls.use (hr) ?_ | refine Or.inl ⟨_, Or.inl (hr), ?_⟩ | refine PCalls.use (m1) ?_ | refine Or.inl ⟨_, Or.inl (m1), ?_⟩); simp [-cellOK, pr_cells, pr_fold, h1, h3, w1, w2]) | (refine guarded_split ?_ ?_ <;> (intro hg; simp only [hg]; simp [-cellOK, pr_cells, pr_fold, h1, h3, w1, w2])) | (apply awp_cond_t; focus (simp [-cellOK, pr_cells, pr_fold, h1, h3, w1, w2]; done)) | (apply awp_cond_f; focus (simp [-cellOK, pr_cells, pr_fold, h1, h3, w1, w2]; done)) | (refine awp_cond ?_; simp [-cellOK, pr_cells, pr_fold, h1, h3, w1, w2]; refine ⟨?_, ?_⟩ <;> intro hc) | fail)

/-- A tree's pointer. -/
def trP (t : Tr) : AV := .pp [t.av] 0
@[simp] theorem trP_ids (K : Id → Prop) (t : Tr) : (trP t).ids K := by simp [trP, AV.ids]
@[simp] theorem trP_cells (t : Tr) : (trP t).cells = [trP t] := rfl
@[simp] theorem trP_ok (t : Tr) : cellOK (trP t) = true := rfl
@[simp] theorem trP_flat1 (t : Tr) : (trP t).flat1 = true := rfl
@[simp] theorem trP_giveUp (m m' : Mem) (t : Tr) : giveUp m' m (trP t) = trP t := rfl
theorem top_calls (t : Tr) : PCalls Tryz.prog 182 [trP t] t.av := by
  refine pbody Tryz.func182 rfl (N := 9) rfl rfl (by simp) (by simp [noIds]) fun σ => ?_
  (try ((first | with_reducible refine dops_go ?_ | with_reducible refine OKv_go ?_ | with_reducible refine OKr_go ?_); simp [-cellOK, trP])); repeat' (first | refine awp_seq ?_ | refine awp_block ?_ | (refine awp_skip ?_; try simp) | (refine awp_exit ?_; try simp) | (refine awp_ret ?_; try simp) | (refine retP_same (by simp) ?_; simp) | (refine retP_no (by simp) (by simp [noIds]) (by repeat (first | assumption | exact Ext.refl _ | refine ext_new' ?_ | refine Ext.setF ?_ (by first | assumption | (simp [new_nx', St.set, fresh_none]; done) | exact ext_fresh (by assumption)))) ?_; simp [-cellOK, trP, new_m, set_m, new_nx']) | ((first | refine awp_reg ?_ | refine awp_drawT (fun _ => false) mixed (by decide +kernel) ?_ | refine awp_drawT isCallO mixed (by decide +kernel) ?_); simp [-cellOK, trP]) | (refine guarded_split ?_ ?_ <;> (intro hg; simp only [hg]; simp [-cellOK, trP])) | (apply awp_cond_t; focus (simp [-cellOK, trP]; done)) | (apply awp_cond_f; focus (simp [-cellOK, trP]; done)) | (refine awp_cond ?_; simp [-cellOK, trP]; refine ⟨?_, ?_⟩ <;> intro hc) | fail)
theorem trLen_calls (t : Tr) : PCalls Tryz.prog 136 [trP t] (.raw (.int .i64 t.sz)) := by
  refine pbody Tryz.func136 rfl (N := 6) rfl rfl (by simp) (by simp [noIds]) fun σ => ?_
  (try ((first | with_reducible refine dops_go ?_ | with_reducible refine OKv_go ?_ | with_reducible refine OKr_go ?_); simp [-cellOK])); repeat' (first | refine awp_seq ?_ | refine awp_block ?_ | (refine awp_skip ?_; try simp) | (refine awp_exit ?_; try simp) | (refine awp_ret ?_; try simp) | (refine retP_same (by simp) ?_; simp) | (refine retP_no (by simp) (by simp [noIds]) (by repeat (first | assumption | exact Ext.refl _ | refine ext_new' ?_ | refine Ext.setF ?_ (by first | assumption | (simp [new_nx', St.set, fresh_none]; done) | exact ext_fresh (by assumption)))) ?_; simp [-cellOK, new_m, set_m, new_nx']) | ((first | refine awp_reg ?_ | refine awp_drawT (fun _ => false) mixed (by decide +kernel) ?_ | refine awp_drawT isCallO mixed (by decide +kernel) ?_ | refine PCalls.use (top_calls t) ?_ | refine Or.inl ⟨_, Or.inl (top_calls t), ?_⟩ | refine PCalls.use (size_calls t) ?_ | refine Or.inl ⟨_, Or.inl (size_calls t), ?_⟩); simp [-cellOK]) | (refine guarded_split ?_ ?_ <;> (intro hg; simp only [hg]; simp [-cellOK])) | (apply awp_cond_t; focus (simp [-cellOK]; done)) | (apply awp_cond_f; focus (simp [-cellOK]; done)) | (refine awp_cond ?_; simp [-cellOK]; refine ⟨?_, ?_⟩ <;> intro hc) | fail)
theorem trNew_calls : PCalls Tryz.prog 130 [] (trP .nil) := by
  refine pbody Tryz.func130 rfl (N := 3) rfl rfl (by simp) (by simp [noIds]) fun σ => ?_
  (try ((first | with_reducible refine dops_go ?_ | with_reducible refine OKv_go ?_ | with_reducible refine OKr_go ?_); simp [-cellOK])); repeat' (first | refine awp_seq ?_ | refine awp_block ?_ | (refine awp_skip ?_; try simp) | (refine awp_exit ?_; try simp) | (refine awp_ret ?_; try simp) | ((first | refine awp_reg ?_ | refine awp_drawT (fun _ => false) mixed (by decide +kernel) ?_ | refine awp_drawT isCallO mixed (by decide +kernel) ?_); simp [-cellOK]) | (refine guarded_split ?_ ?_ <;> (intro hg; simp only [hg]; simp [-cellOK])) | (apply awp_cond_t; focus (simp [-cellOK]; done)) | (apply awp_cond_f; focus (simp [-cellOK]; done)) | (refine awp_cond ?_; simp [-cellOK]; refine ⟨?_, ?_⟩ <;> intro hc) | fail)
  refine retP_give (x := .rp ⟨2, σ.nx 2, 1⟩ 0 0) (.inr rfl) (by repeat (first | assumption | exact Ext.refl _ | refine ext_new' ?_ | refine Ext.setF ?_ (by first | assumption | (simp [new_nx', St.set, fresh_none]; done) | exact ext_fresh (by assumption)))) ?_ ?_
  · simp [new_nx']
  · simp [giveUps, giveUp, fresh_none, new_m, new_nx', trP]
theorem trGet_calls (t : Tr) (k : Int) : PCalls Tryz.prog 181 [trP t, .raw (.int .u64 k)] (.tup [.raw (.int .i64 ((t.get k).getD 0)), .raw (.bool (t.get k).isSome)]) := by
  refine pbody Tryz.func181 rfl (N := 42) rfl rfl (by simp) (by simp [noIds]) fun σ => ?_
  obtain ⟨g, hg⟩ : ∃ g, t.get k = g := ⟨_, rfl⟩
  rw [hg]
  (try ((first | with_reducible refine dops_go ?_ | with_reducible refine OKv_go ?_ | with_reducible refine OKr_go ?_); simp [-cellOK])); repeat' (first | refine awp_seq ?_ | refine awp_block ?_ | (refine awp_skip ?_; try simp) | (refine awp_exit ?_; try simp) | (refine awp_ret ?_; try simp) | (refine retP_same (by simp) ?_; simp) | (refine retP_no (by simp) (by simp [noIds]) (by repeat (first | assumption | exact Ext.refl _ | refine ext_new' ?_ | refine Ext.setF ?_ (by first | assumption | (simp [new_nx', St.set, fresh_none]; done) | exact ext_fresh (by assumption)))) ?_; simp [-cellOK, new_m, set_m, new_nx']) | ((first | refine awp_reg ?_ | refine awp_drawT (fun _ => false) mixed (by decide +kernel) ?_ | refine awp_drawT isCallO mixed (by decide +kernel) ?_ | refine PCalls.use (top_calls t) ?_ | refine Or.inl ⟨_, Or.inl (top_calls t), ?_⟩); simp [-cellOK]) | (refine guarded_split ?_ ?_ <;> (intro hg; simp only [hg]; simp [-cellOK])) | (apply awp_cond_t; focus (simp [-cellOK]; done)) | (apply awp_cond_f; focus (simp [-cellOK]; done)) | (refine awp_cond ?_; simp [-cellOK]; refine ⟨?_, ?_⟩ <;> intro hc) | fail)
  refine awp_loopH (fun n A τ => τ = σ ∧ A 1 = .raw (.int .u64 k) ∧ A 6 = .raw (.int .i64 0) ∧ ∃ u : Tr, A 7 = u.av ∧ n = u.sz.toNat ∧ u.get k = g) t.sz.toNat ?_ ?_
  · exact ⟨rfl, by simp, by simp, t, by simp, rfl, hg⟩
  rintro n A τ ⟨rfl, a1, a6, u, a7, rfl, hu⟩ I1 hI1
  cases u with
  | nil =>
    have : g = none := by rw [← hu]; rfl
    subst this
    (try ((first | with_reducible refine dops_go ?_ | with_reducible refine OKv_go ?_ | with_reducible refine OKr_go ?_); simp [-cellOK, a1, a6, a7])); repeat' (first | refine awp_seq ?_ | refine awp_block ?_ | (refine awp_skip ?_; try simp) | (refine awp_exit ?_; try simp) | (refine awp_ret ?_; try simp) | (refine retP_same (by simp) ?_; simp) | (refine retP_no (by simp) (by simp [noIds]) (by repeat (first | assumption | exact Ext.refl _ | refine ext_new' ?_ | refine Ext.setF ?_ (by first | assumption | (simp [new_nx', St.set, fresh_none]; done) | exact ext_fresh (by assumption)))) ?_; simp [-cellOK, a1, a6, a7, new_m, set_m, new_nx']) | ((first | refine awp_reg ?_ | refine awp_drawT (fun _ => false) mixed (by decide +kernel) ?_ | refine awp_drawT isCallO mixed (by decide +kernel) ?_); simp [-cellOK, a1, a6, a7]) | (refine guarded_split ?_ ?_ <;> (intro hg; simp only [hg]; simp [-cellOK, a1, a6, a7])) | (apply awp_cond_t; focus (simp [-cellOK, a1, a6, a7]; done)) | (apply awp_cond_f; focus (simp [-cellOK, a1, a6, a7]; done)) | (refine awp_cond ?_; simp [-cellOK, a1, a6, a7]; refine ⟨?_, ?_⟩ <;> intro hc) | fail)
  | node l k' v' r =>
    have y1 := l.sz_nn
    have y2 := r.sz_nn
    have hz : (Tr.node l k' v' r).sz = 1 + l.sz + r.sz := rfl
    rw [av_node] at a7
    simp only [Tr.get] at hu
    by_cases h1 : k < k'
    · rw [if_pos h1] at hu
      (try ((first | with_reducible refine dops_go ?_ | with_reducible refine OKv_go ?_ | with_reducible refine OKr_go ?_); simp [-cellOK, a1, a6, a7, h1])); repeat' (first | refine awp_seq ?_ | refine awp_block ?_ | (refine awp_skip ?_; try simp) | (refine awp_exit ?_; try simp) | (refine awp_ret ?_; try simp) | (refine retP_same (by simp) ?_; simp) | (refine retP_no (by simp) (by simp [noIds]) (by repeat (first | assumption | exact Ext.refl _ | refine ext_new' ?_ | refine Ext.setF ?_ (by first | assumption | (simp [new_nx', St.set, fresh_none]; done) | exact ext_fresh (by assumption)))) ?_; simp [-cellOK, a1, a6, a7, h1, new_m, set_m, new_nx']) | ((first | refine awp_reg ?_ | refine awp_drawT (fun _ => false) mixed (by decide +kernel) ?_ | refine awp_drawT isCallO mixed (by decide +kernel) ?_); simp [-cellOK, a1, a6, a7, h1]) | (refine guarded_split ?_ ?_ <;> (intro hg; simp only [hg]; simp [-cellOK, a1, a6, a7, h1])) | (apply awp_cond_t; focus (simp [-cellOK, a1, a6, a7, h1]; done)) | (apply awp_cond_f; focus (simp [-cellOK, a1, a6, a7, h1]; done)) | (refine awp_cond ?_; simp [-cellOK, a1, a6, a7, h1]; refine ⟨?_, ?_⟩ <;> intro hc) | fail)
      exact hI1 _ _ _ (by omega) ⟨rfl, by simp [a1], by simp [a6], l, by simp, rfl, hu⟩
    · rw [if_neg h1] at hu
      by_cases h2 : k' < k
      · rw [if_pos h2] at hu
        (try ((first | with_reducible refine dops_go ?_ | with_reducible refine OKv_go ?_ | with_reducible refine OKr_go ?_); simp [-cellOK, a1, a6, a7, h1, h2])); repeat' (first | refine awp_seq ?_ | refine awp_block ?_ | (refine awp_skip ?_; try simp) | (refine awp_exit ?_; try simp) | (refine awp_ret ?_; try simp) | (refine retP_same (by simp) ?_; simp) | (refine retP_no (by simp) (by simp [noIds]) (by repeat (first | assumption | exact Ext.refl _ | refine ext_new' ?_ | refine Ext.setF ?_ (by first | assumption | (simp [new_nx', St.set, fresh_none]; done) | exact ext_fresh (by assumption)))) ?_; simp [-cellOK, a1, a6, a7, h1, h2, new_m, set_m, new_nx']) | ((first | refine awp_reg ?_ | refine awp_drawT (fun _ => false) mixed (by decide +kernel) ?_ | refine awp_drawT isCallO mixed (by decide +kernel) ?_); simp [-cellOK, a1, a6, a7, h1, h2]) | (refine guarded_split ?_ ?_ <;> (intro hg; simp only [hg]; simp [-cellOK, a1, a6, a7, h1, h2])) | (apply awp_cond_t; focus (simp [-cellOK, a1, a6, a7, h1, h2]; done)) | (apply awp_cond_f; focus (simp [-cellOK, a1, a6, a7, h1, h2]; done)) | (refine awp_cond ?_; simp [-cellOK, a1, a6, a7, h1, h2]; refine ⟨?_, ?_⟩ <;> intro hc) | fail)
        exact hI1 _ _ _ (by omega) ⟨rfl, by simp [a1], by simp [a6], r, by simp, rfl, hu⟩
      · rw [if_neg h2] at hu
        subst hu
        (try ((first | with_reducible refine dops_go ?_ | with_reducible refine OKv_go ?_ | with_reducible refine OKr_go ?_); simp [-cellOK, a1, a6, a7, h1, h2])); repeat' (first | refine awp_seq ?_ | refine awp_block ?_ | (refine awp_skip ?_; try simp) | (refine awp_exit ?_; try simp) | (refine awp_ret ?_; try simp) | (refine retP_same (by simp) ?_; simp) | (refine retP_no (by simp) (by simp [noIds]) (by repeat (first | assumption | exact Ext.refl _ | refine ext_new' ?_ | refine Ext.setF ?_ (by first | assumption | (simp [new_nx', St.set, fresh_none]; done) | exact ext_fresh (by assumption)))) ?_; simp [-cellOK, a1, a6, a7, h1, h2, new_m, set_m, new_nx']) | ((first | refine awp_reg ?_ | refine awp_drawT (fun _ => false) mixed (by decide +kernel) ?_ | refine awp_drawT isCallO mixed (by decide +kernel) ?_); simp [-cellOK, a1, a6, a7, h1, h2]) | (refine guarded_split ?_ ?_ <;> (intro hg; simp only [hg]; simp [-cellOK, a1, a6, a7, h1, h2])) | (apply awp_cond_t; focus (simp [-cellOK, a1, a6, a7, h1, h2]; done)) | (apply awp_cond_f; focus (simp [-cellOK, a1, a6, a7, h1, h2]; done)) | (refine awp_cond ?_; simp [-cellOK, a1, a6, a7, h1, h2]; refine ⟨?_, ?_⟩ <;> intro hc) | fail)
theorem Tr.with_sz (t : Tr) (k v : Int) : (t.with_ k v).sz ≤ t.sz + 1 := by
  induction t with
  | nil => simp [Tr.with_, Tr.sz]
  | node l k' v' r ihl ihr =>
    simp only [Tr.with_]
    split
    · rw [Tr.even_sz]; simp only [Tr.sz]; omega
    · split
      · rw [Tr.even_sz]; simp only [Tr.sz]; omega
      · simp only [Tr.sz]; omega
theorem trWith_calls (k v : Int) : ∀ t : Tr, t.sz < 2 ^ 48 → PCalls Tryz.prog 183 [t.av, prAV k v] (t.with_ k v).av
  | .nil, _ => by
    have m := made_calls .nil k v .nil (by simp [Tr.sz])
    rw [av_nil] at m
    have e : Tr.with_ .nil k v = .node .nil k v .nil := rfl
    rw [e]
    refine pbody Tryz.func183 rfl (N := 68) rfl rfl (by simp) (by simp [noIds]) fun σ => ?_
    generalize Tr.node .nil k v .nil = T at m ⊢
    (try ((first | with_reducible refine dops_go ?_ | with_reducible refine OKv_go ?_ | with_reducible refine OKr_go ?_); simp [-cellOK, pr_cells, pr_fold])); repeat' (first | refine awp_seq ?_ | refine awp_block ?_ | (refine awp_skip ?_; try simp) | (refine awp_exit ?_; try simp) | (refine awp_ret ?_; try simp) | (refine retP_same (by simp) ?_; simp) | (refine retP_no (by simp) (by simp [noIds]) (by repeat (first | assumption | exact Ext.refl _ | refine ext_new' ?_ | refine Ext.setF ?_ (by first | assumption | (simp [new_nx', St.set, fresh_none]; done) | exact ext_fresh (by assumption)))) ?_; simp [-cellOK, pr_cells, pr_fold, new_m, set_m, new_nx']) | ((first | refine awp_reg ?_ | refine awp_drawT (fun _ => false) mixed (by decide +kernel) ?_ | refine awp_drawT isCallO mixed (by decide +kernel) ?_ | refine PCalls.use (m) ?_ | refine Or.inl ⟨_, Or.inl (m), ?_⟩); simp [-cellOK, pr_cells, pr_fold]) | (refine guarded_split ?_ ?_ <;> (intro hg; simp only [hg]; simp [-cellOK, pr_cells, pr_fold])) | (apply awp_cond_t; focus (simp [-cellOK, pr_cells, pr_fold]; done)) | (apply awp_cond_f; focus (simp [-cellOK, pr_cells, pr_fold]; done)) | (refine awp_cond ?_; simp [-cellOK, pr_cells, pr_fold]; refine ⟨?_, ?_⟩ <;> intro hc) | fail)
  | .node l k' v' r, h => by
    have y1 := l.sz_nn
    have y2 := r.sz_nn
    have hz : (Tr.node l k' v' r).sz = 1 + l.sz + r.sz := rfl
    have q1 := l.with_sz k v
    have q2 := r.with_sz k v
    rw [av_node]
    obtain ⟨H, hH⟩ : ∃ H, (Tr.node l k' v' r).ht = H := ⟨_, rfl⟩
    obtain ⟨Z, hZ⟩ : ∃ Z, (Tr.node l k' v' r).sz = Z := ⟨_, rfl⟩
    rw [hH, hZ]
    by_cases h1 : k < k'
    · have e : Tr.with_ (.node l k' v' r) k v = Tr.even (l.with_ k v) k' v' r := by simp only [Tr.with_, if_pos h1]
      have i1 := trWith_calls k v l (by omega)
      have m := even_calls (l.with_ k v) k' v' r (by omega)
      rw [e]
      refine pbody Tryz.func183 rfl (N := 68) rfl rfl (by simp) (by simp [noIds]) fun σ => ?_
      generalize Tr.even (l.with_ k v) k' v' r = T at m ⊢
      generalize l.with_ k v = U at i1 m
      (try ((first | with_reducible refine dops_go ?_ | with_reducible refine OKv_go ?_ | with_reducible refine OKr_go ?_); simp [-cellOK, pr_cells, pr_fold, h1])); repeat' (first | refine awp_seq ?_ | refine awp_block ?_ | (refine awp_skip ?_; try simp) | (refine awp_exit ?_; try simp) | (refine awp_ret ?_; try simp) | (refine retP_same (by simp) ?_; simp) | (refine retP_no (by simp) (by simp [noIds]) (by repeat (first | assumption | exact Ext.refl _ | refine ext_new' ?_ | refine Ext.setF ?_ (by first | assumption | (simp [new_nx', St.set, fresh_none]; done) | exact ext_fresh (by assumption)))) ?_; simp [-cellOK, pr_cells, pr_fold, h1, new_m, set_m, new_nx']) | ((first | refine awp_reg ?_ | refine awp_drawT (fun _ => false) mixed (by decide +kernel) ?_ | refine awp_drawT isCallO mixed (by decide +kernel) ?_ | refine PCalls.use (i1) ?_ | refine Or.inl ⟨_, Or.inl (i1), ?_⟩ | refine PCalls.use (m) ?_ | refine Or.inl ⟨_, Or.inl (m), ?_⟩); simp [-cellOK, pr_cells, pr_fold, h1]) | (refine guarded_split ?_ ?_ <;> (intro hg; simp only [hg]; simp [-cellOK, pr_cells, pr_fold, h1])) | (apply awp_cond_t; focus (simp [-cellOK, pr_cells, pr_fold, h1]; done)) | (apply awp_cond_f; focus (simp [-cellOK, pr_cells, pr_fold, h1]; done)) | (refine awp_cond ?_; simp [-cellOK, pr_cells, pr_fold, h1]; refine ⟨?_, ?_⟩ <;> intro hc) | fail)
    · by_cases h2 : k' < k
      · have e : Tr.with_ (.node l k' v' r) k v = Tr.even l k' v' (r.with_ k v) := by simp only [Tr.with_, if_neg h1, if_pos h2]
        have i1 := trWith_calls k v r (by omega)
        have m := even_calls l k' v' (r.with_ k v) (by omega)
        rw [e]
        refine pbody Tryz.func183 rfl (N := 68) rfl rfl (by simp) (by simp [noIds]) fun σ => ?_
        generalize Tr.even l k' v' (r.with_ k v) = T at m ⊢
        generalize r.with_ k v = U at i1 m
        (try ((first | with_reducible refine dops_go ?_ | with_reducible refine OKv_go ?_ | with_reducible refine OKr_go ?_); simp [-cellOK, pr_cells, pr_fold, h1, h2])); repeat' (first | refine awp_seq ?_ | refine awp_block ?_ | (refine awp_skip ?_; try simp) | (refine awp_exit ?_; try simp) | (refine awp_ret ?_; try simp) | (refine retP_same (by simp) ?_; simp) | (refine retP_no (by simp) (by simp [noIds]) (by repeat (first | assumption | exact Ext.refl _ | refine ext_new' ?_ | refine Ext.setF ?_ (by first | assumption | (simp [new_nx', St.set, fresh_none]; done) | exact ext_fresh (by assumption)))) ?_; simp [-cellOK, pr_cells, pr_fold, h1, h2, new_m, set_m, new_nx']) | ((first | refine awp_reg ?_ | refine awp_drawT (fun _ => false) mixed (by decide +kernel) ?_ | refine awp_drawT isCallO mixed (by decide +kernel) ?_ | refine PCalls.use (i1) ?_ | refine Or.inl ⟨_, Or.inl (i1), ?_⟩ | refine PCalls.use (m) ?_ | refine Or.inl ⟨_, Or.inl (m), ?_⟩); simp [-cellOK, pr_cells, pr_fold, h1, h2]) | (refine guarded_split ?_ ?_ <;> (intro hg; simp only [hg]; simp [-cellOK, pr_cells, pr_fold, h1, h2])) | (apply awp_cond_t; focus (simp [-cellOK, pr_cells, pr_fold, h1, h2]; done)) | (apply awp_cond_f; focus (simp [-cellOK, pr_cells, pr_fold, h1, h2]; done)) | (refine awp_cond ?_; simp [-cellOK, pr_cells, pr_fold, h1, h2]; refine ⟨?_, ?_⟩ <;> intro hc) | fail)
      · have e : Tr.with_ (.node l k' v' r) k v = .node l k v r := by simp only [Tr.with_, if_neg h1, if_neg h2]
        have m := made_calls l k v r (by omega)
        rw [e]
        refine pbody Tryz.func183 rfl (N := 68) rfl rfl (by simp) (by simp [noIds]) fun σ => ?_
        generalize Tr.node l k v r = T at m ⊢
        (try ((first | with_reducible refine dops_go ?_ | with_reducible refine OKv_go ?_ | with_reducible refine OKr_go ?_); simp [-cellOK, pr_cells, pr_fold, h1, h2])); repeat' (first | refine awp_seq ?_ | refine awp_block ?_ | (refine awp_skip ?_; try simp) | (refine awp_exit ?_; try simp) | (refine awp_ret ?_; try simp) | (refine retP_same (by simp) ?_; simp) | (refine retP_no (by simp) (by simp [noIds]) (by repeat (first | assumption | exact Ext.refl _ | refine ext_new' ?_ | refine Ext.setF ?_ (by first | assumption | (simp [new_nx', St.set, fresh_none]; done) | exact ext_fresh (by assumption)))) ?_; simp [-cellOK, pr_cells, pr_fold, h1, h2, new_m, set_m, new_nx']) | ((first | refine awp_reg ?_ | refine awp_drawT (fun _ => false) mixed (by decide +kernel) ?_ | refine awp_drawT isCallO mixed (by decide +kernel) ?_ | refine PCalls.use (m) ?_ | refine Or.inl ⟨_, Or.inl (m), ?_⟩); simp [-cellOK, pr_cells, pr_fold, h1, h2]) | (refine guarded_split ?_ ?_ <;> (intro hg; simp only [hg]; simp [-cellOK, pr_cells, pr_fold, h1, h2])) | (apply awp_cond_t; focus (simp [-cellOK, pr_cells, pr_fold, h1, h2]; done)) | (apply awp_cond_f; focus (simp [-cellOK, pr_cells, pr_fold, h1, h2]; done)) | (refine awp_cond ?_; simp [-cellOK, pr_cells, pr_fold, h1, h2]; refine ⟨?_, ?_⟩ <;> intro hc) | fail)
theorem trPut_calls (t : Tr) (k v : Int) (h : t.sz < 2 ^ 48) (hf : t.get k = none → t.sz < 1024) : PCalls Tryz.prog 131 [trP t, .raw (.int .u64 k), .raw (.int .i64 v)] (.tup [trP (t.with_ k v), .raw (.int .i64 0)]) := by
  have hg := trGet_calls t k
  have hw := trWith_calls k v t h
  generalize t.with_ k v = U at hw ⊢
  refine pbody Tryz.func131 rfl (N := 31) rfl rfl (by simp) (by simp [noIds]) fun σ => ?_
  cases hq : t.get k with
  | none =>
    have hlt := hf hq
    have hle : ¬ (1024 : Int) ≤ t.sz := by omega
    rw [hq] at hg
    (try ((first | with_reducible refine dops_go ?_ | with_reducible refine OKv_go ?_ | with_reducible refine OKr_go ?_); simp [-cellOK, pr_fold, hle])); repeat' (first | refine awp_seq ?_ | refine awp_block ?_ | (refine awp_skip ?_; try simp) | (refine awp_exit ?_; try simp) | (refine awp_ret ?_; try simp) | ((first | refine awp_reg ?_ | refine awp_drawT (fun _ => false) mixed (by decide +kernel) ?_ | refine awp_drawT isCallO mixed (by decide +kernel) ?_ | refine PCalls.use (hg) ?_ | refine Or.inl ⟨_, Or.inl (hg), ?_⟩ | refine PCalls.use (trLen_calls t) ?_ | refine Or.inl ⟨_, Or.inl (trLen_calls t), ?_⟩ | refine PCalls.use (top_calls t) ?_ | refine Or.inl ⟨_, Or.inl (top_calls t), ?_⟩ | refine PCalls.use (hw) ?_ | refine Or.inl ⟨_, Or.inl (hw), ?_⟩); simp [-cellOK, pr_fold, hle]) | (refine guarded_split ?_ ?_ <;> (intro hg; simp only [hg]; simp [-cellOK, pr_fold, hle])) | (apply awp_cond_t; focus (simp [-cellOK, pr_fold, hle]; done)) | (apply awp_cond_f; focus (simp [-cellOK, pr_fold, hle]; done)) | (refine awp_cond ?_; simp [-cellOK, pr_fold, hle]; refine ⟨?_, ?_⟩ <;> intro hc) | fail)
    refine retP_give (x := .tup [.rp ⟨30, σ.nx 30, 1⟩ 0 0, .raw (.int .i64 0)]) (.inr rfl) (by repeat (first | assumption | exact Ext.refl _ | refine ext_new' ?_ | refine Ext.setF ?_ (by first | assumption | (simp [new_nx', St.set, fresh_none]; done) | exact ext_fresh (by assumption)))) ?_ ?_
    · simp [new_nx']
    · simp [giveUps, giveUp, fresh_none, new_m, new_nx', trP]
  | some x =>
    rw [hq] at hg
    (try ((first | with_reducible refine dops_go ?_ | with_reducible refine OKv_go ?_ | with_reducible refine OKr_go ?_); simp [-cellOK, pr_fold])); repeat' (first | refine awp_seq ?_ | refine awp_block ?_ | (refine awp_skip ?_; try simp) | (refine awp_exit ?_; try simp) | (refine awp_ret ?_; try simp) | ((first | refine awp_reg ?_ | refine awp_drawT (fun _ => false) mixed (by decide +kernel) ?_ | refine awp_drawT isCallO mixed (by decide +kernel) ?_ | refine PCalls.use (hg) ?_ | refine Or.inl ⟨_, Or.inl (hg), ?_⟩ | refine PCalls.use (trLen_calls t) ?_ | refine Or.inl ⟨_, Or.inl (trLen_calls t), ?_⟩ | refine PCalls.use (top_calls t) ?_ | refine Or.inl ⟨_, Or.inl (top_calls t), ?_⟩ | refine PCalls.use (hw) ?_ | refine Or.inl ⟨_, Or.inl (hw), ?_⟩); simp [-cellOK, pr_fold]) | (refine guarded_split ?_ ?_ <;> (intro hg; simp only [hg]; simp [-cellOK, pr_fold])) | (apply awp_cond_t; focus (simp [-cellOK, pr_fold]; done)) | (apply awp_cond_f; focus (simp [-cellOK, pr_fold]; done)) | (refine awp_cond ?_; simp [-cellOK, pr_fold]; refine ⟨?_, ?_⟩ <;> intro hc) | fail)
    refine retP_give (x := .tup [.rp ⟨30, σ.nx 30, 1⟩ 0 0, .raw (.int .i64 0)]) (.inr rfl) (by repeat (first | assumption | exact Ext.refl _ | refine ext_new' ?_ | refine Ext.setF ?_ (by first | assumption | (simp [new_nx', St.set, fresh_none]; done) | exact ext_fresh (by assumption)))) ?_ ?_
    · simp [new_nx']
    · simp [giveUps, giveUp, fresh_none, new_m, new_nx', trP]
end Go.Proofs.YtanimmdlgmkmkaaGreat.Av


/- Trees: the i-th pair; joining and cutting. -/
namespace Go.Proofs.YtanimmdlgmkmkaaGreat.Av
open Go
set_option linter.unusedSimpArgs false
set_option linter.unusedVariables false
set_option maxRecDepth 100000
set_option maxHeartbeats 4000000
set_option pp.maxSteps 600

/-- The i-th pair, of any i. -/
def Tr.atI (t : Tr) (i : Int) : Option (Int × Int) := if 0 ≤ i then t.at_ i else none
theorem Tr.at_some (t : Tr) (i : Int) (h0 : 0 ≤ i) (h : i < t.sz) : ∃ p, t.at_ i = some p := by
  rw [Tr.at_eq t i h0]
  have := t.sz_toL
  have hlt : i.toNat < t.toL.length := by omega
  exact ⟨_, List.getElem?_eq_getElem hlt⟩
theorem Tr.at_none (t : Tr) (i : Int) (h : t.sz ≤ i) : t.at_ i = none := by
  have := t.sz_nn
  rw [Tr.at_eq t i (by omega)]
  have := t.sz_toL
  exact List.getElem?_eq_none (by omega)
theorem pr_putO (k v : Int) : setPart (AV.agg [.raw (.int .u64 0), .raw (.int .i64 0)]) 0 [.raw (.int .u64 k), .raw (.int .i64 v)] = prAV k v := rfl
theorem trAt_calls (t : Tr) (i : Int) (hz : t.sz < 2 ^ 48) : PCalls Tryz.prog 156 [trP t, .raw (.int .i64 i)] (.tup [prAV ((t.atI i).getD (0, 0)).1 ((t.atI i).getD (0, 0)).2, .raw (.bool (t.atI i).isSome)]) := by
  have zn := t.sz_nn
  refine pbody Tryz.func156 rfl (N := 52) rfl rfl (by simp) (by simp [noIds, prAV]) fun σ => ?_
  have f4 : σ.m ⟨4, σ.nx 4, 2⟩ = none := fresh_none _ _ _
  by_cases h0 : i < 0
  · have e : t.atI i = none := by unfold Tr.atI; rw [if_neg (by omega)]
    rw [e]
    (try ((first | with_reducible refine dops_go ?_ | with_reducible refine OKv_go ?_ | with_reducible refine OKr_go ?_); simp [-cellOK, pr_cells, pr_fold, pr_putO, pr_put, h0])); repeat' (first | refine awp_seq ?_ | refine awp_block ?_ | (refine awp_skip ?_; try simp) | (refine awp_exit ?_; try simp) | (refine awp_ret ?_; try simp) | (refine retP_same (by simp) ?_; simp) | (refine retP_no (by simp) (by simp [noIds]) (by repeat (first | assumption | exact Ext.refl _ | refine ext_new' ?_ | refine Ext.setF ?_ (by first | assumption | (simp [new_nx', St.set, fresh_none]; done) | exact ext_fresh (by assumption)))) ?_; simp [-cellOK, pr_cells, pr_fold, pr_putO, pr_put, h0, new_m, set_m, new_nx']) | ((first | refine awp_reg ?_ | refine awp_drawT (fun _ => false) mixed (by decide +kernel) ?_ | refine awp_drawT isCallO mixed (by decide +kernel) ?_ | refine PCalls.use (trLen_calls t) ?_ | refine Or.inl ⟨_, Or.inl (trLen_calls t), ?_⟩ | refine PCalls.use (top_calls t) ?_ | refine Or.inl ⟨_, Or.inl (top_calls t), ?_⟩); simp [-cellOK, pr_cells, pr_fold, pr_putO, pr_put, h0]) | (refine guarded_split ?_ ?_ <;> (intro hg; simp only [hg]; simp [-cellOK, pr_cells, pr_fold, pr_putO, pr_put, h0])) | (apply awp_cond_t; focus (simp [-cellOK, pr_cells, pr_fold, pr_putO, pr_put, h0]; done)) | (apply awp_cond_f; focus (simp [-cellOK, pr_cells, pr_fold, pr_putO, pr_put, h0]; done)) | (refine awp_cond ?_; simp [-cellOK, pr_cells, pr_fold, pr_putO, pr_put, h0]; refine ⟨?_, ?_⟩ <;> intro hc) | fail)
  · by_cases h1 : t.sz ≤ i
    · have e : t.atI i = none := by unfold Tr.atI; rw [if_pos (by omega), Tr.at_none t i h1]
      rw [e]
      (try ((first | with_reducible refine dops_go ?_ | with_reducible refine OKv_go ?_ | with_reducible refine OKr_go ?_); simp [-cellOK, pr_cells, pr_fold, pr_putO, pr_put, h0, h1])); repeat' (first | refine awp_seq ?_ | refine awp_block ?_ | (refine awp_skip ?_; try simp) | (refine awp_exit ?_; try simp) | (refine awp_ret ?_; try simp) | (refine retP_same (by simp) ?_; simp) | (refine retP_no (by simp) (by simp [noIds]) (by repeat (first | assumption | exact Ext.refl _ | refine ext_new' ?_ | refine Ext.setF ?_ (by first | assumption | (simp [new_nx', St.set, fresh_none]; done) | exact ext_fresh (by assumption)))) ?_; simp [-cellOK, pr_cells, pr_fold, pr_putO, pr_put, h0, h1, new_m, set_m, new_nx']) | ((first | refine awp_reg ?_ | refine awp_drawT (fun _ => false) mixed (by decide +kernel) ?_ | refine awp_drawT isCallO mixed (by decide +kernel) ?_ | refine PCalls.use (trLen_calls t) ?_ | refine Or.inl ⟨_, Or.inl (trLen_calls t), ?_⟩ | refine PCalls.use (top_calls t) ?_ | refine Or.inl ⟨_, Or.inl (top_calls t), ?_⟩); simp [-cellOK, pr_cells, pr_fold, pr_putO, pr_put, h0, h1]) | (refine guarded_split ?_ ?_ <;> (intro hg; simp only [hg]; simp [-cellOK, pr_cells, pr_fold, pr_putO, pr_put, h0, h1])) | (apply awp_cond_t; focus (simp [-cellOK, pr_cells, pr_fold, pr_putO, pr_put, h0, h1]; done)) | (apply awp_cond_f; focus (simp [-cellOK, pr_cells, pr_fold, pr_putO, pr_put, h0, h1]; done)) | (refine awp_cond ?_; simp [-cellOK, pr_cells, pr_fold, pr_putO, pr_put, h0, h1]; refine ⟨?_, ?_⟩ <;> intro hc) | fail)
    · obtain ⟨p, hp⟩ := t.at_some i (by omega) (by omega)
      have e : t.atI i = some p := by unfold Tr.atI; rw [if_pos (by omega), hp]
      rw [e]
      (try ((first | with_reducible refine dops_go ?_ | with_reducible refine OKv_go ?_ | with_reducible refine OKr_go ?_); simp [-cellOK, pr_cells, pr_fold, pr_putO, pr_put, h0, h1])); repeat' (first | refine awp_seq ?_ | refine awp_block ?_ | (refine awp_skip ?_; try simp) | (refine awp_exit ?_; try simp) | (refine awp_ret ?_; try simp) | (refine retP_same (by simp) ?_; simp) | (refine retP_no (by simp) (by simp [noIds]) (by repeat (first | assumption | exact Ext.refl _ | refine ext_new' ?_ | refine Ext.setF ?_ (by first | assumption | (simp [new_nx', St.set, fresh_none]; done) | exact ext_fresh (by assumption)))) ?_; simp [-cellOK, pr_cells, pr_fold, pr_putO, pr_put, h0, h1, new_m, set_m, new_nx']) | ((first | refine awp_reg ?_ | refine awp_drawT (fun _ => false) mixed (by decide +kernel) ?_ | refine awp_drawT isCallO mixed (by decide +kernel) ?_ | refine PCalls.use (trLen_calls t) ?_ | refine Or.inl ⟨_, Or.inl (trLen_calls t), ?_⟩ | refine PCalls.use (top_calls t) ?_ | refine Or.inl ⟨_, Or.inl (top_calls t), ?_⟩); simp [-cellOK, pr_cells, pr_fold, pr_putO, pr_put, h0, h1]) | (refine guarded_split ?_ ?_ <;> (intro hg; simp only [hg]; simp [-cellOK, pr_cells, pr_fold, pr_putO, pr_put, h0, h1])) | (apply awp_cond_t; focus (simp [-cellOK, pr_cells, pr_fold, pr_putO, pr_put, h0, h1]; done)) | (apply awp_cond_f; focus (simp [-cellOK, pr_cells, pr_fold, pr_putO, pr_put, h0, h1]; done)) | (refine awp_cond ?_; simp [-cellOK, pr_cells, pr_fold, pr_putO, pr_put, h0, h1]; refine ⟨?_, ?_⟩ <;> intro hc) | fail)
      refine awp_loopH (fun n A τ => τ = σ.new 4 2 (.buf [prAV 0 0]) ∧ A 4 = .rp ⟨4, σ.nx 4, 2⟩ 0 0 ∧ ∃ (u : Tr) (j : Int), A 1 = .raw (.int .i64 j) ∧ A 6 = u.av ∧ n = u.sz.toNat ∧ 0 ≤ j ∧ j < u.sz ∧ u.sz < 2 ^ 48 ∧ u.at_ j = some p) t.sz.toNat ?_ ?_
      · exact ⟨by simp [pr_fold], by simp, t, i, by simp, by simp, rfl, by omega, by omega, hz, hp⟩
      rintro n A τ ⟨rfl, a4, u, j, a1, a6, rfl, hj0, hj1, hus, hu⟩ I1 hI1
      cases u with
      | nil => simp only [Tr.sz] at hj1; omega
      | node l k v r =>
        have y1 := l.sz_nn
        have y2 := r.sz_nn
        have hsz : (Tr.node l k v r).sz = 1 + l.sz + r.sz := rfl
        rw [av_node] at a6
        simp only [Tr.at_] at hu
        have w1 : IntKind.i64.wrap (1 + l.sz) = 1 + l.sz := wrap64 (by omega) (by omega)
        have w2 : IntKind.i64.wrap (j - (1 + l.sz)) = j - (1 + l.sz) := wrap64 (by omega) (by omega)
        by_cases q1 : j < l.sz
        · rw [if_pos q1] at hu
          have q1' : ¬ j = l.sz := by omega
          (try ((first | with_reducible refine dops_go ?_ | with_reducible refine OKv_go ?_ | with_reducible refine OKr_go ?_); simp [-cellOK, a1, a4, a6, q1, q1'])); repeat' (first | refine awp_seq ?_ | refine awp_block ?_ | (refine awp_skip ?_; try simp) | (refine awp_exit ?_; try simp) | (refine awp_ret ?_; try simp) | (refine retP_same (by simp) ?_; simp) | (refine retP_no (by simp) (by simp [noIds]) (by repeat (first | assumption | exact Ext.refl _ | refine ext_new' ?_ | refine Ext.setF ?_ (by first | assumption | (simp [new_nx', St.set, fresh_none]; done) | exact ext_fresh (by assumption)))) ?_; simp [-cellOK, a1, a4, a6, q1, q1', new_m, set_m, new_nx']) | ((first | refine awp_reg ?_ | refine awp_drawT (fun _ => false) mixed (by decide +kernel) ?_ | refine awp_drawT isCallO mixed (by decide +kernel) ?_ | refine PCalls.use (size_calls l) ?_ | refine Or.inl ⟨_, Or.inl (size_calls l), ?_⟩); simp [-cellOK, a1, a4, a6, q1, q1']) | (refine guarded_split ?_ ?_ <;> (intro hg; simp only [hg]; simp [-cellOK, a1, a4, a6, q1, q1'])) | (apply awp_cond_t; focus (simp [-cellOK, a1, a4, a6, q1, q1']; done)) | (apply awp_cond_f; focus (simp [-cellOK, a1, a4, a6, q1, q1']; done)) | (refine awp_cond ?_; simp [-cellOK, a1, a4, a6, q1, q1']; refine ⟨?_, ?_⟩ <;> intro hc) | fail)
          exact hI1 _ _ _ (by omega) ⟨rfl, by simp [a4], l, j, by simp [a1], by simp, rfl, hj0, q1, by omega, hu⟩
        · rw [if_neg q1] at hu
          by_cases q2 : l.sz < j
          · rw [if_pos q2] at hu
            have q1' : ¬ j = l.sz := by omega
            (try ((first | with_reducible refine dops_go ?_ | with_reducible refine OKv_go ?_ | with_reducible refine OKr_go ?_); simp [-cellOK, a1, a4, a6, q1, q1', w1, w2])); repeat' (first | refine awp_seq ?_ | refine awp_block ?_ | (refine awp_skip ?_; try simp) | (refine awp_exit ?_; try simp) | (refine awp_ret ?_; try simp) | (refine retP_same (by simp) ?_; simp) | (refine retP_no (by simp) (by simp [noIds]) (by repeat (first | assumption | exact Ext.refl _ | refine ext_new' ?_ | refine Ext.setF ?_ (by first | assumption | (simp [new_nx', St.set, fresh_none]; done) | exact ext_fresh (by assumption)))) ?_; simp [-cellOK, a1, a4, a6, q1, q1', w1, w2, new_m, set_m, new_nx']) | ((first | refine awp_reg ?_ | refine awp_drawT (fun _ => false) mixed (by decide +kernel) ?_ | refine awp_drawT isCallO mixed (by decide +kernel) ?_ | refine PCalls.use (size_calls l) ?_ | refine Or.inl ⟨_, Or.inl (size_calls l), ?_⟩); simp [-cellOK, a1, a4, a6, q1, q1', w1, w2]) | (refine guarded_split ?_ ?_ <;> (intro hg; simp only [hg]; simp [-cellOK, a1, a4, a6, q1, q1', w1, w2])) | (apply awp_cond_t; focus (simp [-cellOK, a1, a4, a6, q1, q1', w1, w2]; done)) | (apply awp_cond_f; focus (simp [-cellOK, a1, a4, a6, q1, q1', w1, w2]; done)) | (refine awp_cond ?_; simp [-cellOK, a1, a4, a6, q1, q1', w1, w2]; refine ⟨?_, ?_⟩ <;> intro hc) | fail)
            exact hI1 _ _ _ (by omega) ⟨rfl, by simp [a4], r, j - (1 + l.sz), by simp, by simp, rfl, by omega, by omega, by omega, hu⟩
          · rw [if_neg q2] at hu
            have q1' : j = l.sz := by omega
            simp only [Option.some.injEq] at hu
            subst hu
            (try ((first | with_reducible refine dops_go ?_ | with_reducible refine OKv_go ?_ | with_reducible refine OKr_go ?_); simp [-cellOK, a1, a4, a6, q1', pr_cells, pr_fold, pr_put])); repeat' (first | refine awp_seq ?_ | refine awp_block ?_ | (refine awp_skip ?_; try simp) | (refine awp_exit ?_; try simp) | (refine awp_ret ?_; try simp) | (refine retP_same (by simp) ?_; simp) | (refine retP_no (by simp) (by simp [noIds]) (by repeat (first | assumption | exact Ext.refl _ | refine ext_new' ?_ | refine Ext.setF ?_ (by first | assumption | (simp [new_nx', St.set, fresh_none]; done) | exact ext_fresh (by assumption)))) ?_; simp [-cellOK, a1, a4, a6, q1', pr_cells, pr_fold, pr_put, new_m, set_m, new_nx']) | ((first | refine awp_reg ?_ | refine awp_drawT (fun _ => false) mixed (by decide +kernel) ?_ | refine awp_drawT isCallO mixed (by decide +kernel) ?_ | refine PCalls.use (size_calls l) ?_ | refine Or.inl ⟨_, Or.inl (size_calls l), ?_⟩); simp [-cellOK, a1, a4, a6, q1', pr_cells, pr_fold, pr_put]) | (refine guarded_split ?_ ?_ <;> (intro hg; simp only [hg]; simp [-cellOK, a1, a4, a6, q1', pr_cells, pr_fold, pr_put])) | (apply awp_cond_t; focus (simp [-cellOK, a1, a4, a6, q1', pr_cells, pr_fold, pr_put]; done)) | (apply awp_cond_f; focus (simp [-cellOK, a1, a4, a6, q1', pr_cells, pr_fold, pr_put]; done)) | (refine awp_cond ?_; simp [-cellOK, a1, a4, a6, q1', pr_cells, pr_fold, pr_put]; refine ⟨?_, ?_⟩ <;> intro hc) | fail)

theorem Tr.join_sz (l : Tr) (k v : Int) (r : Tr) : (Tr.join l k v r).sz = 1 + l.sz + r.sz := by
  rw [Tr.sz_toL, Tr.join_toL, Tr.sz_toL l, Tr.sz_toL r]
  simp only [List.length_append, List.length_cons]
  omega
theorem trJoin_calls (n : Nat) : ∀ (l : Tr) (k v : Int) (r : Tr), SizeOf.sizeOf l + SizeOf.sizeOf r < n → l.sz + r.sz < 2 ^ 48 → PCalls Tryz.prog 231 [l.av, prAV k v, r.av] (Tr.join l k v r).av := by
  induction n with
  | zero => intro l k v r h; omega
  | succ n ih =>
    intro l k v r hn h
    have z1 := l.ht_nn
    have z2 := r.ht_nn
    have z3 := l.sz_nn
    have z4 := r.sz_nn
    have z5 := l.ht_le
    have z6 := r.ht_le
    have w1 : IntKind.i64.wrap (r.ht + 1) = r.ht + 1 := wrap64 (by omega) (by omega)
    have w2 : IntKind.i64.wrap (l.ht + 1) = l.ht + 1 := wrap64 (by omega) (by omega)
    have hl := high_calls l
    have hr := high_calls r
    by_cases h1 : r.ht + 1 < l.ht
    · cases l with
      | nil => simp only [Tr.ht] at h1; omega
      | node ll lk lv lr =>
        have y1 := ll.sz_nn
        have y2 := lr.sz_nn
        have hz : (Tr.node ll lk lv lr).sz = 1 + ll.sz + lr.sz := rfl
        have i1 := ih lr k v r (by simp only [Tr.node.sizeOf_spec] at hn; omega) (by omega)
        have js := Tr.join_sz lr k v r
        have m := even_calls ll lk lv (Tr.join lr k v r) (by omega)
        have e : Tr.join (.node ll lk lv lr) k v r = Tr.even ll lk lv (Tr.join lr k v r) := by rw [Tr.join.eq_def]; simp only [if_pos h1]
        rw [e]
        rw [av_node] at hl ⊢
        obtain ⟨H, hH⟩ : ∃ H, (Tr.node ll lk lv lr).ht = H := ⟨_, rfl⟩
        obtain ⟨Z, hZ⟩ : ∃ Z, (Tr.node ll lk lv lr).sz = Z := ⟨_, rfl⟩
        rw [hH, hZ] at hl ⊢
        rw [hH] at h1 w2
        refine pbody Tryz.func231 rfl (N := 57) rfl rfl (by simp) (by simp [noIds]) fun σ => ?_
        generalize Tr.even ll lk lv (Tr.join lr k v r) = T at m ⊢
        generalize Tr.join lr k v r = U at i1 m
        (try ((first | with_reducible refine dops_go ?_ | with_reducible refine OKv_go ?_ | with_reducible refine OKr_go ?_); simp [-cellOK, pr_cells, pr_fold, h1, w1, w2])); repeat' (first | refine awp_seq ?_ | refine awp_block ?_ | (refine awp_skip ?_; try simp) | (refine awp_exit ?_; try simp) | (refine awp_ret ?_; try simp) | (refine retP_same (by simp) ?_; simp) | (refine retP_no (by simp) (by simp [noIds]) (by repeat (first | assumption | exact Ext.refl _ | refine ext_new' ?_ | refine Ext.setF ?_ (by first | assumption | (simp [new_nx', St.set, fresh_none]; done) | exact ext_fresh (by assumption)))) ?_; simp [-cellOK, pr_cells, pr_fold, h1, w1, w2, new_m, set_m, new_nx']) | ((first | refine awp_reg ?_ | refine awp_drawT (fun _ => false) mixed (by decide +kernel) ?_ | refine awp_drawT isCallO mixed (by decide +kernel) ?_ | refine PCalls.use (hl) ?_ | refine Or.inl ⟨_, Or.inl (hl), ?_⟩ | refine PCalls.use (hr) ?_ | refine Or.inl ⟨_, Or.inl (hr), ?_⟩ | refine PCalls.use (i1) ?_ | refine Or.inl ⟨_, Or.inl (i1), ?_⟩ | refine PCalls.use (m) ?_ | refine Or.inl ⟨_, Or.inl (m), ?_⟩); simp [-cellOK, pr_cells, pr_fold, h1, w1, w2]) | (refine guarded_split ?_ ?_ <;> (intro hg; simp only [hg]; simp [-cellOK, pr_cells, pr_fold, h1, w1, w2])) | (apply awp_cond_t; focus (simp [-cellOK, pr_cells, pr_fold, h1, w1, w2]; done)) | (apply awp_cond_f; focus (simp [-cellOK, pr_cells, pr_fold, h1, w1, w2]; done)) | (refine awp_cond ?_; simp [-cellOK, pr_cells, pr_fold, h1, w1, w2]; refine ⟨?_, ?_⟩ <;> intro hc) | fail)
    · by_cases h3 : l.ht + 1 < r.ht
      · cases r with
        | nil => simp only [Tr.ht] at h3; omega
        | node rl rk rv rr =>
          have y1 := rl.sz_nn
          have y2 := rr.sz_nn
          have hz : (Tr.node rl rk rv rr).sz = 1 + rl.sz + rr.sz := rfl
          have i1 := ih l k v rl (by simp only [Tr.node.sizeOf_spec] at hn; omega) (by omega)
          have js := Tr.join_sz l k v rl
          have m := even_calls (Tr.join l k v rl) rk rv rr (by omega)
          have e : Tr.join l k v (.node rl rk rv rr) = Tr.even (Tr.join l k v rl) rk rv rr := by rw [Tr.join.eq_def]; simp only [if_neg h1, if_pos h3]
          rw [e]
          rw [av_node] at hr ⊢
          obtain ⟨H, hH⟩ : ∃ H, (Tr.node rl rk rv rr).ht = H := ⟨_, rfl⟩
          obtain ⟨Z, hZ⟩ : ∃ Z, (Tr.node rl rk rv rr).sz = Z := ⟨_, rfl⟩
          rw [hH, hZ] at hr ⊢
          rw [hH] at h1 h3 w1
          refine pbody Tryz.func231 rfl (N := 57) rfl rfl (by simp) (by simp [noIds]) fun σ => ?_
          generalize Tr.even (Tr.join l k v rl) rk rv rr = T at m ⊢
          generalize Tr.join l k v rl = U at i1 m
          (try ((first | with_reducible refine dops_go ?_ | with_reducible refine OKv_go ?_ | with_reducible refine OKr_go ?_); simp [-cellOK, pr_cells, pr_fold, h1, h3, w1, w2])); repeat' (first | refine awp_seq ?_ | refine awp_block ?_ | (refine awp_skip ?_; try simp) | (refine awp_exit ?_; try simp) | (refine awp_ret ?_; try simp) | (refine retP_same (by simp) ?_; simp) | (refine retP_no (by simp) (by simp [noIds]) (by repeat (first | assumption | exact Ext.refl _ | refine ext_new' ?_ | refine Ext.setF ?_ (by first | assumption | (simp [new_nx', St.set, fresh_none]; done) | exact ext_fresh (by assumption)))) ?_; simp [-cellOK, pr_cells, pr_fold, h1, h3, w1, w2, new_m, set_m, new_nx']) | ((first | refine awp_reg ?_ | refine awp_drawT (fun _ => false) mixed (by decide +kernel) ?_ | refine awp_drawT isCallO mixed (by decide +kernel) ?_ | refine PCalls.use (hl) ?_ | refine Or.inl ⟨_, Or.inl (hl), ?_⟩ | refine PCalls.use (hr) ?_ | refine Or.inl ⟨_, Or.inl (hr), ?_⟩ | refine PCalls.use (i1) ?_ | refine Or.inl ⟨_, Or.inl (i1), ?_⟩ | refine PCalls.use (m) ?_ | refine Or.inl ⟨_, Or.inl (m), ?_⟩); simp [-cellOK, pr_cells, pr_fold, h1, h3, w1, w2]) | (refine guarded_split ?_ ?_ <;> (intro hg; simp only [hg]; simp [-cellOK, pr_cells, pr_fold, h1, h3, w1, w2])) | (apply awp_cond_t; focus (simp [-cellOK, pr_cells, pr_fold, h1, h3, w1, w2]; done)) | (apply awp_cond_f; focus (simp [-cellOK, pr_cells, pr_fold, h1, h3, w1, w2]; done)) | (refine awp_cond ?_; simp [-cellOK, pr_cells, pr_fold, h1, h3, w1, w2]; refine ⟨?_, ?_⟩ <;> intro hc) | fail)
      · have m := made_calls l k v r (by omega)
        have e : Tr.join l k v r = .node l k v r := by rw [Tr.join.eq_def, if_neg h1, if_neg h3]
        rw [e]
        refine pbody Tryz.func231 rfl (N := 57) rfl rfl (by simp) (by simp [noIds]) fun σ => ?_
        generalize Tr.node l k v r = T at m ⊢
        (try ((first | with_reducible refine dops_go ?_ | with_reducible refine OKv_go ?_ | with_reducible refine OKr_go ?_); simp [-cellOK, pr_cells, pr_fold, h1, h3, w1, w2])); repeat' (first | refine awp_seq ?_ | refine awp_block ?_ | (refine awp_skip ?_; try simp) | (refine awp_exit ?_; try simp) | (refine awp_ret ?_; try simp) | (refine retP_same (by simp) ?_; simp) | (refine retP_no (by simp) (by simp [noIds]) (by repeat (first | assumption | exact Ext.refl _ | refine ext_new' ?_ | refine Ext.setF ?_ (by first | assumption | (simp [new_nx', St.set, fresh_none]; done) | exact ext_fresh (by assumption)))) ?_; simp [-cellOK, pr_cells, pr_fold, h1, h3, w1, w2, new_m, set_m, new_nx']) | ((first | refine awp_reg ?_ | refine awp_drawT (fun _ => false) mixed (by decide +kernel) ?_ | refine awp_drawT isCallO mixed (by decide +kernel) ?_ | refine PCalls.use (hl) ?_ | refine Or.inl ⟨_, Or.inl (hl), ?_⟩ | refine PCalls.use (hr) ?_ | refine Or.inl ⟨_, Or.inl (hr), ?_⟩ | refine PCalls.use (m) ?_ | refine Or.inl ⟨_, Or.inl (m), ?_⟩); simp [-cellOK, pr_cells, pr_fold, h1, h3, w1, w2]) | (refine guarded_split ?_ ?_ <;> (intro hg; simp only [hg]; simp [-cellOK, pr_cells, pr_fold, h1, h3, w1, w2])) | (apply awp_cond_t; focus (simp [-cellOK, pr_cells, pr_fold, h1, h3, w1, w2]; done)) | (apply awp_cond_f; focus (simp [-cellOK, pr_cells, pr_fold, h1, h3, w1, w2]; done)) | (refine awp_cond ?_; simp [-cellOK, pr_cells, pr_fold, h1, h3, w1, w2]; refine ⟨?_, ?_⟩ <;> intro hc) | fail)
theorem Tr.cut_sz (b : Int) : ∀ t : Tr, (t.cut b).1.sz + (t.cut b).2.sz = t.sz
  | nil => by simp [Tr.cut, Tr.sz]
  | node l k v r => by
    have h1 := Tr.cut_sz b l
    have h2 := Tr.cut_sz b r
    simp only [Tr.cut]
    split
    · simp only [Tr.join_sz, Tr.sz]; omega
    · simp only [Tr.join_sz, Tr.sz]; omega
theorem trCut_calls (b : Int) : ∀ t : Tr, t.sz < 2 ^ 48 → PCalls Tryz.prog 214 [t.av, .raw (.int .u64 b)] (.tup [(t.cut b).1.av, (t.cut b).2.av])
  | .nil, _ => by
    refine pbody Tryz.func214 rfl (N := 59) rfl rfl (by simp) (by simp [noIds]) fun σ => ?_
    have e : Tr.nil.cut b = (.nil, .nil) := rfl
    rw [e]
    (try ((first | with_reducible refine dops_go ?_ | with_reducible refine OKv_go ?_ | with_reducible refine OKr_go ?_); simp [-cellOK])); repeat' (first | refine awp_seq ?_ | refine awp_block ?_ | (refine awp_skip ?_; try simp) | (refine awp_exit ?_; try simp) | (refine awp_ret ?_; try simp) | (refine retP_same (by simp) ?_; simp) | (refine retP_no (by simp) (by simp [noIds]) (by repeat (first | assumption | exact Ext.refl _ | refine ext_new' ?_ | refine Ext.setF ?_ (by first | assumption | (simp [new_nx', St.set, fresh_none]; done) | exact ext_fresh (by assumption)))) ?_; simp [-cellOK, new_m, set_m, new_nx']) | ((first | refine awp_reg ?_ | refine awp_drawT (fun _ => false) mixed (by decide +kernel) ?_ | refine awp_drawT isCallO mixed (by decide +kernel) ?_); simp [-cellOK]) | (refine guarded_split ?_ ?_ <;> (intro hg; simp only [hg]; simp [-cellOK])) | (apply awp_cond_t; focus (simp [-cellOK]; done)) | (apply awp_cond_f; focus (simp [-cellOK]; done)) | (refine awp_cond ?_; simp [-cellOK]; refine ⟨?_, ?_⟩ <;> intro hc) | fail)
  | .node l k v r, h => by
    have y1 := l.sz_nn
    have y2 := r.sz_nn
    have hz : (Tr.node l k v r).sz = 1 + l.sz + r.sz := rfl
    rw [av_node]
    obtain ⟨H, hH⟩ : ∃ H, (Tr.node l k v r).ht = H := ⟨_, rfl⟩
    obtain ⟨Z, hZ⟩ : ∃ Z, (Tr.node l k v r).sz = Z := ⟨_, rfl⟩
    rw [hH, hZ]
    by_cases h1 : k < b
    · have i1 := trCut_calls b r (by omega)
      have cs := Tr.cut_sz b r
      have x1 := (r.cut b).1.sz_nn
      have x2 := (r.cut b).2.sz_nn
      have m := trJoin_calls _ l k v (r.cut b).1 (Nat.lt_succ_self _) (by omega)
      have e : Tr.cut (.node l k v r) b = (Tr.join l k v (r.cut b).1, (r.cut b).2) := by simp only [Tr.cut, if_pos h1]
      rw [e]
      refine pbody Tryz.func214 rfl (N := 59) rfl rfl (by simp) (by simp [noIds]) fun σ => ?_
      generalize Tr.join l k v (r.cut b).1 = T at m ⊢
      generalize (r.cut b).1 = U at i1 m
      generalize (r.cut b).2 = V at i1 ⊢
      (try ((first | with_reducible refine dops_go ?_ | with_reducible refine OKv_go ?_ | with_reducible refine OKr_go ?_); simp [-cellOK, pr_cells, pr_fold, h1])); repeat' (first | refine awp_seq ?_ | refine awp_block ?_ | (refine awp_skip ?_; try simp) | (refine awp_exit ?_; try simp) | (refine awp_ret ?_; try simp) | (refine retP_same (by simp) ?_; simp) | (refine retP_no (by simp) (by simp [noIds]) (by repeat (first | assumption | exact Ext.refl _ | refine ext_new' ?_ | refine Ext.setF ?_ (by first | assumption | (simp [new_nx', St.set, fresh_none]; done) | exact ext_fresh (by assumption)))) ?_; simp [-cellOK, pr_cells, pr_fold, h1, new_m, set_m, new_nx']) | ((first | refine awp_reg ?_ | refine awp_drawT (fun _ => false) mixed (by decide +kernel) ?_ | refine awp_drawT isCallO mixed (by decide +kernel) ?_ | refine PCalls.use (i1) ?_ | refine Or.inl ⟨_, Or.inl (i1), ?_⟩ | refine PCalls.use (m) ?_ | refine Or.inl ⟨_, Or.inl (m), ?_⟩); simp [-cellOK, pr_cells, pr_fold, h1]) | (refine guarded_split ?_ ?_ <;> (intro hg; simp only [hg]; simp [-cellOK, pr_cells, pr_fold, h1])) | (apply awp_cond_t; focus (simp [-cellOK, pr_cells, pr_fold, h1]; done)) | (apply awp_cond_f; focus (simp [-cellOK, pr_cells, pr_fold, h1]; done)) | (refine awp_cond ?_; simp [-cellOK, pr_cells, pr_fold, h1]; refine ⟨?_, ?_⟩ <;> intro hc) | fail)
    · have i1 := trCut_calls b l (by omega)
      have cs := Tr.cut_sz b l
      have x1 := (l.cut b).1.sz_nn
      have x2 := (l.cut b).2.sz_nn
      have m := trJoin_calls _ (l.cut b).2 k v r (Nat.lt_succ_self _) (by omega)
      have e : Tr.cut (.node l k v r) b = ((l.cut b).1, Tr.join (l.cut b).2 k v r) := by simp only [Tr.cut, if_neg h1]
      rw [e]
      refine pbody Tryz.func214 rfl (N := 59) rfl rfl (by simp) (by simp [noIds]) fun σ => ?_
      generalize Tr.join (l.cut b).2 k v r = T at m ⊢
      generalize (l.cut b).2 = U at i1 m
      generalize (l.cut b).1 = V at i1 ⊢
      (try ((first | with_reducible refine dops_go ?_ | with_reducible refine OKv_go ?_ | with_reducible refine OKr_go ?_); simp [-cellOK, pr_cells, pr_fold, h1])); repeat' (first | refine awp_seq ?_ | refine awp_block ?_ | (refine awp_skip ?_; try simp) | (refine awp_exit ?_; try simp) | (refine awp_ret ?_; try simp) | (refine retP_same (by simp) ?_; simp) | (refine retP_no (by simp) (by simp [noIds]) (by repeat (first | assumption | exact Ext.refl _ | refine ext_new' ?_ | refine Ext.setF ?_ (by first | assumption | (simp [new_nx', St.set, fresh_none]; done) | exact ext_fresh (by assumption)))) ?_; simp [-cellOK, pr_cells, pr_fold, h1, new_m, set_m, new_nx']) | ((first | refine awp_reg ?_ | refine awp_drawT (fun _ => false) mixed (by decide +kernel) ?_ | refine awp_drawT isCallO mixed (by decide +kernel) ?_ | refine PCalls.use (i1) ?_ | refine Or.inl ⟨_, Or.inl (i1), ?_⟩ | refine PCalls.use (m) ?_ | refine Or.inl ⟨_, Or.inl (m), ?_⟩); simp [-cellOK, pr_cells, pr_fold, h1]) | (refine guarded_split ?_ ?_ <;> (intro hg; simp only [hg]; simp [-cellOK, pr_cells, pr_fold, h1])) | (apply awp_cond_t; focus (simp [-cellOK, pr_cells, pr_fold, h1]; done)) | (apply awp_cond_f; focus (simp [-cellOK, pr_cells, pr_fold, h1]; done)) | (refine awp_cond ?_; simp [-cellOK, pr_cells, pr_fold, h1]; refine ⟨?_, ?_⟩ <;> intro hc) | fail)
theorem trSplit_calls (t : Tr) (b : Int) (h : t.sz < 2 ^ 48) : PCalls Tryz.prog 199 [trP t, .raw (.int .u64 b)] (.tup [trP (t.cut b).1, trP (t.cut b).2]) := by
  have hc := trCut_calls b t h
  generalize (t.cut b).1 = U at hc ⊢
  generalize (t.cut b).2 = V at hc ⊢
  refine pbody Tryz.func199 rfl (N := 21) rfl rfl (by simp) (by simp [noIds]) fun σ => ?_
  (try ((first | with_reducible refine dops_go ?_ | with_reducible refine OKv_go ?_ | with_reducible refine OKr_go ?_); simp [-cellOK])); repeat' (first | refine awp_seq ?_ | refine awp_block ?_ | (refine awp_skip ?_; try simp) | (refine awp_exit ?_; try simp) | (refine awp_ret ?_; try simp) | ((first | refine awp_reg ?_ | refine awp_drawT (fun _ => false) mixed (by decide +kernel) ?_ | refine awp_drawT isCallO mixed (by decide +kernel) ?_ | refine PCalls.use (hc) ?_ | refine Or.inl ⟨_, Or.inl (hc), ?_⟩ | refine PCalls.use (top_calls t) ?_ | refine Or.inl ⟨_, Or.inl (top_calls t), ?_⟩); simp [-cellOK]) | (refine guarded_split ?_ ?_ <;> (intro hg; simp only [hg]; simp [-cellOK])) | (apply awp_cond_t; focus (simp [-cellOK]; done)) | (apply awp_cond_f; focus (simp [-cellOK]; done)) | (refine awp_cond ?_; simp [-cellOK]; refine ⟨?_, ?_⟩ <;> intro hc) | fail)
  refine retP_give (x := .tup [.rp ⟨17, σ.nx 17, 1⟩ 0 0, .rp ⟨20, σ.nx 20, 1⟩ 0 0]) (.inr rfl) (by repeat (first | assumption | exact Ext.refl _ | refine ext_new' ?_ | refine Ext.setF ?_ (by first | assumption | (simp [new_nx', St.set, fresh_none]; done) | exact ext_fresh (by assumption)))) ?_ ?_
  · simp [new_nx']
  · simp [giveUps, giveUp, fresh_none, new_m, new_nx', trP]
end Go.Proofs.YtanimmdlgmkmkaaGreat.Av


/- Trees: a key goes. -/
namespace Go.Proofs.YtanimmdlgmkmkaaGreat.Av
open Go
set_option linter.unusedSimpArgs false
set_option linter.unusedVariables false
set_option maxRecDepth 100000
set_option maxHeartbeats 4000000
set_option pp.maxSteps 600

theorem Tr.least_sz : ∀ t : Tr, t ≠ .nil → t.least.2.sz = t.sz - 1 := fun t h => by
  have := Tr.least_toL t h
  rw [Tr.sz_toL, Tr.sz_toL t, this]
  simp only [List.length_cons]; omega
theorem trLeast_calls : ∀ t : Tr, t ≠ .nil → t.sz < 2 ^ 48 → PCalls Tryz.prog 236 [t.av] (.tup [prAV t.least.1.1 t.least.1.2, t.least.2.av])
  | .nil, h, _ => absurd rfl h
  | .node .nil k v r, _, h => by
    have e : (Tr.node .nil k v r).least = ((k, v), r) := by simp only [Tr.least]
    rw [e, av_node]
    refine pbody Tryz.func236 rfl (N := 38) rfl rfl (by simp) (by simp [noIds]) fun σ => ?_
    have f2 : σ.m ⟨2, σ.nx 2, 2⟩ = none := fresh_none _ _ _
    (try ((first | with_reducible refine dops_go ?_ | with_reducible refine OKv_go ?_ | with_reducible refine OKr_go ?_); simp [-cellOK, pr_cells, pr_fold, pr_put, pr_putO])); repeat' (first | refine awp_seq ?_ | refine awp_block ?_ | (refine awp_skip ?_; try simp) | (refine awp_exit ?_; try simp) | (refine awp_ret ?_; try simp) | (refine retP_same (by simp) ?_; simp) | (refine retP_no (by simp) (by simp [noIds]) (by repeat (first | assumption | exact Ext.refl _ | refine ext_new' ?_ | refine Ext.setF ?_ (by first | assumption | (simp [new_nx', St.set, fresh_none]; done) | exact ext_fresh (by assumption)))) ?_; simp [-cellOK, pr_cells, pr_fold, pr_put, pr_putO, new_m, set_m, new_nx']) | ((first | refine awp_reg ?_ | refine awp_drawT (fun _ => false) mixed (by decide +kernel) ?_ | refine awp_drawT isCallO mixed (by decide +kernel) ?_); simp [-cellOK, pr_cells, pr_fold, pr_put, pr_putO]) | (refine guarded_split ?_ ?_ <;> (intro hg; simp only [hg]; simp [-cellOK, pr_cells, pr_fold, pr_put, pr_putO])) | (apply awp_cond_t; focus (simp [-cellOK, pr_cells, pr_fold, pr_put, pr_putO]; done)) | (apply awp_cond_f; focus (simp [-cellOK, pr_cells, pr_fold, pr_put, pr_putO]; done)) | (refine awp_cond ?_; simp [-cellOK, pr_cells, pr_fold, pr_put, pr_putO]; refine ⟨?_, ?_⟩ <;> intro hc) | fail)
    refine awp_drawT (lsO [14, 18]) mixed (by decide +kernel) ?_
    (try ((first | with_reducible refine dops_go ?_ | with_reducible refine OKv_go ?_ | with_reducible refine OKr_go ?_); simp [-cellOK, pr_cells, pr_fold, pr_put, pr_putO])); repeat' (first | refine awp_seq ?_ | refine awp_block ?_ | (refine awp_skip ?_; try simp) | (refine awp_exit ?_; try simp) | (refine awp_ret ?_; try simp) | (refine retP_same (by simp) ?_; simp) | (refine retP_no (by simp) (by simp [noIds]) (by repeat (first | assumption | exact Ext.refl _ | refine ext_new' ?_ | refine Ext.setF ?_ (by first | assumption | (simp [new_nx', St.set, fresh_none]; done) | exact ext_fresh (by assumption)))) ?_; simp [-cellOK, pr_cells, pr_fold, pr_put, pr_putO, new_m, set_m, new_nx']) | ((first | refine awp_reg ?_ | refine awp_drawT (fun _ => false) mixed (by decide +kernel) ?_ | refine awp_drawT isCallO mixed (by decide +kernel) ?_); simp [-cellOK, pr_cells, pr_fold, pr_put, pr_putO]) | (refine guarded_split ?_ ?_ <;> (intro hg; simp only [hg]; simp [-cellOK, pr_cells, pr_fold, pr_put, pr_putO])) | (apply awp_cond_t; focus (simp [-cellOK, pr_cells, pr_fold, pr_put, pr_putO]; done)) | (apply awp_cond_f; focus (simp [-cellOK, pr_cells, pr_fold, pr_put, pr_putO]; done)) | (refine awp_cond ?_; simp [-cellOK, pr_cells, pr_fold, pr_put, pr_putO]; refine ⟨?_, ?_⟩ <;> intro hc) | fail)
  | .node (.node a b c d) k v r, _, h => by
    have hz : (Tr.node (.node a b c d) k v r).sz = 1 + (Tr.node a b c d).sz + r.sz := rfl
    have y1 := (Tr.node a b c d).sz_nn
    have y2 := r.sz_nn
    have i1 := trLeast_calls (.node a b c d) (by simp) (by omega)
    have ls := Tr.least_sz (.node a b c d) (by simp)
    have m := even_calls (Tr.node a b c d).least.2 k v r (by omega)
    have e : (Tr.node (.node a b c d) k v r).least = ((Tr.node a b c d).least.1, Tr.even (Tr.node a b c d).least.2 k v r) := by simp only [Tr.least]
    rw [e, av_node]
    have hm := av_node a b c d
    generalize Tr.even (Tr.node a b c d).least.2 k v r = T at m ⊢
    generalize (Tr.node a b c d).least.2 = U at i1 m
    generalize (Tr.node a b c d).least.1 = q at i1 ⊢
    generalize (Tr.node (.node a b c d) k v r).ht = H
    generalize (Tr.node (.node a b c d) k v r).sz = Z
    generalize (Tr.node a b c d).ht = H2 at hm
    generalize (Tr.node a b c d).sz = Z2 at hm
    rw [hm] at i1 ⊢
    refine pbody Tryz.func236 rfl (N := 38) rfl rfl (by simp) (by simp [noIds]) fun σ => ?_
    have f2 : σ.m ⟨2, σ.nx 2, 2⟩ = none := fresh_none _ _ _
    (try ((first | with_reducible refine dops_go ?_ | with_reducible refine OKv_go ?_ | with_reducible refine OKr_go ?_); simp [-cellOK, pr_cells, pr_fold, pr_put, pr_putO, new_m, set_m, new_nx'])); repeat' (first | refine awp_seq ?_ | refine awp_block ?_ | (refine awp_skip ?_; try simp) | (refine awp_exit ?_; try simp) | (refine awp_ret ?_; try simp) | (refine retP_same (by simp) ?_; simp) | (refine retP_no (by simp) (by simp [noIds]) (by repeat (first | assumption | exact Ext.refl _ | refine ext_new' ?_ | refine Ext.setF ?_ (by first | assumption | (simp [new_nx', St.set, fresh_none]; done) | exact ext_fresh (by assumption)))) ?_; simp [-cellOK, pr_cells, pr_fold, pr_put, pr_putO, new_m, set_m, new_nx', new_m, set_m, new_nx']) | ((first | refine awp_reg ?_ | refine awp_drawT (fun _ => false) mixed (by decide +kernel) ?_ | refine awp_drawT isCallO mixed (by decide +kernel) ?_ | refine PCalls.use (i1) ?_ | refine Or.inl ⟨_, Or.inl (i1), ?_⟩ | refine PCalls.use (m) ?_ | refine Or.inl ⟨_, Or.inl (m), ?_⟩); simp [-cellOK, pr_cells, pr_fold, pr_put, pr_putO, new_m, set_m, new_nx']) | (refine guarded_split ?_ ?_ <;> (intro hg; simp only [hg]; simp [-cellOK, pr_cells, pr_fold, pr_put, pr_putO, new_m, set_m, new_nx'])) | (apply awp_cond_t; focus (simp [-cellOK, pr_cells, pr_fold, pr_put, pr_putO, new_m, set_m, new_nx']; done)) | (apply awp_cond_f; focus (simp [-cellOK, pr_cells, pr_fold, pr_put, pr_putO, new_m, set_m, new_nx']; done)) | (refine awp_cond ?_; simp [-cellOK, pr_cells, pr_fold, pr_put, pr_putO, new_m, set_m, new_nx']; refine ⟨?_, ?_⟩ <;> intro hc) | fail)
theorem Tr.without_sz (k : Int) : ∀ t : Tr, (t.without k).sz ≤ t.sz
  | .nil => by simp [Tr.without]
  | .node l k' v' r => by
    have h1 := Tr.without_sz k l
    have h2 := Tr.without_sz k r
    have y1 := l.sz_nn
    have y2 := r.sz_nn
    simp only [Tr.without]
    split
    · rw [Tr.even_sz]; simp only [Tr.sz]; omega
    · split
      · rw [Tr.even_sz]; simp only [Tr.sz]; omega
      · cases r with
        | nil => simp only [Tr.sz]; omega
        | node a b c d =>
          have := Tr.least_sz (.node a b c d) (by simp)
          simp only [Tr.even_sz, this]
          simp only [Tr.sz]; omega
theorem trWithout_calls (k : Int) : ∀ t : Tr, t.get k ≠ none → t.sz < 2 ^ 48 → PCalls Tryz.prog 220 [t.av, .raw (.int .u64 k)] (t.without k).av
  | .nil, h, _ => absurd rfl h
  | .node l k' v' r, hg, h => by
    have hz : (Tr.node l k' v' r).sz = 1 + l.sz + r.sz := rfl
    have y1 := l.sz_nn
    have y2 := r.sz_nn
    simp only [Tr.get] at hg
    by_cases h1 : k < k'
    · rw [if_pos h1] at hg
      have i1 := trWithout_calls k l hg (by omega)
      have ws := Tr.without_sz k l
      have m := even_calls (l.without k) k' v' r (by omega)
      have e : (Tr.node l k' v' r).without k = Tr.even (l.without k) k' v' r := by simp only [Tr.without, if_pos h1]
      rw [e, av_node]
      generalize Tr.even (l.without k) k' v' r = T at m ⊢
      generalize l.without k = U at i1 m
      generalize (Tr.node l k' v' r).ht = H
      generalize (Tr.node l k' v' r).sz = Z
      refine pbody Tryz.func220 rfl (N := 78) rfl rfl (by simp) (by simp [noIds]) fun σ => ?_
      (try ((first | with_reducible refine dops_go ?_ | with_reducible refine OKv_go ?_ | with_reducible refine OKr_go ?_); simp [-cellOK, pr_cells, pr_fold, h1])); repeat' (first | refine awp_seq ?_ | refine awp_block ?_ | (refine awp_skip ?_; try simp) | (refine awp_exit ?_; try simp) | (refine awp_ret ?_; try simp) | (refine retP_same (by simp) ?_; simp) | (refine retP_no (by simp) (by simp [noIds]) (by repeat (first | assumption | exact Ext.refl _ | refine ext_new' ?_ | refine Ext.setF ?_ (by first | assumption | (simp [new_nx', St.set, fresh_none]; done) | exact ext_fresh (by assumption)))) ?_; simp [-cellOK, pr_cells, pr_fold, h1, new_m, set_m, new_nx']) | ((first | refine awp_reg ?_ | refine awp_drawT (fun _ => false) mixed (by decide +kernel) ?_ | refine awp_drawT isCallO mixed (by decide +kernel) ?_ | refine PCalls.use (i1) ?_ | refine Or.inl ⟨_, Or.inl (i1), ?_⟩ | refine PCalls.use (m) ?_ | refine Or.inl ⟨_, Or.inl (m), ?_⟩); simp [-cellOK, pr_cells, pr_fold, h1]) | (refine guarded_split ?_ ?_ <;> (intro hg; simp only [hg]; simp [-cellOK, pr_cells, pr_fold, h1])) | (apply awp_cond_t; focus (simp [-cellOK, pr_cells, pr_fold, h1]; done)) | (apply awp_cond_f; focus (simp [-cellOK, pr_cells, pr_fold, h1]; done)) | (refine awp_cond ?_; simp [-cellOK, pr_cells, pr_fold, h1]; refine ⟨?_, ?_⟩ <;> intro hc) | fail)
    · rw [if_neg h1] at hg
      by_cases h2 : k' < k
      · rw [if_pos h2] at hg
        have i1 := trWithout_calls k r hg (by omega)
        have ws := Tr.without_sz k r
        have m := even_calls l k' v' (r.without k) (by omega)
        have e : (Tr.node l k' v' r).without k = Tr.even l k' v' (r.without k) := by simp only [Tr.without, if_neg h1, if_pos h2]
        rw [e, av_node]
        generalize Tr.even l k' v' (r.without k) = T at m ⊢
        generalize r.without k = U at i1 m
        generalize (Tr.node l k' v' r).ht = H
        generalize (Tr.node l k' v' r).sz = Z
        refine pbody Tryz.func220 rfl (N := 78) rfl rfl (by simp) (by simp [noIds]) fun σ => ?_
        (try ((first | with_reducible refine dops_go ?_ | with_reducible refine OKv_go ?_ | with_reducible refine OKr_go ?_); simp [-cellOK, pr_cells, pr_fold, h1, h2])); repeat' (first | refine awp_seq ?_ | refine awp_block ?_ | (refine awp_skip ?_; try simp) | (refine awp_exit ?_; try simp) | (refine awp_ret ?_; try simp) | (refine retP_same (by simp) ?_; simp) | (refine retP_no (by simp) (by simp [noIds]) (by repeat (first | assumption | exact Ext.refl _ | refine ext_new' ?_ | refine Ext.setF ?_ (by first | assumption | (simp [new_nx', St.set, fresh_none]; done) | exact ext_fresh (by assumption)))) ?_; simp [-cellOK, pr_cells, pr_fold, h1, h2, new_m, set_m, new_nx']) | ((first | refine awp_reg ?_ | refine awp_drawT (fun _ => false) mixed (by decide +kernel) ?_ | refine awp_drawT isCallO mixed (by decide +kernel) ?_ | refine PCalls.use (i1) ?_ | refine Or.inl ⟨_, Or.inl (i1), ?_⟩ | refine PCalls.use (m) ?_ | refine Or.inl ⟨_, Or.inl (m), ?_⟩); simp [-cellOK, pr_cells, pr_fold, h1, h2]) | (refine guarded_split ?_ ?_ <;> (intro hg; simp only [hg]; simp [-cellOK, pr_cells, pr_fold, h1, h2])) | (apply awp_cond_t; focus (simp [-cellOK, pr_cells, pr_fold, h1, h2]; done)) | (apply awp_cond_f; focus (simp [-cellOK, pr_cells, pr_fold, h1, h2]; done)) | (refine awp_cond ?_; simp [-cellOK, pr_cells, pr_fold, h1, h2]; refine ⟨?_, ?_⟩ <;> intro hc) | fail)
      · cases r with
        | nil =>
          have e : (Tr.node l k' v' .nil).without k = l := by simp only [Tr.without, if_neg h1, if_neg h2]
          rw [e, av_node]
          generalize (Tr.node l k' v' .nil).ht = H
          generalize (Tr.node l k' v' .nil).sz = Z
          refine pbody Tryz.func220 rfl (N := 78) rfl rfl (by simp) (by simp [noIds]) fun σ => ?_
          (try ((first | with_reducible refine dops_go ?_ | with_reducible refine OKv_go ?_ | with_reducible refine OKr_go ?_); simp [-cellOK, pr_cells, pr_fold, h1, h2])); repeat' (first | refine awp_seq ?_ | refine awp_block ?_ | (refine awp_skip ?_; try simp) | (refine awp_exit ?_; try simp) | (refine awp_ret ?_; try simp) | (refine retP_same (by simp) ?_; simp) | (refine retP_no (by simp) (by simp [noIds]) (by repeat (first | assumption | exact Ext.refl _ | refine ext_new' ?_ | refine Ext.setF ?_ (by first | assumption | (simp [new_nx', St.set, fresh_none]; done) | exact ext_fresh (by assumption)))) ?_; simp [-cellOK, pr_cells, pr_fold, h1, h2, new_m, set_m, new_nx']) | ((first | refine awp_reg ?_ | refine awp_drawT (fun _ => false) mixed (by decide +kernel) ?_ | refine awp_drawT isCallO mixed (by decide +kernel) ?_); simp [-cellOK, pr_cells, pr_fold, h1, h2]) | (refine guarded_split ?_ ?_ <;> (intro hg; simp only [hg]; simp [-cellOK, pr_cells, pr_fold, h1, h2])) | (apply awp_cond_t; focus (simp [-cellOK, pr_cells, pr_fold, h1, h2]; done)) | (apply awp_cond_f; focus (simp [-cellOK, pr_cells, pr_fold, h1, h2]; done)) | (refine awp_cond ?_; simp [-cellOK, pr_cells, pr_fold, h1, h2]; refine ⟨?_, ?_⟩ <;> intro hc) | fail)
        | node a b c d =>
          have i1 := trLeast_calls (.node a b c d) (by simp) (by omega)
          have ls := Tr.least_sz (.node a b c d) (by simp)
          have m := even_calls l (Tr.node a b c d).least.1.1 (Tr.node a b c d).least.1.2 (Tr.node a b c d).least.2 (by omega)
          have e : (Tr.node l k' v' (.node a b c d)).without k = Tr.even l (Tr.node a b c d).least.1.1 (Tr.node a b c d).least.1.2 (Tr.node a b c d).least.2 := by simp only [Tr.without, if_neg h1, if_neg h2]
          rw [e, av_node]
          have hm := av_node a b c d
          generalize Tr.even l (Tr.node a b c d).least.1.1 (Tr.node a b c d).least.1.2 (Tr.node a b c d).least.2 = T at m ⊢
          generalize (Tr.node a b c d).least.2 = U at i1 m
          generalize (Tr.node a b c d).least.1 = q at i1 m
          generalize (Tr.node l k' v' (.node a b c d)).ht = H
          generalize (Tr.node l k' v' (.node a b c d)).sz = Z
          generalize (Tr.node a b c d).ht = H2 at hm
          generalize (Tr.node a b c d).sz = Z2 at hm
          rw [hm] at i1 ⊢
          refine pbody Tryz.func220 rfl (N := 78) rfl rfl (by simp) (by simp [noIds]) fun σ => ?_
          (try ((first | with_reducible refine dops_go ?_ | with_reducible refine OKv_go ?_ | with_reducible refine OKr_go ?_); simp [-cellOK, pr_cells, pr_fold, pr_put, pr_putO, h1, h2, new_m, set_m, new_nx'])); repeat' (first | refine awp_seq ?_ | refine awp_block ?_ | (refine awp_skip ?_; try simp) | (refine awp_exit ?_; try simp) | (refine awp_ret ?_; try simp) | (refine retP_same (by simp) ?_; simp) | (refine retP_no (by simp) (by simp [noIds]) (by repeat (first | assumption | exact Ext.refl _ | refine ext_new' ?_ | refine Ext.setF ?_ (by first | assumption | (simp [new_nx', St.set, fresh_none]; done) | exact ext_fresh (by assumption)))) ?_; simp [-cellOK, pr_cells, pr_fold, pr_put, pr_putO, h1, h2, new_m, set_m, new_nx', new_m, set_m, new_nx']) | ((first | refine awp_reg ?_ | refine awp_drawT (fun _ => false) mixed (by decide +kernel) ?_ | refine awp_drawT isCallO mixed (by decide +kernel) ?_ | refine PCalls.use (i1) ?_ | refine Or.inl ⟨_, Or.inl (i1), ?_⟩ | refine PCalls.use (m) ?_ | refine Or.inl ⟨_, Or.inl (m), ?_⟩); simp [-cellOK, pr_cells, pr_fold, pr_put, pr_putO, h1, h2, new_m, set_m, new_nx']) | (refine guarded_split ?_ ?_ <;> (intro hg; simp only [hg]; simp [-cellOK, pr_cells, pr_fold, pr_put, pr_putO, h1, h2, new_m, set_m, new_nx'])) | (apply awp_cond_t; focus (simp [-cellOK, pr_cells, pr_fold, pr_put, pr_putO, h1, h2, new_m, set_m, new_nx']; done)) | (apply awp_cond_f; focus (simp [-cellOK, pr_cells, pr_fold, pr_put, pr_putO, h1, h2, new_m, set_m, new_nx']; done)) | (refine awp_cond ?_; simp [-cellOK, pr_cells, pr_fold, pr_put, pr_putO, h1, h2, new_m, set_m, new_nx']; refine ⟨?_, ?_⟩ <;> intro hc) | fail)
theorem trDrop_calls (t : Tr) (k : Int) (hg : t.get k ≠ none) (h : t.sz < 2 ^ 48) : PCalls Tryz.prog 209 [trP t, .raw (.int .u64 k)] (.tup [trP (t.without k), .raw (.int .i64 0)]) := by
  have h1 := trGet_calls t k
  have h2 := trWithout_calls k t hg h
  generalize t.without k = U at h2 ⊢
  obtain ⟨x, hx⟩ := Option.ne_none_iff_exists'.1 hg
  rw [hx] at h1
  refine pbody Tryz.func209 rfl (N := 22) rfl rfl (by simp) (by simp [noIds]) fun σ => ?_
  (try ((first | with_reducible refine dops_go ?_ | with_reducible refine OKv_go ?_ | with_reducible refine OKr_go ?_); simp [-cellOK])); repeat' (first | refine awp_seq ?_ | refine awp_block ?_ | (refine awp_skip ?_; try simp) | (refine awp_exit ?_; try simp) | (refine awp_ret ?_; try simp) | ((first | refine awp_reg ?_ | refine awp_drawT (fun _ => false) mixed (by decide +kernel) ?_ | refine awp_drawT isCallO mixed (by decide +kernel) ?_ | refine PCalls.use (h1) ?_ | refine Or.inl ⟨_, Or.inl (h1), ?_⟩ | refine PCalls.use (h2) ?_ | refine Or.inl ⟨_, Or.inl (h2), ?_⟩ | refine PCalls.use (top_calls t) ?_ | refine Or.inl ⟨_, Or.inl (top_calls t), ?_⟩); simp [-cellOK]) | (refine guarded_split ?_ ?_ <;> (intro hg; simp only [hg]; simp [-cellOK])) | (apply awp_cond_t; focus (simp [-cellOK]; done)) | (apply awp_cond_f; focus (simp [-cellOK]; done)) | (refine awp_cond ?_; simp [-cellOK]; refine ⟨?_, ?_⟩ <;> intro hc) | fail)
  refine retP_give (x := .tup [.rp ⟨21, σ.nx 21, 1⟩ 0 0, .raw (.int .i64 0)]) (.inr rfl) (by repeat (first | assumption | exact Ext.refl _ | refine ext_new' ?_ | refine Ext.setF ?_ (by first | assumption | (simp [new_nx', St.set, fresh_none]; done) | exact ext_fresh (by assumption)))) ?_ ?_
  · simp [new_nx']
  · simp [giveUps, giveUp, fresh_none, new_m, new_nx', trP]
end Go.Proofs.YtanimmdlgmkmkaaGreat.Av


/- Tables of atoms: how they lie; a key's count; ends; a range more. -/
namespace Go.Proofs.YtanimmdlgmkmkaaGreat.Av
open Go
set_option linter.unusedSimpArgs false
set_option linter.unusedVariables false
set_option maxRecDepth 100000
set_option maxHeartbeats 4000000
set_option pp.maxSteps 600

structure Tab where
  b : Tr
  g : Tr
  n : Int
def tabP (T : Tab) : AV := .pp [trP T.b, trP T.g, .raw (.int .i64 T.n)] 0
def tabO : Option Tab → AV
  | none => .raw (.pointer none)
  | some T => tabP T
@[simp] theorem tabP_ids (K : Id → Prop) (T : Tab) : (tabP T).ids K := by simp [tabP, AV.ids]
@[simp] theorem tabO_ids (K : Id → Prop) (T : Option Tab) : (tabO T).ids K := by cases T <;> simp [tabO]
@[simp] theorem tabO_ok (T : Option Tab) : cellOK (tabO T) = true := by cases T <;> rfl
@[simp] theorem tabO_cells (T : Option Tab) : (tabO T).cells = [tabO T] := by cases T <;> rfl
@[simp] theorem tabP_ok (T : Tab) : cellOK (tabP T) = true := rfl
@[simp] theorem tabP_cells (T : Tab) : (tabP T).cells = [tabP T] := rfl
@[simp] theorem tabP_flat1 (T : Tab) : (tabP T).flat1 = true := rfl
def newTab : Tab := ⟨.node .nil 0 1 .nil, .nil, 0⟩
theorem tabNew_calls : PCalls Tryz.prog 76 [] (tabP newTab) := by
  have h := trPut_calls .nil 0 1 (by simp [Tr.sz]) (by simp [Tr.sz])
  have e : Tr.with_ .nil 0 1 = .node .nil 0 1 .nil := rfl
  rw [e] at h
  unfold tabP newTab
  generalize Tr.node .nil 0 1 .nil = U at h ⊢
  refine pbody Tryz.func76 rfl (N := 12) rfl rfl (by simp) (by simp [noIds, AV.ids]) fun σ => ?_
  (try ((first | with_reducible refine dops_go ?_ | with_reducible refine OKv_go ?_ | with_reducible refine OKr_go ?_); simp [-cellOK])); repeat' (first | refine awp_seq ?_ | refine awp_block ?_ | (refine awp_skip ?_; try simp) | (refine awp_exit ?_; try simp) | (refine awp_ret ?_; try simp) | ((first | refine awp_reg ?_ | refine awp_drawT (fun _ => false) mixed (by decide +kernel) ?_ | refine awp_drawT isCallO mixed (by decide +kernel) ?_ | refine PCalls.use (trNew_calls) ?_ | refine Or.inl ⟨_, Or.inl (trNew_calls), ?_⟩ | refine PCalls.use (h) ?_ | refine Or.inl ⟨_, Or.inl (h), ?_⟩); simp [-cellOK]) | (refine guarded_split ?_ ?_ <;> (intro hg; simp only [hg]; simp [-cellOK])) | (apply awp_cond_t; focus (simp [-cellOK]; done)) | (apply awp_cond_f; focus (simp [-cellOK]; done)) | (refine awp_cond ?_; simp [-cellOK]; refine ⟨?_, ?_⟩ <;> intro hc) | fail)
  refine retP_give (x := .rp ⟨11, σ.nx 11, 3⟩ 0 0) (.inr rfl) (by repeat (first | assumption | exact Ext.refl _ | refine ext_new' ?_ | refine Ext.setF ?_ (by first | assumption | (simp [new_nx', St.set, fresh_none]; done) | exact ext_fresh (by assumption)))) ?_ ?_
  · simp [new_nx']
  · simp [giveUps, giveUp, fresh_none, new_m, new_nx']
theorem tabOwn_calls (T : Option Tab) : PCalls Tryz.prog 132 [tabO T] (tabP (T.getD newTab)) := by
  refine pbody Tryz.func132 rfl (N := 7) rfl rfl (by simp) (by simp [noIds]) fun σ => ?_
  cases T with
  | none => (try ((first | with_reducible refine dops_go ?_ | with_reducible refine OKv_go ?_ | with_reducible refine OKr_go ?_); simp [-cellOK, tabO])); repeat' (first | refine awp_seq ?_ | refine awp_block ?_ | (refine awp_skip ?_; try simp) | (refine awp_exit ?_; try simp) | (refine awp_ret ?_; try simp) | (refine retP_same (by simp) ?_; simp) | (refine retP_no (by simp) (by simp [noIds]) (by repeat (first | assumption | exact Ext.refl _ | refine ext_new' ?_ | refine Ext.setF ?_ (by first | assumption | (simp [new_nx', St.set, fresh_none]; done) | exact ext_fresh (by assumption)))) ?_; simp [-cellOK, tabO, new_m, set_m, new_nx']) | ((first | refine awp_reg ?_ | refine awp_drawT (fun _ => false) mixed (by decide +kernel) ?_ | refine awp_drawT isCallO mixed (by decide +kernel) ?_ | refine PCalls.use (tabNew_calls) ?_ | refine Or.inl ⟨_, Or.inl (tabNew_calls), ?_⟩); simp [-cellOK, tabO]) | (refine guarded_split ?_ ?_ <;> (intro hg; simp only [hg]; simp [-cellOK, tabO])) | (apply awp_cond_t; focus (simp [-cellOK, tabO]; done)) | (apply awp_cond_f; focus (simp [-cellOK, tabO]; done)) | (refine awp_cond ?_; simp [-cellOK, tabO]; refine ⟨?_, ?_⟩ <;> intro hc) | fail)
  | some T =>
    have e : tabP T = .pp [trP T.b, trP T.g, .raw (.int .i64 T.n)] 0 := rfl
    simp only [tabO, Option.getD_some, e]
    (try ((first | with_reducible refine dops_go ?_ | with_reducible refine OKv_go ?_ | with_reducible refine OKr_go ?_); simp [-cellOK])); repeat' (first | refine awp_seq ?_ | refine awp_block ?_ | (refine awp_skip ?_; try simp) | (refine awp_exit ?_; try simp) | (refine awp_ret ?_; try simp) | (refine retP_same (by simp) ?_; simp) | (refine retP_no (by simp) (by simp [noIds]) (by repeat (first | assumption | exact Ext.refl _ | refine ext_new' ?_ | refine Ext.setF ?_ (by first | assumption | (simp [new_nx', St.set, fresh_none]; done) | exact ext_fresh (by assumption)))) ?_; simp [-cellOK, new_m, set_m, new_nx']) | ((first | refine awp_reg ?_ | refine awp_drawT (fun _ => false) mixed (by decide +kernel) ?_ | refine awp_drawT isCallO mixed (by decide +kernel) ?_); simp [-cellOK]) | (refine guarded_split ?_ ?_ <;> (intro hg; simp only [hg]; simp [-cellOK])) | (apply awp_cond_t; focus (simp [-cellOK]; done)) | (apply awp_cond_f; focus (simp [-cellOK]; done)) | (refine awp_cond ?_; simp [-cellOK]; refine ⟨?_, ?_⟩ <;> intro hc) | fail)
/-- A tree with so many more at a key; a key of none goes. -/
def moreT (t : Tr) (k by_ : Int) : Tr := if (t.get k).getD 0 + by_ = 0 then t.without k else t.with_ k ((t.get k).getD 0 + by_)
structure MoreOK (t : Tr) (k by_ : Int) : Prop where
  sz : t.sz < 2 ^ 40
  lo : -2 ^ 40 < (t.get k).getD 0 + by_
  hi : (t.get k).getD 0 + by_ < 2 ^ 40
  drop : (t.get k).getD 0 + by_ = 0 → t.get k ≠ none
  room : t.get k = none → t.sz < 1024
theorem more_calls (t : Tr) (k by_ : Int) (h : MoreOK t k by_) : PCalls Tryz.prog 184 [trP t, .raw (.int .u64 k), .raw (.int .i64 by_)] (trP (moreT t k by_)) := by
  have hg := trGet_calls t k
  have w := wrap64 (n := (t.get k).getD 0 + by_) (by have := h.lo; omega) (by have := h.hi; omega)
  have hsz := h.sz
  by_cases h0 : (t.get k).getD 0 + by_ = 0
  · have hd := trDrop_calls t k (h.drop h0) (by omega)
    have e : moreT t k by_ = t.without k := by unfold moreT; rw [if_pos h0]
    rw [e]
    generalize t.without k = U at hd ⊢
    refine pbody Tryz.func184 rfl (N := 36) rfl rfl (by simp) (by simp [noIds]) fun σ => ?_
    generalize (t.get k).getD 0 = x at *
    generalize (t.get k).isSome = b at *
    rw [h0] at w
    have h0' : IntKind.i64.wrap (x + by_) = 0 := by rw [h0, w]
    (try ((first | with_reducible refine dops_go ?_ | with_reducible refine OKv_go ?_ | with_reducible refine OKr_go ?_); simp [-cellOK, h0, h0', w])); repeat' (first | refine awp_seq ?_ | refine awp_block ?_ | (refine awp_skip ?_; try simp) | (refine awp_exit ?_; try simp) | (refine awp_ret ?_; try simp) | (refine retP_same (by simp) ?_; simp) | (refine retP_no (by simp) (by simp [noIds]) (by repeat (first | assumption | exact Ext.refl _ | refine ext_new' ?_ | refine Ext.setF ?_ (by first | assumption | (simp [new_nx', St.set, fresh_none]; done) | exact ext_fresh (by assumption)))) ?_; simp [-cellOK, h0, h0', w, new_m, set_m, new_nx']) | ((first | refine awp_reg ?_ | refine awp_drawT (fun _ => false) mixed (by decide +kernel) ?_ | refine awp_drawT isCallO mixed (by decide +kernel) ?_ | refine PCalls.use (hg) ?_ | refine Or.inl ⟨_, Or.inl (hg), ?_⟩ | refine PCalls.use (hd) ?_ | refine Or.inl ⟨_, Or.inl (hd), ?_⟩); simp [-cellOK, h0, h0', w]) | (refine guarded_split ?_ ?_ <;> (intro hg; simp only [hg]; simp [-cellOK, h0, h0', w])) | (apply awp_cond_t; focus (simp [-cellOK, h0, h0', w]; done)) | (apply awp_cond_f; focus (simp [-cellOK, h0, h0', w]; done)) | (refine awp_cond ?_; simp [-cellOK, h0, h0', w]; refine ⟨?_, ?_⟩ <;> intro hc) | fail)
  · have hp := trPut_calls t k ((t.get k).getD 0 + by_) (by omega) h.room
    have e : moreT t k by_ = t.with_ k ((t.get k).getD 0 + by_) := by unfold moreT; rw [if_neg h0]
    rw [e]
    generalize t.with_ k ((t.get k).getD 0 + by_) = U at hp ⊢
    refine pbody Tryz.func184 rfl (N := 36) rfl rfl (by simp) (by simp [noIds]) fun σ => ?_
    generalize (t.get k).getD 0 = x at *
    generalize (t.get k).isSome = b at *
    (try ((first | with_reducible refine dops_go ?_ | with_reducible refine OKv_go ?_ | with_reducible refine OKr_go ?_); simp [-cellOK, w, h0])); repeat' (first | refine awp_seq ?_ | refine awp_block ?_ | (refine awp_skip ?_; try simp) | (refine awp_exit ?_; try simp) | (refine awp_ret ?_; try simp) | (refine retP_same (by simp) ?_; simp) | (refine retP_no (by simp) (by simp [noIds]) (by repeat (first | assumption | exact Ext.refl _ | refine ext_new' ?_ | refine Ext.setF ?_ (by first | assumption | (simp [new_nx', St.set, fresh_none]; done) | exact ext_fresh (by assumption)))) ?_; simp [-cellOK, w, h0, new_m, set_m, new_nx']) | ((first | refine awp_reg ?_ | refine awp_drawT (fun _ => false) mixed (by decide +kernel) ?_ | refine awp_drawT isCallO mixed (by decide +kernel) ?_ | refine PCalls.use (hg) ?_ | refine Or.inl ⟨_, Or.inl (hg), ?_⟩ | refine PCalls.use (hp) ?_ | refine Or.inl ⟨_, Or.inl (hp), ?_⟩); simp [-cellOK, w, h0]) | (refine guarded_split ?_ ?_ <;> (intro hg; simp only [hg]; simp [-cellOK, w, h0])) | (apply awp_cond_t; focus (simp [-cellOK, w, h0]; done)) | (apply awp_cond_f; focus (simp [-cellOK, w, h0]; done)) | (refine awp_cond ?_; simp [-cellOK, w, h0]; refine ⟨?_, ?_⟩ <;> intro hc) | fail)

/-- A range of addresses. -/
structure RgOK (r : Rg) : Prop where
  lo0 : 0 ≤ r.lo
  lo1 : r.lo < 4294967296
  hi0 : 0 ≤ r.hi
  hi1 : r.hi < 4294967296
def keyR (r : Rg) : Int := r.lo * 4294967296 + r.hi
theorem rg_cells (r : Rg) : (rgAV r).cells = [.raw (.int .u32 r.lo), .raw (.int .u32 r.hi)] := rfl
theorem rg_fold (r : Rg) : AV.agg [.raw (.int .u32 r.lo), .raw (.int .u32 r.hi)] = rgAV r := rfl
theorem or_key {lo hi : Int} (h0 : 0 ≤ lo) (h1 : lo < 4294967296) (h2 : 0 ≤ hi) (h3 : hi < 4294967296) :
    (BitVec.ofInt 64 (lo * 4294967296) ||| BitVec.ofInt 64 hi).toNat = (lo * 4294967296 + hi).toNat := by
  obtain ⟨a, rfl⟩ := Int.eq_ofNat_of_zero_le h0
  obtain ⟨b, rfl⟩ := Int.eq_ofNat_of_zero_le h2
  have e1 : ((a : Int) * 4294967296) = ((a * 4294967296 : Nat) : Int) := by omega
  have e2 : ((a : Int) * 4294967296 + b) = ((a * 4294967296 + b : Nat) : Int) := by omega
  rw [BitVec.toNat_or, e2, e1, BitVec.ofInt_natCast, BitVec.ofInt_natCast, BitVec.toNat_ofNat, BitVec.toNat_ofNat, Int.toNat_natCast]
  rw [Nat.mod_eq_of_lt (by omega), Nat.mod_eq_of_lt (by omega)]
  have := Nat.shiftLeft_add_eq_or_of_lt (a := a) (b := b) (i := 32) (by omega)
  rw [Nat.shiftLeft_eq] at this
  exact this.symm
theorem key_calls (r : Rg) (h : RgOK r) : PCalls Tryz.prog 185 [rgAV r] (.raw (.int .u64 (keyR r))) := by
  obtain ⟨a1, a2, a3, a4⟩ := h
  have w1 : IntKind.u64.wrap r.lo = r.lo := wrapU64 (by omega) (by omega)
  have w2 : IntKind.u64.wrap r.hi = r.hi := wrapU64 (by omega) (by omega)
  have w3 : IntKind.u64.wrap (r.lo * 4294967296) = r.lo * 4294967296 := wrapU64 (by omega) (by omega)
  have w4 : ((r.lo * 4294967296 % 18446744073709551616).toNat ||| (r.hi % 18446744073709551616).toNat) = (keyR r).toNat := by
    have := or_key a1 a2 a3 a4
    rw [BitVec.toNat_or, BitVec.toNat_ofInt, BitVec.toNat_ofInt] at this
    exact this
  have hk : ((keyR r).toNat : Int) = keyR r := by unfold keyR; omega
  have w5 : IntKind.u64.wrap (keyR r) = keyR r := wrapU64 (by unfold keyR; omega) (by unfold keyR; omega)
  have b1 : IntKind.u64.bits = 64 := rfl
  refine pbody Tryz.func185 rfl (N := 11) rfl rfl (by simp) (by simp [noIds]) fun σ => ?_
  generalize keyR r = y at *
  (try ((first | with_reducible refine dops_go ?_ | with_reducible refine OKv_go ?_ | with_reducible refine OKr_go ?_); simp [-cellOK, rg_cells, w1, w2, w3, w4, w5, hk, b1])); repeat' (first | refine awp_seq ?_ | refine awp_block ?_ | (refine awp_skip ?_; try simp) | (refine awp_exit ?_; try simp) | (refine awp_ret ?_; try simp) | (refine retP_same (by simp) ?_; simp) | (refine retP_no (by simp) (by simp [noIds]) (by repeat (first | assumption | exact Ext.refl _ | refine ext_new' ?_ | refine Ext.setF ?_ (by first | assumption | (simp [new_nx', St.set, fresh_none]; done) | exact ext_fresh (by assumption)))) ?_; simp [-cellOK, rg_cells, w1, w2, w3, w4, w5, hk, b1, new_m, set_m, new_nx']) | ((first | refine awp_reg ?_ | refine awp_drawT (fun _ => false) mixed (by decide +kernel) ?_ | refine awp_drawT isCallO mixed (by decide +kernel) ?_); simp [-cellOK, rg_cells, w1, w2, w3, w4, w5, hk, b1]) | (refine guarded_split ?_ ?_ <;> (intro hg; simp only [hg]; simp [-cellOK, rg_cells, w1, w2, w3, w4, w5, hk, b1])) | (apply awp_cond_t; focus (simp [-cellOK, rg_cells, w1, w2, w3, w4, w5, hk, b1]; done)) | (apply awp_cond_f; focus (simp [-cellOK, rg_cells, w1, w2, w3, w4, w5, hk, b1]; done)) | (refine awp_cond ?_; simp [-cellOK, rg_cells, w1, w2, w3, w4, w5, hk, b1]; refine ⟨?_, ?_⟩ <;> intro hc) | fail)
end Go.Proofs.YtanimmdlgmkmkaaGreat.Av


/- Tables of atoms: ends; a range more, or less; how many, which, where. -/
namespace Go.Proofs.YtanimmdlgmkmkaaGreat.Av
open Go
set_option linter.unusedSimpArgs false
set_option linter.unusedVariables false
set_option maxRecDepth 100000
set_option maxHeartbeats 4000000
set_option pp.maxSteps 600

def uuAV (x : Int) : AV := .raw (.int .u64 x)
def uusAV (l : List Int) : AV := .sl 1 (l.map uuAV) false
@[simp] theorem uus_ids (K : Id → Prop) (l : List Int) : (uusAV l).ids K := by simp only [uusAV, AV.ids]; exact idsL_map (fun x => by simp [uuAV]) l
def endsR (r : Rg) : List Int := if r.hi < 4294967295 then [r.lo, r.hi + 1] else [r.lo]
theorem ends_calls (r : Rg) (h : RgOK r) : PCalls Tryz.prog 186 [rgAV r] (uusAV (endsR r)) := by
  obtain ⟨a1, a2, a3, a4⟩ := h
  have w1 : IntKind.u64.wrap r.lo = r.lo := wrapU64 (by omega) (by omega)
  have w2 : IntKind.u64.wrap r.hi = r.hi := wrapU64 (by omega) (by omega)
  have w3 : IntKind.u64.wrap (r.hi + 1) = r.hi + 1 := wrapU64 (by omega) (by omega)
  refine pbody Tryz.func186 rfl (N := 19) rfl rfl (by simp) (by simp [noIds]) fun σ => ?_
  unfold endsR
  by_cases q : r.hi < 4294967295
  · rw [if_pos q]
    (try ((first | with_reducible refine dops_go ?_ | with_reducible refine OKv_go ?_ | with_reducible refine OKr_go ?_); simp [-cellOK, rg_cells, w1, w2, w3, q, -opAppend])); repeat' (first | refine awp_seq ?_ | refine awp_block ?_ | (refine awp_skip ?_; try simp) | (refine awp_exit ?_; try simp) | (refine awp_ret ?_; try simp) | (refine retP_same (by simp) ?_; simp) | (refine retP_no (by simp) (by simp [noIds]) (by repeat (first | assumption | exact Ext.refl _ | refine ext_new' ?_ | refine Ext.setF ?_ (by first | assumption | (simp [new_nx', St.set, fresh_none]; done) | exact ext_fresh (by assumption)))) ?_; simp [-cellOK, rg_cells, w1, w2, w3, q, -opAppend, new_m, set_m, new_nx']) | ((first | refine awp_reg ?_ | refine awp_drawT (fun _ => false) mixed (by decide +kernel) ?_ | refine awp_drawT isCallO mixed (by decide +kernel) ?_); simp [-cellOK, rg_cells, w1, w2, w3, q, -opAppend]) | (refine guarded_split ?_ ?_ <;> (intro hg; simp only [hg]; simp [-cellOK, rg_cells, w1, w2, w3, q, -opAppend])) | (apply awp_cond_t; focus (simp [-cellOK, rg_cells, w1, w2, w3, q, -opAppend]; done)) | (apply awp_cond_f; focus (simp [-cellOK, rg_cells, w1, w2, w3, q, -opAppend]; done)) | (refine awp_cond ?_; simp [-cellOK, rg_cells, w1, w2, w3, q, -opAppend]; refine ⟨?_, ?_⟩ <;> intro hc) | fail)
    refine okr_append slt221 (σ0 := σ) (es := [uuAV r.lo]) (OwnL.of (j := ⟨7, σ.nx 7, 1⟩) rfl (by simp [new_m, new_nx', uuAV]) (fresh_none _ _ _) rfl) ((by repeat (first | assumption | exact Ext.refl _ | refine ext_new' ?_ | refine Ext.setF ?_ (by first | assumption | (simp [new_nx', St.set, fresh_none]; done) | exact ext_fresh (by assumption))))) (ys := [uuAV (r.hi + 1)]) (by simp [uuAV, new_m, new_nx']) (.inr rfl) (by simp [uuAV]) (by simp) ?_
    intro v' τ' hO hE _ _
    (try ((first | with_reducible refine dops_go ?_ | with_reducible refine OKv_go ?_ | with_reducible refine OKr_go ?_); simp [-cellOK])); repeat' (first | refine awp_seq ?_ | refine awp_block ?_ | (refine awp_skip ?_; try simp) | (refine awp_exit ?_; try simp) | (refine awp_ret ?_; try simp) | ((first | refine awp_reg ?_ | refine awp_drawT (fun _ => false) mixed (by decide +kernel) ?_ | refine awp_drawT isCallO mixed (by decide +kernel) ?_); simp [-cellOK]) | (refine guarded_split ?_ ?_ <;> (intro hg; simp only [hg]; simp [-cellOK])) | (apply awp_cond_t; focus (simp [-cellOK]; done)) | (apply awp_cond_f; focus (simp [-cellOK]; done)) | (refine awp_cond ?_; simp [-cellOK]; refine ⟨?_, ?_⟩ <;> intro hc) | fail)
    exact retP_own (.inr rfl) (by simp) hO hE
  · rw [if_neg q]
    (try ((first | with_reducible refine dops_go ?_ | with_reducible refine OKv_go ?_ | with_reducible refine OKr_go ?_); simp [-cellOK, rg_cells, w1, w2, w3, q])); repeat' (first | refine awp_seq ?_ | refine awp_block ?_ | (refine awp_skip ?_; try simp) | (refine awp_exit ?_; try simp) | (refine awp_ret ?_; try simp) | ((first | refine awp_reg ?_ | refine awp_drawT (fun _ => false) mixed (by decide +kernel) ?_ | refine awp_drawT isCallO mixed (by decide +kernel) ?_); simp [-cellOK, rg_cells, w1, w2, w3, q]) | (refine guarded_split ?_ ?_ <;> (intro hg; simp only [hg]; simp [-cellOK, rg_cells, w1, w2, w3, q])) | (apply awp_cond_t; focus (simp [-cellOK, rg_cells, w1, w2, w3, q]; done)) | (apply awp_cond_f; focus (simp [-cellOK, rg_cells, w1, w2, w3, q]; done)) | (refine awp_cond ?_; simp [-cellOK, rg_cells, w1, w2, w3, q]; refine ⟨?_, ?_⟩ <;> intro hc) | fail)
    refine retP_give (x := .rs ⟨7, σ.nx 7, 1⟩ 0 1) (.inr rfl) (by repeat (first | assumption | exact Ext.refl _ | refine ext_new' ?_ | refine Ext.setF ?_ (by first | assumption | (simp [new_nx', St.set, fresh_none]; done) | exact ext_fresh (by assumption)))) ?_ ?_
    · simp [new_nx']
    · simp [giveUps, giveUp, fresh_none, new_m, new_nx', uusAV, uuAV]

def Tab.with_ (T : Tab) (r : Rg) (by_ : Int) : Tab := ⟨(endsR r).foldl (fun b e => moreT b e by_) T.b, moreT T.g (keyR r) by_, T.n + by_⟩
structure WithOK (T : Tab) (r : Rg) (by_ : Int) : Prop where
  rg : RgOK r
  n0 : -2 ^ 40 < T.n + by_
  n1 : T.n + by_ < 2 ^ 40
  key : MoreOK T.g (keyR r) by_
  ends : ∀ (i : Nat) (e : Int), (endsR r)[i]? = some e → MoreOK (((endsR r).take i).foldl (fun b e => moreT b e by_) T.b) e by_
theorem tabP_eq (T : Tab) : tabP T = .pp [trP T.b, trP T.g, .raw (.int .i64 T.n)] 0 := rfl
theorem trP_setPart (t : Tr) (off : Nat) (x : AV) : setPart (trP t) off [x] = x := rfl
theorem with_calls (T : Tab) (r : Rg) (by_ : Int) (h : WithOK T r by_) : PCalls Tryz.prog 133 [tabP T, rgAV r, .raw (.int .i64 by_)] (tabP (T.with_ r by_)) := by
  have w := wrap64 (n := T.n + by_) (by have := h.n0; omega) (by have := h.n1; omega)
  have hk := key_calls r h.rg
  have hm := more_calls T.g (keyR r) by_ h.key
  have he := ends_calls r h.rg
  have hlen : (endsR r).length ≤ 2 := by unfold endsR; split <;> simp
  have hends := h.ends
  rw [tabP_eq (T.with_ r by_)]
  unfold Tab.with_
  simp only []
  generalize moreT T.g (keyR r) by_ = G at hm ⊢
  generalize endsR r = E at he hlen hends ⊢
  rw [tabP_eq]
  refine pbody Tryz.func133 rfl (N := 49) rfl rfl (by simp) (by simp [noIds]) fun σ => ?_
  have f29 : σ.m ⟨29, σ.nx 29, 3⟩ = none := fresh_none _ _ _
  (try ((first | with_reducible refine dops_go ?_ | with_reducible refine OKv_go ?_ | with_reducible refine OKr_go ?_); simp [-cellOK, rg_cells, rg_fold, w])); repeat' (first | refine awp_seq ?_ | refine awp_block ?_ | (refine awp_skip ?_; try simp) | (refine awp_exit ?_; try simp) | (refine awp_ret ?_; try simp) | (refine retP_same (by simp) ?_; simp) | (refine retP_no (by simp) (by simp [noIds]) (by repeat (first | assumption | exact Ext.refl _ | refine ext_new' ?_ | refine Ext.setF ?_ (by first | assumption | (simp [new_nx', St.set, fresh_none]; done) | exact ext_fresh (by assumption)))) ?_; simp [-cellOK, rg_cells, rg_fold, w, new_m, set_m, new_nx']) | ((first | refine awp_reg ?_ | refine awp_drawT (fun _ => false) mixed (by decide +kernel) ?_ | refine awp_drawT isCallO mixed (by decide +kernel) ?_ | refine PCalls.use (hk) ?_ | refine Or.inl ⟨_, Or.inl (hk), ?_⟩ | refine PCalls.use (hm) ?_ | refine Or.inl ⟨_, Or.inl (hm), ?_⟩ | refine PCalls.use (he) ?_ | refine Or.inl ⟨_, Or.inl (he), ?_⟩); simp [-cellOK, rg_cells, rg_fold, w]) | (refine guarded_split ?_ ?_ <;> (intro hg; simp only [hg]; simp [-cellOK, rg_cells, rg_fold, w])) | (apply awp_cond_t; focus (simp [-cellOK, rg_cells, rg_fold, w]; done)) | (apply awp_cond_f; focus (simp [-cellOK, rg_cells, rg_fold, w]; done)) | (refine awp_cond ?_; simp [-cellOK, rg_cells, rg_fold, w]; refine ⟨?_, ?_⟩ <;> intro hc) | fail)
  refine awp_loopH (fun n A τ => Ext σ τ ∧ A 2 = .raw (.int .i64 by_) ∧ A 7 = .rp ⟨29, σ.nx 29, 3⟩ 0 0 ∧ A 31 = uusAV E ∧ A 32 = .raw (.int .i64 E.length) ∧ ∃ i : Nat, A 33 = .raw (.int .i64 i) ∧ i ≤ E.length ∧ n = E.length - i ∧ τ.m ⟨29, σ.nx 29, 3⟩ = some (.buf [.agg [trP ((E.take i).foldl (fun b e => moreT b e by_) T.b), trP G, .raw (.int .i64 (T.n + by_))]])) E.length ?_ ?_
  · exact ⟨(by repeat (first | assumption | exact Ext.refl _ | refine ext_new' ?_ | refine Ext.setF ?_ (by first | assumption | (simp [new_nx', St.set, fresh_none]; done) | exact ext_fresh (by assumption)))), by simp, by simp [new_nx'], by simp [uusAV], by simp [uusAV], 0, by simp, by omega, by omega, by simp [new_m, new_nx']⟩
  rintro n A τ ⟨hE, a2, a7, a31, a32, i, a33, hi, rfl, hmm⟩ I1 hI1
  by_cases hlt : i < E.length
  · have hx : E[i]? = some E[i] := List.getElem?_eq_getElem hlt
    have w1 : IntKind.i64.wrap ((i : Int) + 1) = ((i + 1 : Nat) : Int) := by rw [wrap64 (by omega) (by omega)]; omega
    have hmo := more_calls _ _ by_ (hends i _ hx)
    have hf : (E.take (i + 1)).foldl (fun b e => moreT b e by_) T.b = moreT ((E.take i).foldl (fun b e => moreT b e by_) T.b) E[i] by_ := by
      rw [List.take_add_one, hx, List.foldl_append]; rfl
    rw [← hf] at hmo
    generalize (E.take i).foldl (fun b e => moreT b e by_) T.b = B at hmo hmm hf
    obtain ⟨B', hB'⟩ : ∃ x, (E.take (i + 1)).foldl (fun b e => moreT b e by_) T.b = x := ⟨_, rfl⟩
    rw [hB'] at hmo
    (try ((first | with_reducible refine dops_go ?_ | with_reducible refine OKv_go ?_ | with_reducible refine OKr_go ?_); simp [-cellOK, a2, a7, a31, a32, a33, hlt, hx, hmm, w1, uusAV, uuAV, trP_setPart])); repeat' (first | refine awp_seq ?_ | refine awp_block ?_ | (refine awp_skip ?_; try simp) | (refine awp_exit ?_; try simp) | (refine awp_ret ?_; try simp) | (refine retP_same (by simp) ?_; simp) | (refine retP_no (by simp) (by simp [noIds]) (by repeat (first | assumption | exact Ext.refl _ | refine ext_new' ?_ | refine Ext.setF ?_ (by first | assumption | (simp [new_nx', St.set, fresh_none]; done) | exact ext_fresh (by assumption)))) ?_; simp [-cellOK, a2, a7, a31, a32, a33, hlt, hx, hmm, w1, uusAV, uuAV, trP_setPart, new_m, set_m, new_nx']) | ((first | refine awp_reg ?_ | refine awp_drawT (fun _ => false) mixed (by decide +kernel) ?_ | refine awp_drawT isCallO mixed (by decide +kernel) ?_ | refine PCalls.use (hmo) ?_ | refine Or.inl ⟨_, Or.inl (hmo), ?_⟩); simp [-cellOK, a2, a7, a31, a32, a33, hlt, hx, hmm, w1, uusAV, uuAV, trP_setPart]) | (refine guarded_split ?_ ?_ <;> (intro hg; simp only [hg]; simp [-cellOK, a2, a7, a31, a32, a33, hlt, hx, hmm, w1, uusAV, uuAV, trP_setPart])) | (apply awp_cond_t; focus (simp [-cellOK, a2, a7, a31, a32, a33, hlt, hx, hmm, w1, uusAV, uuAV, trP_setPart]; done)) | (apply awp_cond_f; focus (simp [-cellOK, a2, a7, a31, a32, a33, hlt, hx, hmm, w1, uusAV, uuAV, trP_setPart]; done)) | (refine awp_cond ?_; simp [-cellOK, a2, a7, a31, a32, a33, hlt, hx, hmm, w1, uusAV, uuAV, trP_setPart]; refine ⟨?_, ?_⟩ <;> intro hc) | fail)
    refine hI1 (E.length - (i + 1)) _ _ (by omega) ⟨Ext.setF hE f29, by simp [a2], by simp [a7], by simp [a31, uusAV], by simp [a32], i + 1, by simp, by omega, rfl, ?_⟩
    simp [set_m, hmm, hB']
  · have : i = E.length := by omega
    subst this
    rw [List.take_length] at hmm
    generalize E.foldl (fun b e => moreT b e by_) T.b = B at hmm ⊢
    (try ((first | with_reducible refine dops_go ?_ | with_reducible refine OKv_go ?_ | with_reducible refine OKr_go ?_); simp [-cellOK, a2, a7, a31, a32, a33])); repeat' (first | refine awp_seq ?_ | refine awp_block ?_ | (refine awp_skip ?_; try simp) | (refine awp_exit ?_; try simp) | (refine awp_ret ?_; try simp) | ((first | refine awp_reg ?_ | refine awp_drawT (fun _ => false) mixed (by decide +kernel) ?_ | refine awp_drawT isCallO mixed (by decide +kernel) ?_); simp [-cellOK, a2, a7, a31, a32, a33]) | (refine guarded_split ?_ ?_ <;> (intro hg; simp only [hg]; simp [-cellOK, a2, a7, a31, a32, a33])) | (apply awp_cond_t; focus (simp [-cellOK, a2, a7, a31, a32, a33]; done)) | (apply awp_cond_f; focus (simp [-cellOK, a2, a7, a31, a32, a33]; done)) | (refine awp_cond ?_; simp [-cellOK, a2, a7, a31, a32, a33]; refine ⟨?_, ?_⟩ <;> intro hc) | fail)
    refine retP_give (x := .rp ⟨29, σ.nx 29, 3⟩ 0 0) (.inr rfl) hE ?_ ?_
    · simp
    · simp [giveUps, giveUp, f29, hmm]

/-- A range once more. -/
def addT (T : Option Tab) (r : Rg) : Option Tab × Int := if r.hi < r.lo then (none, 51) else if 500 ≤ (T.getD newTab).n then (none, 41) else (some ((T.getD newTab).with_ r 1), 0)
theorem add_calls (T : Option Tab) (r : Rg) (h : r.lo ≤ r.hi → (T.getD newTab).n < 500 → WithOK (T.getD newTab) r 1) : PCalls Tryz.prog 77 [tabO T, rgAV r] (.tup [tabO (addT T r).1, .raw (.int .i64 (addT T r).2)]) := by
  have ho := tabOwn_calls T
  unfold addT
  refine pbody Tryz.func77 rfl (N := 23) rfl rfl (by simp) (by simp [noIds]) fun σ => ?_
  by_cases q1 : r.hi < r.lo
  · rw [if_pos q1]
    rw [tabP_eq] at ho
    (try ((first | with_reducible refine dops_go ?_ | with_reducible refine OKv_go ?_ | with_reducible refine OKr_go ?_); simp [-cellOK, rg_cells, rg_fold, q1, tabO])); repeat' (first | refine awp_seq ?_ | refine awp_block ?_ | (refine awp_skip ?_; try simp) | (refine awp_exit ?_; try simp) | (refine awp_ret ?_; try simp) | (refine retP_same (by simp) ?_; simp) | (refine retP_no (by simp) (by simp [noIds]) (by repeat (first | assumption | exact Ext.refl _ | refine ext_new' ?_ | refine Ext.setF ?_ (by first | assumption | (simp [new_nx', St.set, fresh_none]; done) | exact ext_fresh (by assumption)))) ?_; simp [-cellOK, rg_cells, rg_fold, q1, tabO, new_m, set_m, new_nx']) | ((first | refine awp_reg ?_ | refine awp_drawT (fun _ => false) mixed (by decide +kernel) ?_ | refine awp_drawT isCallO mixed (by decide +kernel) ?_ | refine PCalls.use (ho) ?_ | refine Or.inl ⟨_, Or.inl (ho), ?_⟩); simp [-cellOK, rg_cells, rg_fold, q1, tabO]) | (refine guarded_split ?_ ?_ <;> (intro hg; simp only [hg]; simp [-cellOK, rg_cells, rg_fold, q1, tabO])) | (apply awp_cond_t; focus (simp [-cellOK, rg_cells, rg_fold, q1, tabO]; done)) | (apply awp_cond_f; focus (simp [-cellOK, rg_cells, rg_fold, q1, tabO]; done)) | (refine awp_cond ?_; simp [-cellOK, rg_cells, rg_fold, q1, tabO]; refine ⟨?_, ?_⟩ <;> intro hc) | fail)
  · rw [if_neg q1]
    by_cases q2 : 500 ≤ (T.getD newTab).n
    · rw [if_pos q2]
      rw [tabP_eq] at ho
      (try ((first | with_reducible refine dops_go ?_ | with_reducible refine OKv_go ?_ | with_reducible refine OKr_go ?_); simp [-cellOK, rg_cells, rg_fold, q1, q2, tabO])); repeat' (first | refine awp_seq ?_ | refine awp_block ?_ | (refine awp_skip ?_; try simp) | (refine awp_exit ?_; try simp) | (refine awp_ret ?_; try simp) | (refine retP_same (by simp) ?_; simp) | (refine retP_no (by simp) (by simp [noIds]) (by repeat (first | assumption | exact Ext.refl _ | refine ext_new' ?_ | refine Ext.setF ?_ (by first | assumption | (simp [new_nx', St.set, fresh_none]; done) | exact ext_fresh (by assumption)))) ?_; simp [-cellOK, rg_cells, rg_fold, q1, q2, tabO, new_m, set_m, new_nx']) | ((first | refine awp_reg ?_ | refine awp_drawT (fun _ => false) mixed (by decide +kernel) ?_ | refine awp_drawT isCallO mixed (by decide +kernel) ?_ | refine PCalls.use (ho) ?_ | refine Or.inl ⟨_, Or.inl (ho), ?_⟩); simp [-cellOK, rg_cells, rg_fold, q1, q2, tabO]) | (refine guarded_split ?_ ?_ <;> (intro hg; simp only [hg]; simp [-cellOK, rg_cells, rg_fold, q1, q2, tabO])) | (apply awp_cond_t; focus (simp [-cellOK, rg_cells, rg_fold, q1, q2, tabO]; done)) | (apply awp_cond_f; focus (simp [-cellOK, rg_cells, rg_fold, q1, q2, tabO]; done)) | (refine awp_cond ?_; simp [-cellOK, rg_cells, rg_fold, q1, q2, tabO]; refine ⟨?_, ?_⟩ <;> intro hc) | fail)
    · rw [if_neg q2]
      have hw := with_calls (T.getD newTab) r 1 (h (by omega) (by omega))
      generalize (T.getD newTab).with_ r 1 = U at hw ⊢
      rw [tabP_eq (T.getD newTab)] at ho hw
      (try ((first | with_reducible refine dops_go ?_ | with_reducible refine OKv_go ?_ | with_reducible refine OKr_go ?_); simp [-cellOK, rg_cells, rg_fold, q1, q2, tabO])); repeat' (first | refine awp_seq ?_ | refine awp_block ?_ | (refine awp_skip ?_; try simp) | (refine awp_exit ?_; try simp) | (refine awp_ret ?_; try simp) | (refine retP_same (by simp) ?_; simp) | (refine retP_no (by simp) (by simp [noIds]) (by repeat (first | assumption | exact Ext.refl _ | refine ext_new' ?_ | refine Ext.setF ?_ (by first | assumption | (simp [new_nx', St.set, fresh_none]; done) | exact ext_fresh (by assumption)))) ?_; simp [-cellOK, rg_cells, rg_fold, q1, q2, tabO, new_m, set_m, new_nx']) | ((first | refine awp_reg ?_ | refine awp_drawT (fun _ => false) mixed (by decide +kernel) ?_ | refine awp_drawT isCallO mixed (by decide +kernel) ?_ | refine PCalls.use (ho) ?_ | refine Or.inl ⟨_, Or.inl (ho), ?_⟩ | refine PCalls.use (hw) ?_ | refine Or.inl ⟨_, Or.inl (hw), ?_⟩); simp [-cellOK, rg_cells, rg_fold, q1, q2, tabO]) | (refine guarded_split ?_ ?_ <;> (intro hg; simp only [hg]; simp [-cellOK, rg_cells, rg_fold, q1, q2, tabO])) | (apply awp_cond_t; focus (simp [-cellOK, rg_cells, rg_fold, q1, q2, tabO]; done)) | (apply awp_cond_f; focus (simp [-cellOK, rg_cells, rg_fold, q1, q2, tabO]; done)) | (refine awp_cond ?_; simp [-cellOK, rg_cells, rg_fold, q1, q2, tabO]; refine ⟨?_, ?_⟩ <;> intro hc) | fail)
def cntT (T : Option Tab) (r : Rg) : Int := ((T.getD newTab).g.get (keyR r)).getD 0
theorem count_calls (T : Option Tab) (r : Rg) (h : RgOK r) : PCalls Tryz.prog 144 [tabO T, rgAV r] (.raw (.int .i64 (cntT T r))) := by
  have ho := tabOwn_calls T
  have hk := key_calls r h
  have hg := trGet_calls (T.getD newTab).g (keyR r)
  unfold cntT
  rw [tabP_eq] at ho
  generalize ((T.getD newTab).g.get (keyR r)).getD 0 = x at hg ⊢
  refine pbody Tryz.func144 rfl (N := 19) rfl rfl (by simp) (by simp [noIds]) fun σ => ?_
  (try ((first | with_reducible refine dops_go ?_ | with_reducible refine OKv_go ?_ | with_reducible refine OKr_go ?_); simp [-cellOK, rg_cells, rg_fold])); repeat' (first | refine awp_seq ?_ | refine awp_block ?_ | (refine awp_skip ?_; try simp) | (refine awp_exit ?_; try simp) | (refine awp_ret ?_; try simp) | (refine retP_same (by simp) ?_; simp) | (refine retP_no (by simp) (by simp [noIds]) (by repeat (first | assumption | exact Ext.refl _ | refine ext_new' ?_ | refine Ext.setF ?_ (by first | assumption | (simp [new_nx', St.set, fresh_none]; done) | exact ext_fresh (by assumption)))) ?_; simp [-cellOK, rg_cells, rg_fold, new_m, set_m, new_nx']) | ((first | refine awp_reg ?_ | refine awp_drawT (fun _ => false) mixed (by decide +kernel) ?_ | refine awp_drawT isCallO mixed (by decide +kernel) ?_ | refine PCalls.use (ho) ?_ | refine Or.inl ⟨_, Or.inl (ho), ?_⟩ | refine PCalls.use (hk) ?_ | refine Or.inl ⟨_, Or.inl (hk), ?_⟩ | refine PCalls.use (hg) ?_ | refine Or.inl ⟨_, Or.inl (hg), ?_⟩); simp [-cellOK, rg_cells, rg_fold]) | (refine guarded_split ?_ ?_ <;> (intro hg; simp only [hg]; simp [-cellOK, rg_cells, rg_fold])) | (apply awp_cond_t; focus (simp [-cellOK, rg_cells, rg_fold]; done)) | (apply awp_cond_f; focus (simp [-cellOK, rg_cells, rg_fold]; done)) | (refine awp_cond ?_; simp [-cellOK, rg_cells, rg_fold]; refine ⟨?_, ?_⟩ <;> intro hc) | fail)
def dropT (T : Option Tab) (r : Rg) : Option Tab × Int := if cntT T r = 0 then (none, 51) else (some ((T.getD newTab).with_ r (-1)), 0)
theorem tdrop_calls (T : Option Tab) (r : Rg) (hr : RgOK r) (h : cntT T r ≠ 0 → WithOK (T.getD newTab) r (-1)) : PCalls Tryz.prog 93 [tabO T, rgAV r] (.tup [tabO (dropT T r).1, .raw (.int .i64 (dropT T r).2)]) := by
  have ho := tabOwn_calls T
  have hc := count_calls (some (T.getD newTab)) r hr
  have hcc : cntT (some (T.getD newTab)) r = cntT T r := rfl
  rw [hcc] at hc
  unfold dropT
  have e : tabO (some (T.getD newTab)) = tabP (T.getD newTab) := rfl
  rw [e] at hc
  refine pbody Tryz.func93 rfl (N := 15) rfl rfl (by simp) (by simp [noIds]) fun σ => ?_
  by_cases q1 : cntT T r = 0
  · rw [if_pos q1]
    rw [q1] at hc
    (try ((first | with_reducible refine dops_go ?_ | with_reducible refine OKv_go ?_ | with_reducible refine OKr_go ?_); simp [-cellOK, rg_cells, rg_fold, tabO])); repeat' (first | refine awp_seq ?_ | refine awp_block ?_ | (refine awp_skip ?_; try simp) | (refine awp_exit ?_; try simp) | (refine awp_ret ?_; try simp) | (refine retP_same (by simp) ?_; simp) | (refine retP_no (by simp) (by simp [noIds]) (by repeat (first | assumption | exact Ext.refl _ | refine ext_new' ?_ | refine Ext.setF ?_ (by first | assumption | (simp [new_nx', St.set, fresh_none]; done) | exact ext_fresh (by assumption)))) ?_; simp [-cellOK, rg_cells, rg_fold, tabO, new_m, set_m, new_nx']) | ((first | refine awp_reg ?_ | refine awp_drawT (fun _ => false) mixed (by decide +kernel) ?_ | refine awp_drawT isCallO mixed (by decide +kernel) ?_ | refine PCalls.use (ho) ?_ | refine Or.inl ⟨_, Or.inl (ho), ?_⟩ | refine PCalls.use (hc) ?_ | refine Or.inl ⟨_, Or.inl (hc), ?_⟩); simp [-cellOK, rg_cells, rg_fold, tabO]) | (refine guarded_split ?_ ?_ <;> (intro hg; simp only [hg]; simp [-cellOK, rg_cells, rg_fold, tabO])) | (apply awp_cond_t; focus (simp [-cellOK, rg_cells, rg_fold, tabO]; done)) | (apply awp_cond_f; focus (simp [-cellOK, rg_cells, rg_fold, tabO]; done)) | (refine awp_cond ?_; simp [-cellOK, rg_cells, rg_fold, tabO]; refine ⟨?_, ?_⟩ <;> intro hc) | fail)
  · rw [if_neg q1]
    have hw := with_calls (T.getD newTab) r (-1) (h q1)
    generalize (T.getD newTab).with_ r (-1) = U at hw ⊢
    (try ((first | with_reducible refine dops_go ?_ | with_reducible refine OKv_go ?_ | with_reducible refine OKr_go ?_); simp [-cellOK, rg_cells, rg_fold, q1, tabO])); repeat' (first | refine awp_seq ?_ | refine awp_block ?_ | (refine awp_skip ?_; try simp) | (refine awp_exit ?_; try simp) | (refine awp_ret ?_; try simp) | (refine retP_same (by simp) ?_; simp) | (refine retP_no (by simp) (by simp [noIds]) (by repeat (first | assumption | exact Ext.refl _ | refine ext_new' ?_ | refine Ext.setF ?_ (by first | assumption | (simp [new_nx', St.set, fresh_none]; done) | exact ext_fresh (by assumption)))) ?_; simp [-cellOK, rg_cells, rg_fold, q1, tabO, new_m, set_m, new_nx']) | ((first | refine awp_reg ?_ | refine awp_drawT (fun _ => false) mixed (by decide +kernel) ?_ | refine awp_drawT isCallO mixed (by decide +kernel) ?_ | refine PCalls.use (ho) ?_ | refine Or.inl ⟨_, Or.inl (ho), ?_⟩ | refine PCalls.use (hc) ?_ | refine Or.inl ⟨_, Or.inl (hc), ?_⟩ | refine PCalls.use (hw) ?_ | refine Or.inl ⟨_, Or.inl (hw), ?_⟩); simp [-cellOK, rg_cells, rg_fold, q1, tabO]) | (refine guarded_split ?_ ?_ <;> (intro hg; simp only [hg]; simp [-cellOK, rg_cells, rg_fold, q1, tabO])) | (apply awp_cond_t; focus (simp [-cellOK, rg_cells, rg_fold, q1, tabO]; done)) | (apply awp_cond_f; focus (simp [-cellOK, rg_cells, rg_fold, q1, tabO]; done)) | (refine awp_cond ?_; simp [-cellOK, rg_cells, rg_fold, q1, tabO]; refine ⟨?_, ?_⟩ <;> intro hc) | fail)
theorem tabLen_calls (T : Option Tab) : PCalls Tryz.prog 83 [tabO T] (.raw (.int .i64 (T.getD newTab).b.sz)) := by
  have ho := tabOwn_calls T
  have hl := trLen_calls (T.getD newTab).b
  rw [tabP_eq] at ho
  refine pbody Tryz.func83 rfl (N := 9) rfl rfl (by simp) (by simp [noIds]) fun σ => ?_
  (try ((first | with_reducible refine dops_go ?_ | with_reducible refine OKv_go ?_ | with_reducible refine OKr_go ?_); simp [-cellOK])); repeat' (first | refine awp_seq ?_ | refine awp_block ?_ | (refine awp_skip ?_; try simp) | (refine awp_exit ?_; try simp) | (refine awp_ret ?_; try simp) | (refine retP_same (by simp) ?_; simp) | (refine retP_no (by simp) (by simp [noIds]) (by repeat (first | assumption | exact Ext.refl _ | refine ext_new' ?_ | refine Ext.setF ?_ (by first | assumption | (simp [new_nx', St.set, fresh_none]; done) | exact ext_fresh (by assumption)))) ?_; simp [-cellOK, new_m, set_m, new_nx']) | ((first | refine awp_reg ?_ | refine awp_drawT (fun _ => false) mixed (by decide +kernel) ?_ | refine awp_drawT isCallO mixed (by decide +kernel) ?_ | refine PCalls.use (ho) ?_ | refine Or.inl ⟨_, Or.inl (ho), ?_⟩ | refine PCalls.use (hl) ?_ | refine Or.inl ⟨_, Or.inl (hl), ?_⟩); simp [-cellOK]) | (refine guarded_split ?_ ?_ <;> (intro hg; simp only [hg]; simp [-cellOK])) | (apply awp_cond_t; focus (simp [-cellOK]; done)) | (apply awp_cond_f; focus (simp [-cellOK]; done)) | (refine awp_cond ?_; simp [-cellOK]; refine ⟨?_, ?_⟩ <;> intro hc) | fail)
/-- The i-th atom. -/
def atomT (T : Option Tab) (i : Int) : Option Rg := ((T.getD newTab).b.atI i).map fun p => ⟨IntKind.u32.wrap p.1, IntKind.u32.wrap (match (T.getD newTab).b.atI (i + 1) with | some q => IntKind.u64.wrap (q.1 - 1) | none => 4294967295)⟩
theorem atom_calls (T : Option Tab) (i : Int) (hz : (T.getD newTab).b.sz < 2 ^ 40) : PCalls Tryz.prog 107 [tabO T, .raw (.int .i64 i)] (.tup [rgAV ((atomT T i).getD ⟨0, 0⟩), .raw (.bool (atomT T i).isSome)]) := by
  have ho := tabOwn_calls T
  have h1 := trAt_calls (T.getD newTab).b i (by omega)
  have h2 := trAt_calls (T.getD newTab).b (i + 1) (by omega)
  rw [tabP_eq] at ho
  unfold atomT
  have hrp : ∀ x y : Int, setPart (AV.agg [.raw (.int .u32 0), .raw (.int .u32 0)]) 0 [.raw (.int .u32 x), .raw (.int .u32 y)] = rgAV ⟨x, y⟩ := fun _ _ => rfl
  have hrf : ∀ x y : Int, AV.agg [.raw (.int .u32 x), .raw (.int .u32 y)] = rgAV ⟨x, y⟩ := fun _ _ => rfl
  have hrq : ∀ x y : Int, setPart (rgAV ⟨0, 0⟩) 0 [.raw (.int .u32 x), .raw (.int .u32 y)] = rgAV ⟨x, y⟩ := fun _ _ => rfl
  refine pbody Tryz.func107 rfl (N := 43) rfl rfl (by simp) (by simp [noIds]) fun σ => ?_
  cases hq : (T.getD newTab).b.atI i with
  | none =>
    rw [hq] at h1
    (try ((first | with_reducible refine dops_go ?_ | with_reducible refine OKv_go ?_ | with_reducible refine OKr_go ?_); simp [-cellOK, rg_cells, hrf, hrq, hrp, pr_cells, pr_fold, pr_put, pr_putO, tabO])); repeat' (first | refine awp_seq ?_ | refine awp_block ?_ | (refine awp_skip ?_; try simp) | (refine awp_exit ?_; try simp) | (refine awp_ret ?_; try simp) | (refine retP_same (by simp) ?_; simp) | (refine retP_no (by simp) (by simp [noIds]) (by repeat (first | assumption | exact Ext.refl _ | refine ext_new' ?_ | refine Ext.setF ?_ (by first | assumption | (simp [new_nx', St.set, fresh_none]; done) | exact ext_fresh (by assumption)))) ?_; simp [-cellOK, rg_cells, hrf, hrq, hrp, pr_cells, pr_fold, pr_put, pr_putO, tabO, new_m, set_m, new_nx']) | ((first | refine awp_reg ?_ | refine awp_drawT (fun _ => false) mixed (by decide +kernel) ?_ | refine awp_drawT isCallO mixed (by decide +kernel) ?_ | refine PCalls.use (ho) ?_ | refine Or.inl ⟨_, Or.inl (ho), ?_⟩ | refine PCalls.use (h1) ?_ | refine Or.inl ⟨_, Or.inl (h1), ?_⟩); simp [-cellOK, rg_cells, hrf, hrq, hrp, pr_cells, pr_fold, pr_put, pr_putO, tabO]) | (refine guarded_split ?_ ?_ <;> (intro hg; simp only [hg]; simp [-cellOK, rg_cells, hrf, hrq, hrp, pr_cells, pr_fold, pr_put, pr_putO, tabO])) | (apply awp_cond_t; focus (simp [-cellOK, rg_cells, hrf, hrq, hrp, pr_cells, pr_fold, pr_put, pr_putO, tabO]; done)) | (apply awp_cond_f; focus (simp [-cellOK, rg_cells, hrf, hrq, hrp, pr_cells, pr_fold, pr_put, pr_putO, tabO]; done)) | (refine awp_cond ?_; simp [-cellOK, rg_cells, hrf, hrq, hrp, pr_cells, pr_fold, pr_put, pr_putO, tabO]; refine ⟨?_, ?_⟩ <;> intro hc) | fail)
  | some p =>
    rw [hq] at h1
    have hi : 0 ≤ i ∧ i < (T.getD newTab).b.sz := by
      unfold Tr.atI at hq
      split at hq
      · rename_i h0
        refine ⟨h0, ?_⟩
        apply Classical.byContradiction
        intro hn
        rw [Tr.at_none _ _ (by omega)] at hq; cases hq
      · cases hq
    have w := wrap64 (n := i + 1) (by omega) (by omega)
    cases hq2 : (T.getD newTab).b.atI (i + 1) with
    | none =>
      rw [hq2] at h2
      (try ((first | with_reducible refine dops_go ?_ | with_reducible refine OKv_go ?_ | with_reducible refine OKr_go ?_); simp [-cellOK, rg_cells, hrf, hrq, hrp, pr_cells, pr_fold, pr_put, pr_putO, tabO, w])); repeat' (first | refine awp_seq ?_ | refine awp_block ?_ | (refine awp_skip ?_; try simp) | (refine awp_exit ?_; try simp) | (refine awp_ret ?_; try simp) | (refine retP_same (by simp) ?_; simp) | (refine retP_no (by simp) (by simp [noIds]) (by repeat (first | assumption | exact Ext.refl _ | refine ext_new' ?_ | refine Ext.setF ?_ (by first | assumption | (simp [new_nx', St.set, fresh_none]; done) | exact ext_fresh (by assumption)))) ?_; simp [-cellOK, rg_cells, hrf, hrq, hrp, pr_cells, pr_fold, pr_put, pr_putO, tabO, w, new_m, set_m, new_nx']) | ((first | refine awp_reg ?_ | refine awp_drawT (fun _ => false) mixed (by decide +kernel) ?_ | refine awp_drawT isCallO mixed (by decide +kernel) ?_ | refine PCalls.use (ho) ?_ | refine Or.inl ⟨_, Or.inl (ho), ?_⟩ | refine PCalls.use (h1) ?_ | refine Or.inl ⟨_, Or.inl (h1), ?_⟩ | refine PCalls.use (h2) ?_ | refine Or.inl ⟨_, Or.inl (h2), ?_⟩); simp [-cellOK, rg_cells, hrf, hrq, hrp, pr_cells, pr_fold, pr_put, pr_putO, tabO, w]) | (refine guarded_split ?_ ?_ <;> (intro hg; simp only [hg]; simp [-cellOK, rg_cells, hrf, hrq, hrp, pr_cells, pr_fold, pr_put, pr_putO, tabO, w])) | (apply awp_cond_t; focus (simp [-cellOK, rg_cells, hrf, hrq, hrp, pr_cells, pr_fold, pr_put, pr_putO, tabO, w]; done)) | (apply awp_cond_f; focus (simp [-cellOK, rg_cells, hrf, hrq, hrp, pr_cells, pr_fold, pr_put, pr_putO, tabO, w]; done)) | (refine awp_cond ?_; simp [-cellOK, rg_cells, hrf, hrq, hrp, pr_cells, pr_fold, pr_put, pr_putO, tabO, w]; refine ⟨?_, ?_⟩ <;> intro hc) | fail)
    | some q =>
      rw [hq2] at h2
      (try ((first | with_reducible refine dops_go ?_ | with_reducible refine OKv_go ?_ | with_reducible refine OKr_go ?_); simp [-cellOK, rg_cells, hrf, hrq, hrp, pr_cells, pr_fold, pr_put, pr_putO, tabO, w])); repeat' (first | refine awp_seq ?_ | refine awp_block ?_ | (refine awp_skip ?_; try simp) | (refine awp_exit ?_; try simp) | (refine awp_ret ?_; try simp) | (refine retP_same (by simp) ?_; simp) | (refine retP_no (by simp) (by simp [noIds]) (by repeat (first | assumption | exact Ext.refl _ | refine ext_new' ?_ | refine Ext.setF ?_ (by first | assumption | (simp [new_nx', St.set, fresh_none]; done) | exact ext_fresh (by assumption)))) ?_; simp [-cellOK, rg_cells, hrf, hrq, hrp, pr_cells, pr_fold, pr_put, pr_putO, tabO, w, new_m, set_m, new_nx']) | ((first | refine awp_reg ?_ | refine awp_drawT (fun _ => false) mixed (by decide +kernel) ?_ | refine awp_drawT isCallO mixed (by decide +kernel) ?_ | refine PCalls.use (ho) ?_ | refine Or.inl ⟨_, Or.inl (ho), ?_⟩ | refine PCalls.use (h1) ?_ | refine Or.inl ⟨_, Or.inl (h1), ?_⟩ | refine PCalls.use (h2) ?_ | refine Or.inl ⟨_, Or.inl (h2), ?_⟩); simp [-cellOK, rg_cells, hrf, hrq, hrp, pr_cells, pr_fold, pr_put, pr_putO, tabO, w]) | (refine guarded_split ?_ ?_ <;> (intro hg; simp only [hg]; simp [-cellOK, rg_cells, hrf, hrq, hrp, pr_cells, pr_fold, pr_put, pr_putO, tabO, w])) | (apply awp_cond_t; focus (simp [-cellOK, rg_cells, hrf, hrq, hrp, pr_cells, pr_fold, pr_put, pr_putO, tabO, w]; done)) | (apply awp_cond_f; focus (simp [-cellOK, rg_cells, hrf, hrq, hrp, pr_cells, pr_fold, pr_put, pr_putO, tabO, w]; done)) | (refine awp_cond ?_; simp [-cellOK, rg_cells, hrf, hrq, hrp, pr_cells, pr_fold, pr_put, pr_putO, tabO, w]; refine ⟨?_, ?_⟩ <;> intro hc) | fail)
def placeT (T : Tab) (b : Int) : Int := (T.b.cut b).1.sz
theorem place_calls (T : Tab) (b : Int) (hz : T.b.sz < 2 ^ 40) : PCalls Tryz.prog 155 [tabP T, .raw (.int .u64 b)] (.raw (.int .i64 (placeT T b))) := by
  have hs := trSplit_calls T.b b (by omega)
  have hl := trLen_calls (T.b.cut b).1
  unfold placeT
  generalize (T.b.cut b).1 = U at hs hl ⊢
  generalize (T.b.cut b).2 = V at hs
  rw [tabP_eq]
  refine pbody Tryz.func155 rfl (N := 18) rfl rfl (by simp) (by simp [noIds]) fun σ => ?_
  (try ((first | with_reducible refine dops_go ?_ | with_reducible refine OKv_go ?_ | with_reducible refine OKr_go ?_); simp [-cellOK])); repeat' (first | refine awp_seq ?_ | refine awp_block ?_ | (refine awp_skip ?_; try simp) | (refine awp_exit ?_; try simp) | (refine awp_ret ?_; try simp) | (refine retP_same (by simp) ?_; simp) | (refine retP_no (by simp) (by simp [noIds]) (by repeat (first | assumption | exact Ext.refl _ | refine ext_new' ?_ | refine Ext.setF ?_ (by first | assumption | (simp [new_nx', St.set, fresh_none]; done) | exact ext_fresh (by assumption)))) ?_; simp [-cellOK, new_m, set_m, new_nx']) | ((first | refine awp_reg ?_ | refine awp_drawT (fun _ => false) mixed (by decide +kernel) ?_ | refine awp_drawT isCallO mixed (by decide +kernel) ?_ | refine PCalls.use (hs) ?_ | refine Or.inl ⟨_, Or.inl (hs), ?_⟩ | refine PCalls.use (hl) ?_ | refine Or.inl ⟨_, Or.inl (hl), ?_⟩); simp [-cellOK]) | (refine guarded_split ?_ ?_ <;> (intro hg; simp only [hg]; simp [-cellOK])) | (apply awp_cond_t; focus (simp [-cellOK]; done)) | (apply awp_cond_f; focus (simp [-cellOK]; done)) | (refine awp_cond ?_; simp [-cellOK]; refine ⟨?_, ?_⟩ <;> intro hc) | fail)
/-- Which atom has an address. -/
def ofT (T : Option Tab) (a : Int) : Int := placeT (T.getD newTab) (a + 1) - 1
theorem tabOf_calls (T : Option Tab) (a : Int) (h0 : 0 ≤ a) (h1 : a < 4294967296) (hz : (T.getD newTab).b.sz < 2 ^ 40) : PCalls Tryz.prog 106 [tabO T, .raw (.int .u32 a)] (.raw (.int .i64 (ofT T a))) := by
  have ho := tabOwn_calls T
  have hp := place_calls (T.getD newTab) (a + 1) hz
  have hpn : 0 ≤ placeT (T.getD newTab) (a + 1) := Tr.sz_nn _
  have hpz : placeT (T.getD newTab) (a + 1) < 2 ^ 40 := by
    have := Tr.cut_sz (a + 1) (T.getD newTab).b
    have h2 := ((T.getD newTab).b.cut (a + 1)).2.sz_nn
    unfold placeT; omega
  unfold ofT
  generalize placeT (T.getD newTab) (a + 1) = x at *
  have w1 : IntKind.u64.wrap a = a := wrapU64 (by omega) (by omega)
  have w2 : IntKind.u64.wrap (a + 1) = a + 1 := wrapU64 (by omega) (by omega)
  have w3 := wrap64 (n := x - 1) (by omega) (by omega)
  refine pbody Tryz.func106 rfl (N := 12) rfl rfl (by simp) (by simp [noIds]) fun σ => ?_
  (try ((first | with_reducible refine dops_go ?_ | with_reducible refine OKv_go ?_ | with_reducible refine OKr_go ?_); simp [-cellOK, w1, w2, w3])); repeat' (first | refine awp_seq ?_ | refine awp_block ?_ | (refine awp_skip ?_; try simp) | (refine awp_exit ?_; try simp) | (refine awp_ret ?_; try simp) | (refine retP_same (by simp) ?_; simp) | (refine retP_no (by simp) (by simp [noIds]) (by repeat (first | assumption | exact Ext.refl _ | refine ext_new' ?_ | refine Ext.setF ?_ (by first | assumption | (simp [new_nx', St.set, fresh_none]; done) | exact ext_fresh (by assumption)))) ?_; simp [-cellOK, w1, w2, w3, new_m, set_m, new_nx']) | ((first | refine awp_reg ?_ | refine awp_drawT (fun _ => false) mixed (by decide +kernel) ?_ | refine awp_drawT isCallO mixed (by decide +kernel) ?_ | refine PCalls.use (ho) ?_ | refine Or.inl ⟨_, Or.inl (ho), ?_⟩ | refine PCalls.use (hp) ?_ | refine Or.inl ⟨_, Or.inl (hp), ?_⟩); simp [-cellOK, w1, w2, w3]) | (refine guarded_split ?_ ?_ <;> (intro hg; simp only [hg]; simp [-cellOK, w1, w2, w3])) | (apply awp_cond_t; focus (simp [-cellOK, w1, w2, w3]; done)) | (apply awp_cond_f; focus (simp [-cellOK, w1, w2, w3]; done)) | (refine awp_cond ?_; simp [-cellOK, w1, w2, w3]; refine ⟨?_, ?_⟩ <;> intro hc) | fail)
end Go.Proofs.YtanimmdlgmkmkaaGreat.Av


/- Tables of atoms, the plain law: what a table holds of ranges that were added, and taken away. -/
namespace Go.Proofs.YtanimmdlgmkmkaaGreat.Av
set_option linter.unusedSimpArgs false
set_option linter.unusedVariables false

theorem nodup_le {α : Type} [DecidableEq α] : ∀ {l m : List α}, l.Nodup → (∀ x ∈ l, x ∈ m) → l.length ≤ m.length
  | [], _, _, _ => by simp
  | a :: l, m, h, hs => by
    have h' := List.nodup_cons.1 h
    have := nodup_le (m := m.erase a) h'.2 fun x hx => by
      have hne : x ≠ a := fun e => h'.1 (e ▸ hx)
      exact (List.mem_erase_of_ne hne).2 (hs x (by simp [hx]))
    have hl := List.length_erase_of_mem (hs a (by simp))
    have hpos : 0 < m.length := List.length_pos_of_mem (hs a (by simp))
    simp only [List.length_cons]
    omega
def optc (n : Nat) : Option Int := if n = 0 then none else some n
theorem optc_getD (n : Nat) : (optc n).getD 0 = n := by
  unfold optc
  split
  · rename_i h; subst h; rfl
  · rfl
theorem optc_none (n : Nat) : optc n = none ↔ n = 0 := by
  unfold optc
  split
  · rename_i h; simp [h]
  · rename_i h; simp [h]

/-- A tree that counts the elements of a list. -/
structure KeyRep (t : Tr) (l : List Int) : Prop where
  srt : Tr.Srt t.toL
  get : ∀ k, t.get k = optc (l.count k)
theorem KeyRep.mem {t : Tr} {l : List Int} (h : KeyRep t l) (k : Int) : k ∈ t.toL.map (·.1) ↔ k ∈ l := by
  have := Tr.get_none h.srt k
  rw [h.get, optc_none, List.count_eq_zero] at this
  constructor
  · intro hk
    apply Classical.byContradiction
    intro hn
    exact this.1 hn hk
  · intro hk
    apply Classical.byContradiction
    intro hn
    exact this.2 hn hk
theorem Tr.Srt.nodup {l : List (Int × Int)} (h : Tr.Srt l) : (l.map (·.1)).Nodup := by
  unfold Tr.Srt at h
  unfold List.Nodup
  rw [List.pairwise_map]
  exact h.imp fun hab => by omega
theorem KeyRep.sz {t : Tr} {l : List Int} (h : KeyRep t l) : t.sz ≤ l.length := by
  have := nodup_le h.srt.nodup fun x hx => (h.mem x).1 hx
  rw [Tr.sz_toL]
  simp at this
  omega
theorem KeyRep.perm {t : Tr} {l m : List Int} (h : KeyRep t l) (p : l.Perm m) : KeyRep t m := ⟨h.srt, fun k => by rw [h.get, p.count_eq]⟩
theorem KeyRep.more {t : Tr} {l : List Int} (h : KeyRep t l) (k : Int) (hl : l.length < 1024) : MoreOK t k 1 ∧ KeyRep (moreT t k 1) (k :: l) := by
  have hs := h.sz
  have hc := List.count_le_length (a := k) (l := l)
  have hg : (t.get k).getD 0 = (l.count k : Nat) := by rw [h.get, optc_getD]
  have hne : ¬ (t.get k).getD 0 + 1 = 0 := by omega
  refine ⟨⟨by omega, by omega, by omega, fun e => absurd e hne, fun _ => by omega⟩, ?_⟩
  unfold moreT
  rw [if_neg hne]
  refine ⟨by rw [Tr.with_toL t _ _ h.srt]; exact Tr.put_srt h.srt _ _, fun k2 => ?_⟩
  rw [Tr.get_with h.srt, List.count_cons, hg]
  by_cases e : k2 = k
  · subst e
    rw [if_pos rfl]
    unfold optc
    simp
  · rw [if_neg e, h.get]
    have : (k == k2) = false := by simp; omega
    simp [this]
theorem Tr.get_without {t : Tr} (h : Tr.Srt t.toL) (k k2 : Int) : (t.without k).get k2 = if k2 = k then none else t.get k2 := by
  have hs : Tr.Srt (t.without k).toL := by rw [Tr.without_toL t k h]; exact h.filter _
  rw [Tr.get_eq _ _ hs, Tr.without_toL t k h, Tr.get_eq _ _ h, List.find?_filter]
  by_cases e : k2 = k
  · subst e
    rw [if_pos rfl]
    have : t.toL.find? (fun a => decide ((!decide (a.1 = k2)) = true ∧ decide (a.1 = k2) = true)) = none := List.find?_eq_none.2 fun e he => by simp
    rw [this]; rfl
  · rw [if_neg e]
    congr 2
    funext a
    by_cases q : a.1 = k2
    · have : ¬ a.1 = k := by omega
      simp [q]; omega
    · simp [q]
theorem KeyRep.less {t : Tr} {l : List Int} {k : Int} (h : KeyRep t (k :: l)) (hl : l.length < 2 ^ 30) : MoreOK t k (-1) ∧ KeyRep (moreT t k (-1)) l := by
  have hs := h.sz
  have hc := List.count_le_length (a := k) (l := l)
  have hg0 : t.get k = some ((l.count k : Nat) + 1) := by
    rw [h.get, List.count_cons_self]; unfold optc; simp
  have hg : (t.get k).getD 0 = (l.count k : Nat) + 1 := by rw [hg0]; rfl
  simp only [List.length_cons] at hs
  refine ⟨⟨by omega, by omega, by omega, fun _ => by simp [hg0], fun e => by simp [hg0] at e⟩, ?_⟩
  unfold moreT
  rw [hg]
  split
  · rename_i h0
    refine ⟨by rw [Tr.without_toL t k h.srt]; exact h.srt.filter _, fun k2 => ?_⟩
    rw [Tr.get_without h.srt, h.get, List.count_cons]
    by_cases e : k2 = k
    · subst e
      rw [if_pos rfl]
      have : l.count k2 = 0 := by omega
      rw [this]; rfl
    · rw [if_neg e]
      have : (k == k2) = false := by simp; omega
      simp [this]
  · rename_i h0
    refine ⟨by rw [Tr.with_toL t _ _ h.srt]; exact Tr.put_srt h.srt _ _, fun k2 => ?_⟩
    rw [Tr.get_with h.srt, h.get, List.count_cons]
    by_cases e : k2 = k
    · subst e
      rw [if_pos rfl]
      have : ¬ l.count k2 = 0 := by omega
      unfold optc
      rw [if_neg this]
      congr 1; omega
    · rw [if_neg e]
      have : (k == k2) = false := by simp; omega
      simp [this]

def endsL (L : List Rg) : List Int := L.flatMap endsR
/-- A table that holds these ranges. -/
structure TabRep (T : Tab) (L : List Rg) : Prop where
  b : KeyRep T.b (0 :: endsL L)
  g : KeyRep T.g (L.map keyR)
  n : T.n = L.length
  ok : ∀ r ∈ L, RgOK r
theorem rep_new : TabRep newTab [] where
  b := ⟨by simp [newTab, Tr.toL, Tr.Srt], fun k => by
    simp only [newTab, Tr.get, endsL, List.flatMap_nil]
    by_cases h1 : k < 0
    · have : ((0 : Int) == k) = false := by simp; omega
      simp [h1, List.count_cons, this, optc]
    · by_cases h2 : 0 < k
      · have : ((0 : Int) == k) = false := by simp; omega
        simp [h1, h2, List.count_cons, this, optc]
      · have : k = 0 := by omega
        subst this; simp [optc]⟩
  g := ⟨by simp [newTab, Tr.toL, Tr.Srt], fun k => by simp [newTab, Tr.get, optc]⟩
  n := rfl
  ok := by simp
theorem endsR_len (r : Rg) : (endsR r).length ≤ 2 := by unfold endsR; split <;> simp
theorem endsL_len (L : List Rg) : (endsL L).length ≤ 2 * L.length := by
  induction L with
  | nil => simp [endsL]
  | cons r L ih =>
    have := endsR_len r
    simp only [endsL, List.flatMap_cons, List.length_append, List.length_cons] at ih ⊢
    omega
theorem fold_more : ∀ (E : List Int) {t : Tr} {l : List Int}, KeyRep t l → l.length + E.length < 1024 →
    KeyRep (E.foldl (fun b e => moreT b e 1) t) (E ++ l) ∧ ∀ (i : Nat) (e : Int), E[i]? = some e → MoreOK ((E.take i).foldl (fun b e => moreT b e 1) t) e 1
  | [], t, l, h, _ => ⟨h, fun i e he => by simp at he⟩
  | x :: E, t, l, h, hl => by
    simp only [List.length_cons] at hl
    obtain ⟨h1, h2⟩ := h.more x (by omega)
    obtain ⟨h3, h4⟩ := fold_more E h2 (by simp only [List.length_cons]; omega)
    refine ⟨h3.perm ?_, fun i e he => ?_⟩
    · exact List.perm_middle
    · cases i with
      | zero => simp only [List.getElem?_cons_zero, Option.some.injEq] at he; subst he; exact h1
      | succ i => exact h4 i e (by simpa using he)
theorem fold_less : ∀ (E : List Int) {t : Tr} {l : List Int}, KeyRep t (E ++ l) → l.length + E.length < 2 ^ 29 →
    KeyRep (E.foldl (fun b e => moreT b e (-1)) t) l ∧ ∀ (i : Nat) (e : Int), E[i]? = some e → MoreOK ((E.take i).foldl (fun b e => moreT b e (-1)) t) e (-1)
  | [], t, l, h, _ => ⟨h, fun i e he => by simp at he⟩
  | x :: E, t, l, h, hl => by
    simp only [List.length_cons] at hl
    obtain ⟨h1, h2⟩ := KeyRep.less (l := E ++ l) h (by simp only [List.length_append]; omega)
    obtain ⟨h3, h4⟩ := fold_less E h2 (by omega)
    refine ⟨h3, fun i e he => ?_⟩
    cases i with
    | zero => simp only [List.getElem?_cons_zero, Option.some.injEq] at he; subst he; exact h1
    | succ i => exact h4 i e (by simpa using he)
theorem rep_add {T : Tab} {L : List Rg} (h : TabRep T L) {r : Rg} (hr : RgOK r) (hl : L.length < 500) : WithOK T r 1 ∧ TabRep (T.with_ r 1) (r :: L) := by
  have he := endsL_len L
  have hr2 := endsR_len r
  obtain ⟨g1, g2⟩ := h.g.more (keyR r) (by simp only [List.length_map]; omega)
  obtain ⟨b1, b2⟩ := fold_more (endsR r) h.b (by simp only [List.length_cons]; omega)
  have hn := h.n
  refine ⟨⟨hr, by omega, by omega, g1, b2⟩, ⟨?_, g2, ?_, ?_⟩⟩
  · refine b1.perm ?_
    simp only [endsL, List.flatMap_cons]
    exact List.perm_middle
  · show T.n + 1 = _
    simp only [List.length_cons]; omega
  · intro x hx
    rcases List.mem_cons.1 hx with rfl | hx
    · exact hr
    · exact h.ok x hx
theorem TabRep.perm {T : Tab} {L M : List Rg} (h : TabRep T L) (p : L.Perm M) : TabRep T M where
  b := h.b.perm ((p.flatMap_right endsR).cons 0)
  g := h.g.perm (p.map keyR)
  n := by rw [h.n, p.length_eq]
  ok := fun r hr => h.ok r (p.mem_iff.2 hr)
theorem rep_drop {T : Tab} {L : List Rg} {r : Rg} (h : TabRep T (r :: L)) (hl : L.length < 500) : WithOK T r (-1) ∧ TabRep (T.with_ r (-1)) L := by
  have he := endsL_len L
  have hr2 := endsR_len r
  obtain ⟨g1, g2⟩ := KeyRep.less (l := L.map keyR) h.g (by simp only [List.length_map]; omega)
  have hb : KeyRep T.b (endsR r ++ 0 :: endsL L) := h.b.perm (by
    simp only [endsL, List.flatMap_cons]
    exact List.perm_middle.symm)
  obtain ⟨b1, b2⟩ := fold_less (endsR r) hb (by simp only [List.length_cons]; omega)
  have hn := h.n
  simp only [List.length_cons] at hn
  exact ⟨⟨h.ok r (by simp), by omega, by omega, g1, b2⟩, ⟨b1, g2, by show T.n + -1 = _; omega, fun x hx => h.ok x (by simp [hx])⟩⟩
theorem keyR_inj {r s : Rg} (hr : RgOK r) (hs : RgOK s) (h : keyR r = keyR s) : r = s := by
  obtain ⟨a1, a2, a3, a4⟩ := hr
  obtain ⟨b1, b2, b3, b4⟩ := hs
  unfold keyR at h
  cases r; cases s
  simp only [Rg.mk.injEq] at *
  omega
theorem rep_count {T : Tab} {L : List Rg} (h : TabRep T L) {r : Rg} (hr : RgOK r) : (T.g.get (keyR r)).getD 0 = (L.count r : Nat) := by
  rw [h.g.get, optc_getD]
  congr 1
  have := h.ok
  clear h
  induction L with
  | nil => rfl
  | cons s L ih =>
    rw [List.map_cons, List.count_cons, List.count_cons, ih fun x hx => this x (by simp [hx])]
    congr 1
    by_cases e : s = r
    · subst e; simp
    · have : keyR s ≠ keyR r := fun he => e (keyR_inj (this s (by simp)) hr he)
      simp [e, this]

/-! ### Cuts -/
structure Cuts (c : List Int) (L : List Rg) : Prop where
  srt : c.Pairwise (· < ·)
  mem : ∀ x, x ∈ c ↔ x = 0 ∨ ∃ r ∈ L, x ∈ endsR r
theorem cuts_unique : ∀ {c d : List Int}, c.Pairwise (· < ·) → d.Pairwise (· < ·) → (∀ x, x ∈ c ↔ x ∈ d) → c = d
  | [], [], _, _, _ => rfl
  | [], y :: d, _, _, h => by have := (h y).2 (by simp); simp at this
  | x :: c, [], _, _, h => by have := (h x).1 (by simp); simp at this
  | x :: c, y :: d, hc, hd, h => by
    obtain ⟨h1, h2⟩ := List.pairwise_cons.1 hc
    obtain ⟨h3, h4⟩ := List.pairwise_cons.1 hd
    have hxy : x = y := by
      rcases List.mem_cons.1 ((h x).1 (by simp)) with e | e
      · exact e
      · rcases List.mem_cons.1 ((h y).2 (by simp)) with e2 | e2
        · exact e2.symm
        · have := h1 y e2; have := h3 x e; omega
    subst hxy
    congr 1
    refine cuts_unique h2 h4 fun z => ?_
    constructor
    · intro hz
      rcases List.mem_cons.1 ((h z).1 (by simp [hz])) with e | e
      · subst e; have := h1 z hz; omega
      · exact e
    · intro hz
      rcases List.mem_cons.1 ((h z).2 (by simp [hz])) with e | e
      · subst e; have := h3 z hz; omega
      · exact e
def keysT (T : Tab) : List Int := T.b.toL.map (·.1)
theorem rep_cuts {T : Tab} {L : List Rg} (h : TabRep T L) : Cuts (keysT T) L where
  srt := by
    have := h.b.srt
    unfold keysT
    rw [List.pairwise_map]
    exact this
  mem := fun x => by
    unfold keysT
    rw [h.b.mem, List.mem_cons]
    simp only [endsL, List.mem_flatMap]
theorem endsR_mem {r : Rg} (hr : RgOK r) {x : Int} (hx : x ∈ endsR r) : 0 ≤ x ∧ x < 4294967296 := by
  obtain ⟨a1, a2, a3, a4⟩ := hr
  unfold endsR at hx
  split at hx
  · simp only [List.mem_cons, List.not_mem_nil, or_false] at hx; omega
  · simp only [List.mem_cons, List.not_mem_nil, or_false] at hx; omega
theorem Cuts.range {c : List Int} {L : List Rg} (h : Cuts c L) (ok : ∀ r ∈ L, RgOK r) {x : Int} (hx : x ∈ c) : 0 ≤ x ∧ x < 4294967296 := by
  rcases (h.mem x).1 hx with rfl | ⟨r, hr, hx⟩
  · omega
  · exact endsR_mem (ok r hr) hx
/-- The atoms between cuts. -/
def atomsC : List Int → List Rg
  | [] => []
  | [x] => [⟨x, 4294967295⟩]
  | x :: y :: l => ⟨x, y - 1⟩ :: atomsC (y :: l)
theorem atomsC_len : ∀ c : List Int, (atomsC c).length = c.length
  | [] => rfl
  | [x] => rfl
  | x :: y :: l => by simp only [atomsC, List.length_cons, atomsC_len (y :: l)]
theorem atomsC_get : ∀ (c : List Int) (i : Nat), (atomsC c)[i]? = (c[i]?).map fun x => ⟨x, match c[i + 1]? with | some y => y - 1 | none => 4294967295⟩
  | [], i => by simp [atomsC]
  | [x], 0 => by simp [atomsC]
  | [x], i + 1 => by simp [atomsC]
  | x :: y :: l, 0 => by simp [atomsC]
  | x :: y :: l, i + 1 => by simp only [atomsC, List.getElem?_cons_succ, atomsC_get (y :: l) i]
/-- What is cut out of a range. -/
def cutOne (r a : Rg) : Option Rg := if max a.lo r.lo ≤ min a.hi r.hi then some ⟨max a.lo r.lo, min a.hi r.hi⟩ else none
def cutC (c : List Int) (r : Rg) : List Rg := (atomsC c).filterMap (cutOne r)
theorem countP_srt {c : List Int} (h : c.Pairwise (· < ·)) (a : Int) : ∀ (i : Nat) (x : Int), c[i]? = some x → (x ≤ a ↔ i < c.countP fun y => decide (y ≤ a)) := by
  induction c with
  | nil => intro i x hx; simp at hx
  | cons y c ih =>
    obtain ⟨h1, h2⟩ := List.pairwise_cons.1 h
    intro i x hx
    cases i with
    | zero =>
      simp only [List.getElem?_cons_zero, Option.some.injEq] at hx
      subst hx
      rw [List.countP_cons]
      by_cases q : y ≤ a
      · simp [q]
      · have : c.countP (fun y => decide (y ≤ a)) = 0 := List.countP_eq_zero.2 fun z hz => by have := h1 z hz; simp; omega
        simp [q, this]
    | succ i =>
      simp only [List.getElem?_cons_succ] at hx
      have := ih h2 i x hx
      rw [List.countP_cons]
      by_cases q : y ≤ a
      · simp only [q, decide_true, if_true]; rw [this]; omega
      · have h3 := h1 x (List.mem_of_getElem? hx)
        have : c.countP (fun y => decide (y ≤ a)) = 0 := List.countP_eq_zero.2 fun z hz => by have := h1 z hz; simp; omega
        rw [this]
        simp only [q, decide_false, Bool.false_eq_true, if_false]
        omega
end Go.Proofs.YtanimmdlgmkmkaaGreat.Av


/- Networks: where a packet goes, the plain law: it comes to an end. -/
namespace Go.Proofs.YtanimmdlgmkmkaaGreat.Av
set_option linter.unusedSimpArgs false
set_option linter.unusedVariables false

/-- The device that is next. -/
def nextDev (n : Nw) (p : Pt) : Int := ((nextM n.t p).getD ⟨0, 0⟩).dev
/-- A packet's way from a device on, behind these. -/
def walkT (n : Nw) (a : Int) : Nat → Int → List Int → Tk
  | 0, _, p => ⟨p, 4, ⟨0, 0⟩⟩
  | f + 1, d, p => if d ∈ p then ⟨p ++ [d], 4, ⟨0, 0⟩⟩ else if (stepF n d a).1 = 4 then walkT n a f (nextDev n (stepF n d a).2) (p ++ [d]) else ⟨p ++ [d], (stepF n d a).1, (stepF n d a).2⟩
/-- All devices to which a packet can come. -/
def devsN (n : Nw) (d : Int) : List Int := d :: n.t.links.flatMap fun l => [l.a.dev, l.b.dev]
theorem devsN_len (n : Nw) (d : Int) : (devsN n d).length = 1 + 2 * n.t.links.length := by
  unfold devsN
  generalize n.t.links = L
  induction L with
  | nil => rfl
  | cons l L ih => simp only [List.flatMap_cons, List.length_cons, List.length_append, List.length_nil] at ih ⊢; omega
def traceF (n : Nw) (d a : Int) : Tk := walkT n a (2 + 2 * n.t.links.length) d []
theorem joinM_vals (L : List Lk) : ∀ e ∈ joinM L, ∃ l ∈ L, e.2 = l.a ∨ e.2 = l.b := by
  have : ∀ (L M : List Lk) (m : List (Pt × Pt)), (∀ e ∈ m, ∃ l ∈ M, e.2 = l.a ∨ e.2 = l.b) → ∀ e ∈ L.foldl (fun m l => upd (upd m l.a l.b) l.b l.a) m, ∃ l ∈ M ++ L, e.2 = l.a ∨ e.2 = l.b := by
    intro L
    induction L with
    | nil => intro M m h e he; simpa using h e he
    | cons l L ih =>
      intro M m h e he
      rw [List.foldl_cons] at he
      have := ih (M ++ [l]) (upd (upd m l.a l.b) l.b l.a) ?_ e he
      · simpa using this
      · intro e he
        unfold upd at he
        rcases List.mem_append.1 he with he | he
        · rcases List.mem_append.1 (List.mem_filter.1 he).1 with he | he
          · obtain ⟨k, hk, h2⟩ := h e (List.mem_filter.1 he).1
            exact ⟨k, by simp [hk], h2⟩
          · simp only [List.mem_singleton] at he; subst he
            exact ⟨l, by simp, .inr rfl⟩
        · simp only [List.mem_singleton] at he; subst he
          exact ⟨l, by simp, .inl rfl⟩
  have := this L [] [] (by simp)
  rw [List.nil_append] at this
  exact this
theorem nextDev_mem {n : Nw} {p : Pt} {d : Int} (h : (nextM n.t p).isSome = true) : nextDev n p ∈ devsN n d := by
  unfold nextDev
  obtain ⟨q, hq⟩ := Option.isSome_iff_exists.1 h
  rw [hq]
  unfold nextM at hq
  rw [Option.map_eq_some_iff] at hq
  obtain ⟨e, he, rfl⟩ := hq
  obtain ⟨l, hl, h2⟩ := joinM_vals _ e (List.mem_of_find?_eq_some he)
  unfold devsN
  rw [List.mem_cons, List.mem_flatMap]
  right
  refine ⟨l, hl, ?_⟩
  rcases h2 with h2 | h2 <;> simp [h2]
theorem step_four {n : Nw} {d a : Int} (h : (stepF n d a).1 = 4) : (nextM n.t (stepF n d a).2).isSome = true := by
  unfold stepF at *
  repeat' split at h
  all_goals first | (simp at h; done) | skip
  rename_i h1 h2 h3 h4
  simp [h1, h2, h3, h4]
/-- A way that is under way. -/
structure Way (n : Nw) (a d0 : Int) (d : Int) (p : List Int) : Prop where
  nd : p.Nodup
  sub : ∀ x ∈ p, x ∈ devsN n d0
  at_ : d ∈ devsN n d0
  res : walkT n a (2 + 2 * n.t.links.length - p.length) d p = traceF n d0 a
theorem Way.len {n : Nw} {a d0 d : Int} {p : List Int} (h : Way n a d0 d p) : p.length ≤ 1 + 2 * n.t.links.length := by
  have := nodup_le h.nd h.sub
  rwa [devsN_len] at this
theorem Way.start (n : Nw) (a d0 : Int) : Way n a d0 d0 [] := ⟨by simp, by simp, by simp [devsN], rfl⟩
theorem Way.again {n : Nw} {a d0 d : Int} {p : List Int} (h : Way n a d0 d p) (hd : d ∈ p) : traceF n d0 a = ⟨p ++ [d], 4, ⟨0, 0⟩⟩ := by
  have hl := h.len
  have hr := h.res
  rw [show 2 + 2 * n.t.links.length - p.length = (1 + 2 * n.t.links.length - p.length) + 1 by omega, walkT, if_pos hd] at hr
  exact hr.symm
theorem Way.fin {n : Nw} {a d0 d : Int} {p : List Int} (h : Way n a d0 d p) (hd : d ∉ p) (hs : (stepF n d a).1 ≠ 4) : traceF n d0 a = ⟨p ++ [d], (stepF n d a).1, (stepF n d a).2⟩ := by
  have hl := h.len
  have hr := h.res
  rw [show 2 + 2 * n.t.links.length - p.length = (1 + 2 * n.t.links.length - p.length) + 1 by omega, walkT, if_neg hd, if_neg hs] at hr
  exact hr.symm
theorem Way.on {n : Nw} {a d0 d : Int} {p : List Int} (h : Way n a d0 d p) (hd : d ∉ p) (hs : (stepF n d a).1 = 4) : Way n a d0 (nextDev n (stepF n d a).2) (p ++ [d]) := by
  have hl := h.len
  have hr := h.res
  rw [show 2 + 2 * n.t.links.length - p.length = (1 + 2 * n.t.links.length - p.length) + 1 by omega, walkT, if_neg hd, if_pos hs] at hr
  refine ⟨?_, ?_, nextDev_mem (step_four hs), ?_⟩
  · rw [List.nodup_append]
    refine ⟨h.nd, by simp, fun x hx y hy e => ?_⟩
    simp only [List.mem_singleton] at hy
    subst hy; subst e; exact hd hx
  · intro x hx
    rcases List.mem_append.1 hx with hx | hx
    · exact h.sub x hx
    · simp only [List.mem_singleton] at hx; subst hx; exact h.at_
  · rw [List.length_append, List.length_singleton, ← hr]
    congr 1; omega
end Go.Proofs.YtanimmdlgmkmkaaGreat.Av


/- Cuts, the plain law: what is cut by places is what is cut by addresses; which ranges a table holds behind many. -/
namespace Go.Proofs.YtanimmdlgmkmkaaGreat.Av
set_option linter.unusedSimpArgs false
set_option linter.unusedVariables false

/-- A sorted list with a number more. -/
def insU (x : Int) : List Int → List Int
  | [] => [x]
  | y :: l => if x < y then x :: y :: l else if y < x then y :: insU x l else y :: l
theorem insU_mem (x z : Int) : ∀ l : List Int, z ∈ insU x l ↔ z = x ∨ z ∈ l
  | [] => by simp [insU]
  | y :: l => by
    simp only [insU]
    split
    · simp
    · split
      · simp only [List.mem_cons, insU_mem x z l]
        constructor
        · rintro (h | h | h)
          · exact .inr (.inl h)
          · exact .inl h
          · exact .inr (.inr h)
        · rintro (h | h | h)
          · exact .inr (.inl h)
          · exact .inl h
          · exact .inr (.inr h)
      · have : x = y := by omega
        subst this; simp
theorem insU_srt (x : Int) : ∀ l : List Int, l.Pairwise (· < ·) → (insU x l).Pairwise (· < ·)
  | [], _ => by simp [insU]
  | y :: l, h => by
    obtain ⟨h1, h2⟩ := List.pairwise_cons.1 h
    simp only [insU]
    split
    · rename_i hx
      refine List.pairwise_cons.2 ⟨fun z hz => ?_, h⟩
      rcases List.mem_cons.1 hz with rfl | hz
      · exact hx
      · have := h1 z hz; omega
    · split
      · rename_i hx
        refine List.pairwise_cons.2 ⟨fun z hz => ?_, insU_srt x l h2⟩
        rcases (insU_mem x z l).1 hz with rfl | hz
        · exact hx
        · exact h1 z hz
      · exact h
/-- The cuts of ranges. -/
def cutsL (L : List Rg) : List Int := (0 :: endsL L).foldr insU []
theorem cutsL_cuts (L : List Rg) : Cuts (cutsL L) L where
  srt := by
    unfold cutsL
    generalize 0 :: endsL L = l
    induction l with
    | nil => simp
    | cons x l ih => exact insU_srt x _ ih
  mem := fun x => by
    have : ∀ l : List Int, x ∈ l.foldr insU [] ↔ x ∈ l := fun l => by
      induction l with
      | nil => simp
      | cons y l ih => rw [List.foldr_cons, insU_mem, ih, List.mem_cons]
    unfold cutsL
    rw [this, List.mem_cons]
    simp only [endsL, List.mem_flatMap]
theorem Cuts.eq {c : List Int} {L : List Rg} (h : Cuts c L) : c = cutsL L := cuts_unique h.srt (cutsL_cuts L).srt fun x => by rw [h.mem, (cutsL_cuts L).mem]

theorem Cuts.pos {c : List Int} {L : List Rg} (h : Cuts c L) {a : Int} (ha : 0 ≤ a) : 0 < c.countP (fun y => decide (y ≤ a)) :=
  List.countP_pos_iff.2 ⟨0, (h.mem 0).2 (.inl rfl), by simpa using ha⟩
/-! ### Ranges that are added, one behind the other -/
def stepL (s : Option (List Rg)) (r : Rg) : Option (List Rg) := if r.hi < r.lo then none else if 500 ≤ (s.getD []).length then none else some (r :: s.getD [])
def RepO : Option Tab → Option (List Rg) → Prop
  | none, none => True
  | some T, some L => TabRep T L ∧ L.length ≤ 500
  | _, _ => False
theorem RepO.get {T : Option Tab} {s : Option (List Rg)} (h : RepO T s) : TabRep (T.getD newTab) (s.getD []) ∧ (s.getD []).length ≤ 500 := by
  cases T with
  | none => cases s with
    | none => exact ⟨rep_new, by simp⟩
    | some L => exact h.elim
  | some T => cases s with
    | none => exact h.elim
    | some L => exact h
theorem RepO.step {T : Option Tab} {s : Option (List Rg)} (h : RepO T s) {r : Rg} (hr : RgOK r) :
    (r.lo ≤ r.hi → (T.getD newTab).n < 500 → WithOK (T.getD newTab) r 1) ∧ RepO (addT T r).1 (stepL s r) := by
  obtain ⟨h1, h2⟩ := h.get
  have hn := h1.n
  refine ⟨fun _ hlt => (rep_add h1 hr (by omega)).1, ?_⟩
  unfold addT stepL
  by_cases q1 : r.hi < r.lo
  · rw [if_pos q1, if_pos q1]; trivial
  · rw [if_neg q1, if_neg q1]
    by_cases q2 : 500 ≤ (s.getD []).length
    · rw [if_pos q2, if_pos (by omega)]; trivial
    · rw [if_neg q2, if_neg (by omega)]
      exact ⟨(rep_add h1 hr (by omega)).2, by simp only [List.length_cons]; omega⟩
/-- The ranges that are held behind many. -/
def heldL (L : List Rg) : List Rg := (L.foldl stepL (some [])).getD []
theorem held_few {L : List Rg} (hle : ∀ r ∈ L, r.lo ≤ r.hi) (hl : L.length ≤ 500) : heldL L = L.reverse := by
  have : ∀ (L M : List Rg), (∀ r ∈ L, r.lo ≤ r.hi) → L.length + M.length ≤ 500 → L.foldl stepL (some M) = some (L.reverse ++ M) := by
    intro L
    induction L with
    | nil => intro M _ _; rfl
    | cons r L ih =>
      intro M h1 h2
      have := h1 r (by simp)
      simp only [List.length_cons] at h2
      have e : stepL (some M) r = some (r :: M) := by
        unfold stepL
        rw [if_neg (by omega), if_neg (by simp only [Option.getD_some]; omega)]; rfl
      rw [List.foldl_cons, e, ih _ (fun x hx => h1 x (by simp [hx])) (by simp only [List.length_cons]; omega)]
      simp
  unfold heldL
  rw [this L [] hle (by simpa using hl)]
  simp
theorem Cuts.perm {c : List Int} {L M : List Rg} (h : Cuts c L) (p : L.Perm M) : Cuts c M := ⟨h.srt, fun x => by
  rw [h.mem]
  constructor
  · rintro (h | ⟨r, hr, hx⟩)
    · exact .inl h
    · exact .inr ⟨r, p.mem_iff.1 hr, hx⟩
  · rintro (h | ⟨r, hr, hx⟩)
    · exact .inl h
    · exact .inr ⟨r, p.mem_iff.2 hr, hx⟩⟩
/-- The program's place of an address, and its atoms, where the table holds these ranges. -/
theorem rep_of {T : Option Tab} {L : List Rg} (h : TabRep (T.getD newTab) L) (a : Int) : ofT T a = ((cutsL L).countP (fun y => decide (y ≤ a)) : Nat) - 1 := by
  unfold ofT placeT
  rw [Tr.cut_len _ _ h.b.srt, ← (rep_cuts h).eq]
  unfold keysT
  rw [List.countP_map]
  congr 2
  apply List.countP_congr
  intro e _
  simp only [Function.comp_apply, decide_eq_true_eq]
  omega
theorem rep_len {T : Option Tab} {L : List Rg} (h : TabRep (T.getD newTab) L) : (T.getD newTab).b.sz = (cutsL L).length := by
  rw [Tr.sz_toL, ← (rep_cuts h).eq]; unfold keysT; simp
theorem rep_atom {T : Option Tab} {L : List Rg} (h : TabRep (T.getD newTab) L) (i : Int) : atomT T i = if 0 ≤ i then (atomsC (cutsL L))[i.toNat]? else none := by
  have hc := rep_cuts h
  have hr : ∀ {x}, x ∈ keysT (T.getD newTab) → 0 ≤ x ∧ x < 4294967296 := fun hx => hc.range h.ok hx
  rw [← hc.eq]
  unfold atomT
  by_cases h0 : 0 ≤ i
  · rw [if_pos h0]
    have e1 : (T.getD newTab).b.atI i = (T.getD newTab).b.toL[i.toNat]? := by unfold Tr.atI; rw [if_pos h0, Tr.at_eq _ _ h0]
    have e2 : (T.getD newTab).b.atI (i + 1) = (T.getD newTab).b.toL[i.toNat + 1]? := by
      unfold Tr.atI; rw [if_pos (by omega), Tr.at_eq _ _ (by omega)]; congr 1; omega
    have e3 : ∀ j : Nat, (keysT (T.getD newTab))[j]? = ((T.getD newTab).b.toL[j]?).map fun e : Int × Int => e.1 := fun j => by unfold keysT; rw [List.getElem?_map]
    rw [e1, e2, atomsC_get, e3, e3]
    cases hp : (T.getD newTab).b.toL[i.toNat]? with
    | none => rfl
    | some p =>
      have hpm : p.1 ∈ keysT (T.getD newTab) := List.mem_map.2 ⟨p, List.mem_of_getElem? hp, rfl⟩
      have hpr := hr hpm
      simp only [Option.map_some, Option.some.injEq, Rg.mk.injEq]
      refine ⟨wrapU32 (by omega) (by omega), ?_⟩
      cases hq : (T.getD newTab).b.toL[i.toNat + 1]? with
      | none =>
        show IntKind.u32.wrap 4294967295 = 4294967295
        exact wrapU32 (by omega) (by omega)
      | some q =>
        have hqm : q.1 ∈ keysT (T.getD newTab) := List.mem_map.2 ⟨q, List.mem_of_getElem? hq, rfl⟩
        have hqr := hr hqm
        have hlt := List.pairwise_iff_getElem.1 h.b.srt i.toNat (i.toNat + 1) (List.getElem?_eq_some_iff.1 hp).1 (List.getElem?_eq_some_iff.1 hq).1 (by omega)
        rw [(List.getElem?_eq_some_iff.1 hp).2, (List.getElem?_eq_some_iff.1 hq).2] at hlt
        simp only [Option.map_some]
        rw [wrapU64 (by omega) (by omega), wrapU32 (by omega) (by omega)]
  · rw [if_neg h0]
    have e1 : (T.getD newTab).b.atI i = none := by unfold Tr.atI; rw [if_neg h0]
    rw [e1]; rfl
end Go.Proofs.YtanimmdlgmkmkaaGreat.Av


/- flow.Cut. -/
namespace Go.Proofs.YtanimmdlgmkmkaaGreat.Av
open Go
set_option linter.unusedSimpArgs false
set_option linter.unusedVariables false
set_option maxRecDepth 100000
set_option maxHeartbeats 4000000
set_option pp.maxSteps 600

def netsAV (l : List (Nw × Fl)) (f : Bool) : AV := .sl 3 (l.map fun p => nwAV p.1 p.2) f
def rgsAV (l : List Rg) (f : Bool) : AV := .sl 2 (l.map rgAV) f
@[simp] theorem rgs_ids (K : Id → Prop) (l : List Rg) (f : Bool) : (rgsAV l f).ids K := by simp only [rgsAV, AV.ids]; exact idsL_map (rg_ids K) l
/-- The ranges of networks' rules. -/
def rgsOf (l : List Nw) : List Rg := l.flatMap fun n => n.rules.map (·.r)
def cutP (l : List Nw) (r : Rg) : List Rg := if r.hi < r.lo then [] else cutC (cutsL (heldL (rgsOf l))) r
structure NwOK (n : Nw) : Prop where
  rg : ∀ r ∈ n.rules, RgOK r.r
  ports : n.t.ports.length < 2 ^ 44
  links : n.t.links.length < 2 ^ 42
  rules : n.rules.length < 2932031007403
  id : ∀ r ∈ n.rules, -9223372036854775808 ≤ r.id ∧ r.id < 9223372036854775808
end Go.Proofs.YtanimmdlgmkmkaaGreat.Av


/- Networks: fate.devices, and its body. -/
namespace Go.Proofs.YtanimmdlgmkmkaaGreat.Av
open Go
set_option linter.unusedSimpArgs false
set_option linter.unusedVariables false
set_option maxRecDepth 100000
set_option maxHeartbeats 4000000
set_option pp.maxSteps 600

def ndAV (f : Int) (p : Pt) : AV := .agg [.raw (.int .i64 f), .raw (.int .i64 p.dev), .raw (.int .i64 p.port)]
theorem nw_fold (n : Nw) (f : Fl) : AV.agg [intsAV n.t.ports f.p, linksAV n.t.links f.l, rulesAV n.rules f.r] = nwAV n f := rfl
/-- What must hold behind a yield. -/
def DevPost (N : Nw) (a : Int) (iat ie : Id) (Q : Int → List Int → St → Prop) (F : St → Prop) (d : Int) (p : List Int) (r : AV) (ρ : St) : Prop :=
  (r = .raw (.bool true) ∧ ρ.m iat = some (.buf [.raw (.int .i64 d)]) ∧ ρ.m ie = some (.buf [ndAV 4 ⟨0, 0⟩]) ∧ ((stepF N d a).1 ≠ 4 → ∀ π, Ext ρ π → F (π.set ie (.buf [ndAV (stepF N d a).1 (stepF N d a).2]))) ∧
    ((stepF N d a).1 = 4 → ∀ π, Ext ρ π → Q (nextDev N (stepF N d a).2) (p ++ [d]) (π.set iat (.buf [.raw (.int .i64 (nextDev N (stepF N d a).2))])))) ∨ (r = .raw (.bool false) ∧ F ρ)
end Go.Proofs.YtanimmdlgmkmkaaGreat.Av


/- Networks: fate.Trace. -/
namespace Go.Proofs.YtanimmdlgmkmkaaGreat.Av
open Go
set_option linter.unusedSimpArgs false
set_option linter.unusedVariables false
set_option maxRecDepth 100000
set_option maxHeartbeats 4000000
set_option pp.maxSteps 600

theorem OwnL.ne_sz {σ0 τ : St} {n : Nat} {v : AV} {es : List AV} (h : OwnL σ0 τ n v es) {i : Id} (hi : i.sz ≠ n) : ∀ k l, v ≠ .rs i k l := by
  rintro k l rfl
  rcases h with ⟨_, e⟩ | ⟨j, e, hj, _, _⟩
  · cases e
  · injection e with e; subst e; exact hi hj
theorem OwnL.set {σ0 τ : St} {n : Nat} {v : AV} {es : List AV} (h : OwnL σ0 τ n v es) {i : Id} {o : Ob} (hi : ∀ k l, v ≠ .rs i k l) : OwnL σ0 (τ.set i o) n v es := by
  rcases h with h | ⟨j, e, hj, hm, hn⟩
  · exact .inl h
  · exact .inr ⟨j, e, hj, by rw [set_other (fun e2 => hi 0 es.length (by rw [e, e2]))]; exact hm, hn⟩
theorem OwnL.del {σ0 τ : St} {n : Nat} {v : AV} {es : List AV} (h : OwnL σ0 τ n v es) {i : Id} (hi : ∀ k l, v ≠ .rs i k l) : OwnL σ0 (τ.del i) n v es := by
  rcases h with h | ⟨j, e, hj, hm, hn⟩
  · exact .inl h
  · exact .inr ⟨j, e, hj, by rw [del_other (fun e2 => hi 0 es.length (by rw [e, e2]))]; exact hm, hn⟩
/-- What a trace under way looks like. -/
structure TrS (σ ρ : St) (i6 i8 : Id) (v : AV) (p : List Int) : Prop where
  ext : Ext σ ρ
  m6 : ρ.m i6 = some (.buf [.agg [.sl 0 [] true, .raw (.int .i64 0), .raw (.int .i64 0), .raw (.int .i64 0)]])
  m8 : ρ.m i8 = some (.buf [.agg [v, .raw (.int .i64 0), .raw (.int .i64 0), .raw (.int .i64 0)]])
  own : OwnL σ ρ 1 v (p.map iAV)
theorem TrS.up {σ ρ π : St} {i6 i8 : Id} {v : AV} {p : List Int} (h : TrS σ ρ i6 i8 v p) (k : Ext ρ π) : TrS σ π i6 i8 v p := ⟨h.ext.trans k, k.m _ _ h.m6, k.m _ _ h.m8, h.own.ext k⟩
theorem TrS.put {σ ρ : St} {i6 i8 i : Id} {v : AV} {p : List Int} {o : Ob} (h : TrS σ ρ i6 i8 v p) (h6 : i6 ≠ i) (h8 : i8 ≠ i) (hv : ∀ k l, v ≠ .rs i k l) (h0 : σ.m i = none) : TrS σ (ρ.set i o) i6 i8 v p :=
  ⟨Ext.setF h.ext h0, by rw [set_other h6]; exact h.m6, by rw [set_other h8]; exact h.m8, h.own.set hv⟩
theorem TrS.del {σ ρ : St} {i6 i8 i : Id} {v : AV} {p : List Int} (h : TrS σ ρ i6 i8 v p) (h6 : i6 ≠ i) (h8 : i8 ≠ i) (hv : ∀ k l, v ≠ .rs i k l) (h0 : σ.m i = none) : TrS σ (ρ.del i) i6 i8 v p :=
  ⟨⟨fun j o hj => by rw [del_other (fun e => by rw [e, h0] at hj; cases hj)]; exact h.ext.m j o hj, h.ext.nx⟩, by rw [del_other h6]; exact h.m6, by rw [del_other h8]; exact h.m8, h.own.del hv⟩
def traceR (n : Nw) (d a : Int) : Tk × Int := if d < 0 ∨ n.t.ports.length ≤ d then (⟨[], 0, ⟨0, 0⟩⟩, 91) else (traceF n d a, 0)
end Go.Proofs.YtanimmdlgmkmkaaGreat.Av


/- Networks: what is genuine; queries: right ones, sources, what breaks them. -/
namespace Go.Proofs.YtanimmdlgmkmkaaGreat.Av
open Go
set_option linter.unusedSimpArgs false
set_option linter.unusedVariables false
set_option maxRecDepth 100000
set_option maxHeartbeats 4000000
set_option pp.maxSteps 600

def genuineB (N : Nw) (a : Int) (t : Tk) : Bool := match t.path with | [] => false | d :: _ => decide ((traceR N d a).2 = 0) && decide (t = (traceR N d a).1)
structure Qy where
  kind : Int
  a : Int
  b : Int
  w : Int
  r : Rg
  other : ByteArray
def qyAV (q : Qy) : AV := .agg [.raw (.int .i64 q.kind), .raw (.int .i64 q.a), .raw (.int .i64 q.b), .raw (.int .i64 q.w), .raw (.int .u32 q.r.lo), .raw (.int .u32 q.r.hi), .raw (.string q.other)]
def singleB (q : Qy) : Bool := decide (q.kind = 0) || (decide (q.kind = 3) || decide (q.kind = 4))
def noDev (n : Nw) (d : Int) : Bool := decide (d < 0) || decide ((n.t.ports.length : Int) ≤ d)
def leavesB (t : Tk) (d : Int) : Bool := decide (t.out = 3) && decide (t.last.dev = d)
def comesB (t : Tk) (d : Int) : Bool := t.path.any fun x => decide (d = x)
def brkAV : AV := .agg [.fn (.func 162) [] [], .fn (.func 164) [] [], .fn (.func 165) [] [], .fn (.func 166) [] [], .fn (.func 167) [] [], .fn (.func 168) [] []]
end Go.Proofs.YtanimmdlgmkmkaaGreat.Av


/- Queries: right ones, sources, what breaks one. -/
namespace Go.Proofs.YtanimmdlgmkmkaaGreat.Av
open Go
set_option linter.unusedSimpArgs false
set_option linter.unusedVariables false
set_option maxRecDepth 100000
set_option maxHeartbeats 4000000
set_option pp.maxSteps 600

def noOther (q : Qy) : Bool := q.other.toList == (ByteArray.toList ⟨#[]⟩)
def rightQ (n : Nw) (q : Qy) : Bool :=
  !(decide (q.kind < 0) || (decide (5 < q.kind) || decide (q.r.hi < q.r.lo))) && (!([q.a, q.b, q.w].any (noDev n)) && ((singleB q || (decide (q.a = 0) && decide (q.b = 0))) && ((decide (q.kind = 4) || decide (q.w = 0)) && (decide (q.kind = 5) || noOther q))))
def sourcesQ (n : Nw) (q : Qy) : List Int := if singleB q = true then [q.a] else (List.range n.t.ports.length).map fun i : Nat => (i : Int)
def breaksQ (q : Qy) (t u : Tk) : Bool :=
  if q.kind = 0 then !leavesB t q.b else if q.kind = 1 then decide (t.out = 4) else if q.kind = 2 then decide (t.out = 0) else if q.kind = 3 then comesB t q.b else if q.kind = 4 then leavesB t q.b && !comesB t q.w else if q.kind = 5 then !decide (t = u) else false
end Go.Proofs.YtanimmdlgmkmkaaGreat.Av


/- Queries: query.Run, query.Same. -/
namespace Go.Proofs.YtanimmdlgmkmkaaGreat.Av
open Go
set_option linter.unusedSimpArgs false
set_option linter.unusedVariables false
set_option maxRecDepth 100000
set_option maxHeartbeats 4000000
set_option pp.maxSteps 600

structure Vd where
  holds : Bool
  src : Int
  addr : Int
  tr : Tk
deriving DecidableEq
def vdAV (v : Vd) (f : Bool) : AV := .agg [.raw (.bool v.holds), .raw (.int .i64 v.src), .raw (.int .u32 v.addr), intsAV v.tr.path f, .raw (.int .i64 v.tr.out), .raw (.int .i64 v.tr.last.dev), .raw (.int .i64 v.tr.last.port)]
def noTk : Tk := ⟨[], 0, ⟨0, 0⟩⟩
def seek (n m : Nw) (q : Qy) (d : Int) : List Rg → Option Vd
  | [] => none
  | r :: rs => if breaksQ q (traceR n d r.lo).1 (traceR m d r.lo).1 = true then some ⟨false, d, r.lo, (traceR n d r.lo).1⟩ else seek n m q d rs
def seeks (n m : Nw) (q : Qy) (P : List Rg) : List Int → Option Vd
  | [] => none
  | d :: ds => match seek n m q d P with
    | some v => some v
    | none => seeks n m q P ds
def runQ (n m : Nw) (q : Qy) : Vd × Int :=
  if rightQ n q = false ∨ (q.kind = 5 ∧ n.t ≠ m.t) then (⟨false, 0, 0, noTk⟩, 121) else
    match seeks n (if q.kind = 5 then m else n) q (cutP [n, if q.kind = 5 then m else n] q.r) (sourcesQ n q) with
    | some v => (v, 0)
    | none => (⟨true, 0, 0, noTk⟩, 0)
/-- An empty verdict, as it is made. -/
def vd0AV : AV := .agg [.raw (.bool false), .raw (.int .i64 0), .raw (.int .u32 0), .sl 0 [] true, .raw (.int .i64 0), .raw (.int .i64 0), .raw (.int .i64 0)]
end Go.Proofs.YtanimmdlgmkmkaaGreat.Av


/- Networks: right networks. -/
namespace Go.Proofs.YtanimmdlgmkmkaaGreat.Av
open Go
set_option linter.unusedSimpArgs false
set_option linter.unusedVariables false
set_option maxRecDepth 100000
set_option maxHeartbeats 2000000
set_option pp.maxSteps 300

def rightN (n : Nw) : Bool := rightT n.t && (allB n.rules && fitsB n.t n.rules)
theorem rightN_calls (n : Nw) (f : Fl) (hl : n.t.ports.length < 2 ^ 60) (hl2 : n.t.links.length < 2 ^ 42) (hl3 : n.rules.length < 2932031007403) : PCalls Tryz.prog 74 [nwAV n f] (.raw (.bool (rightN n))) := by
  have h1 := right_calls n.t f hl hl2
  have h2 := all_calls n.rules f.r hl3
  have h3 := fits_calls n.t f n.rules f.r hl (by omega)
  unfold rightN
  obtain ⟨b1, q1⟩ : ∃ b, rightT n.t = b := ⟨_, rfl⟩
  obtain ⟨b2, q2⟩ : ∃ b, allB n.rules = b := ⟨_, rfl⟩
  obtain ⟨b3, q3⟩ : ∃ b, fitsB n.t n.rules = b := ⟨_, rfl⟩
  rw [q1] at h1 ⊢
  rw [q2] at h2 ⊢
  rw [q3] at h3 ⊢
  refine pbody Tryz.func74 rfl (N := 18) rfl rfl (by simp) (by simp [noIds]) fun σ => ?_
  have ho1 : cellOK (intsAV n.t.ports f.p) = true := rfl
  have ho2 : cellOK (linksAV n.t.links f.l) = true := rfl
  have ho3 : cellOK (rulesAV n.rules f.r) = true := rfl
  simp only [cellOK] at ho1 ho2 ho3
  have hnf : AV.agg [intsAV n.t.ports f.p, linksAV n.t.links f.l] = tpAV n.t f := rfl
  (try (first | (with_reducible refine dops_go ?_; simp [nw_cells, ho1, ho2, ho3, hnf]) | (with_reducible refine OKv_go ?_; simp [nw_cells, ho1, ho2, ho3, hnf]) | (with_reducible refine OKr_go ?_; simp [nw_cells, ho1, ho2, ho3, hnf]))); repeat' (first | refine awp_seq ?_ | refine awp_block ?_ | (refine awp_skip ?_; try simp) | (refine awp_exit ?_; try simp) | (refine awp_ret ?_; try simp) | (refine retP_same (by simp) ?_; simp) | (refine retP_flat (by simp) (by simp) (by simp (maxDischargeDepth := 30) [nw_cells, ho1, ho2, ho3, hnf]) ?_; simp) | (refine awp_reg ?_; simp [nw_cells, ho1, ho2, ho3, hnf]) | (refine awp_drawT (fun _ => false) mixed (by decide +kernel) ?_; simp [nw_cells, ho1, ho2, ho3, hnf]) | (refine guarded_split ?_ ?_ <;> (intro hg; simp only [hg]; simp [nw_cells, ho1, ho2, ho3, hnf])) | (apply awp_cond_t; focus (simp [nw_cells, ho1, ho2, ho3, hnf]; done)) | (apply awp_cond_f; focus (simp [nw_cells, ho1, ho2, ho3, hnf]; done)) | (refine awp_cond ?_; simp [nw_cells, ho1, ho2, ho3, hnf]; refine ⟨?_, ?_⟩ <;> intro hc))
  refine PCalls.use h1 ?_
  cases b1 with
  | false => (try (first | (with_reducible refine dops_go ?_; simp [nw_cells, ho1, ho2, ho3, hnf]) | (with_reducible refine OKv_go ?_; simp [nw_cells, ho1, ho2, ho3, hnf]) | (with_reducible refine OKr_go ?_; simp [nw_cells, ho1, ho2, ho3, hnf]))); repeat' (first | refine awp_seq ?_ | refine awp_block ?_ | (refine awp_skip ?_; try simp) | (refine awp_exit ?_; try simp) | (refine awp_ret ?_; try simp) | (refine retP_same (by simp) ?_; simp) | (refine retP_flat (by simp) (by simp) (by simp (maxDischargeDepth := 30) [nw_cells, ho1, ho2, ho3, hnf]) ?_; simp) | (refine awp_reg ?_; simp [nw_cells, ho1, ho2, ho3, hnf]) | (refine awp_drawT (fun _ => false) mixed (by decide +kernel) ?_; simp [nw_cells, ho1, ho2, ho3, hnf]) | (refine guarded_split ?_ ?_ <;> (intro hg; simp only [hg]; simp [nw_cells, ho1, ho2, ho3, hnf])) | (apply awp_cond_t; focus (simp [nw_cells, ho1, ho2, ho3, hnf]; done)) | (apply awp_cond_f; focus (simp [nw_cells, ho1, ho2, ho3, hnf]; done)) | (refine awp_cond ?_; simp [nw_cells, ho1, ho2, ho3, hnf]; refine ⟨?_, ?_⟩ <;> intro hc))
  | true =>
    (try (first | (with_reducible refine dops_go ?_; simp [nw_cells, ho1, ho2, ho3, hnf]) | (with_reducible refine OKv_go ?_; simp [nw_cells, ho1, ho2, ho3, hnf]) | (with_reducible refine OKr_go ?_; simp [nw_cells, ho1, ho2, ho3, hnf]))); repeat' (first | refine awp_seq ?_ | refine awp_block ?_ | (refine awp_skip ?_; try simp) | (refine awp_exit ?_; try simp) | (refine awp_ret ?_; try simp) | (refine retP_same (by simp) ?_; simp) | (refine retP_flat (by simp) (by simp) (by simp (maxDischargeDepth := 30) [nw_cells, ho1, ho2, ho3, hnf]) ?_; simp) | (refine awp_reg ?_; simp [nw_cells, ho1, ho2, ho3, hnf]) | (refine awp_drawT (fun _ => false) mixed (by decide +kernel) ?_; simp [nw_cells, ho1, ho2, ho3, hnf]) | (refine guarded_split ?_ ?_ <;> (intro hg; simp only [hg]; simp [nw_cells, ho1, ho2, ho3, hnf])) | (apply awp_cond_t; focus (simp [nw_cells, ho1, ho2, ho3, hnf]; done)) | (apply awp_cond_f; focus (simp [nw_cells, ho1, ho2, ho3, hnf]; done)) | (refine awp_cond ?_; simp [nw_cells, ho1, ho2, ho3, hnf]; refine ⟨?_, ?_⟩ <;> intro hc))
    refine PCalls.use h2 ?_
    cases b2 with
    | false => (try (first | (with_reducible refine dops_go ?_; simp [nw_cells, ho1, ho2, ho3, hnf]) | (with_reducible refine OKv_go ?_; simp [nw_cells, ho1, ho2, ho3, hnf]) | (with_reducible refine OKr_go ?_; simp [nw_cells, ho1, ho2, ho3, hnf]))); repeat' (first | refine awp_seq ?_ | refine awp_block ?_ | (refine awp_skip ?_; try simp) | (refine awp_exit ?_; try simp) | (refine awp_ret ?_; try simp) | (refine retP_same (by simp) ?_; simp) | (refine retP_flat (by simp) (by simp) (by simp (maxDischargeDepth := 30) [nw_cells, ho1, ho2, ho3, hnf]) ?_; simp) | (refine awp_reg ?_; simp [nw_cells, ho1, ho2, ho3, hnf]) | (refine awp_drawT (fun _ => false) mixed (by decide +kernel) ?_; simp [nw_cells, ho1, ho2, ho3, hnf]) | (refine guarded_split ?_ ?_ <;> (intro hg; simp only [hg]; simp [nw_cells, ho1, ho2, ho3, hnf])) | (apply awp_cond_t; focus (simp [nw_cells, ho1, ho2, ho3, hnf]; done)) | (apply awp_cond_f; focus (simp [nw_cells, ho1, ho2, ho3, hnf]; done)) | (refine awp_cond ?_; simp [nw_cells, ho1, ho2, ho3, hnf]; refine ⟨?_, ?_⟩ <;> intro hc))
    | true =>
      (try (first | (with_reducible refine dops_go ?_; simp [nw_cells, ho1, ho2, ho3, hnf]) | (with_reducible refine OKv_go ?_; simp [nw_cells, ho1, ho2, ho3, hnf]) | (with_reducible refine OKr_go ?_; simp [nw_cells, ho1, ho2, ho3, hnf]))); repeat' (first | refine awp_seq ?_ | refine awp_block ?_ | (refine awp_skip ?_; try simp) | (refine awp_exit ?_; try simp) | (refine awp_ret ?_; try simp) | (refine retP_same (by simp) ?_; simp) | (refine retP_flat (by simp) (by simp) (by simp (maxDischargeDepth := 30) [nw_cells, ho1, ho2, ho3, hnf]) ?_; simp) | (refine awp_reg ?_; simp [nw_cells, ho1, ho2, ho3, hnf]) | (refine awp_drawT (fun _ => false) mixed (by decide +kernel) ?_; simp [nw_cells, ho1, ho2, ho3, hnf]) | (refine guarded_split ?_ ?_ <;> (intro hg; simp only [hg]; simp [nw_cells, ho1, ho2, ho3, hnf])) | (apply awp_cond_t; focus (simp [nw_cells, ho1, ho2, ho3, hnf]; done)) | (apply awp_cond_f; focus (simp [nw_cells, ho1, ho2, ho3, hnf]; done)) | (refine awp_cond ?_; simp [nw_cells, ho1, ho2, ho3, hnf]; refine ⟨?_, ?_⟩ <;> intro hc))
      refine PCalls.use h3 ?_
      (try (first | (with_reducible refine dops_go ?_; simp [nw_cells, ho1, ho2, ho3, hnf]) | (with_reducible refine OKv_go ?_; simp [nw_cells, ho1, ho2, ho3, hnf]) | (with_reducible refine OKr_go ?_; simp [nw_cells, ho1, ho2, ho3, hnf]))); repeat' (first | refine awp_seq ?_ | refine awp_block ?_ | (refine awp_skip ?_; try simp) | (refine awp_exit ?_; try simp) | (refine awp_ret ?_; try simp) | (refine retP_same (by simp) ?_; simp) | (refine retP_flat (by simp) (by simp) (by simp (maxDischargeDepth := 30) [nw_cells, ho1, ho2, ho3, hnf]) ?_; simp) | (refine awp_reg ?_; simp [nw_cells, ho1, ho2, ho3, hnf]) | (refine awp_drawT (fun _ => false) mixed (by decide +kernel) ?_; simp [nw_cells, ho1, ho2, ho3, hnf]) | (refine guarded_split ?_ ?_ <;> (intro hg; simp only [hg]; simp [nw_cells, ho1, ho2, ho3, hnf])) | (apply awp_cond_t; focus (simp [nw_cells, ho1, ho2, ho3, hnf]; done)) | (apply awp_cond_f; focus (simp [nw_cells, ho1, ho2, ho3, hnf]; done)) | (refine awp_cond ?_; simp [nw_cells, ho1, ho2, ho3, hnf]; refine ⟨?_, ?_⟩ <;> intro hc))
end Go.Proofs.YtanimmdlgmkmkaaGreat.Av


/- Networks: the document's step. -/
namespace Go.Proofs.YtanimmdlgmkmkaaGreat.Av
open Go
set_option linter.unusedSimpArgs false
set_option linter.unusedVariables false
set_option maxRecDepth 100000
set_option maxHeartbeats 2000000
set_option pp.maxSteps 600

/-- The step as the document says it. -/
def refStepF (n : Nw) (d a : Int) : Int × Pt :=
  if refDeniesB n.rules d a = true then (2, ⟨0, 0⟩) else if n.rules.any (refP d a false) = false then (0, ⟨0, 0⟩) else if (minR (n.rules.filter (refP d a false))).kind = 1 then (1, ⟨0, 0⟩)
  else if (refNextL n.t.links ⟨d, (minR (n.rules.filter (refP d a false))).port⟩).isSome = true then (4, ⟨d, (minR (n.rules.filter (refP d a false))).port⟩) else (3, ⟨d, (minR (n.rules.filter (refP d a false))).port⟩)
theorem refStep_calls (n : Nw) (f : Fl) (d a : Int) (hl : n.t.links.length < 2 ^ 60) (hl2 : n.rules.length < 2932031007403) :
    PCalls Tryz.prog 119 [nwAV n f, .raw (.int .i64 d), .raw (.int .u32 a)] (.tup [.raw (.int .i64 (refStepF n d a).1), ptAV (refStepF n d a).2]) := by
  have hd := refDenies_calls n.rules f.r d a hl2
  have hm := refMatch_calls n.rules f.r d a hl2
  have hn := fun p => refNext_calls n.t f p hl
  unfold refStepF
  obtain ⟨b1, h1⟩ : ∃ b, refDeniesB n.rules d a = b := ⟨_, rfl⟩
  obtain ⟨b2, h2⟩ : ∃ b, n.rules.any (refP d a false) = b := ⟨_, rfl⟩
  obtain ⟨r, hr⟩ : ∃ r, minR (n.rules.filter (refP d a false)) = r := ⟨_, rfl⟩
  rw [h1] at hd
  rw [h2, hr] at hm
  rw [h1, h2, hr]
  clear h1 h2 hr
  have hn := hn ⟨d, r.port⟩
  obtain ⟨b3, h3⟩ : ∃ b, (refNextL n.t.links ⟨d, r.port⟩).isSome = b := ⟨_, rfl⟩
  obtain ⟨q, hq⟩ : ∃ q, (refNextL n.t.links ⟨d, r.port⟩).getD ⟨0, 0⟩ = q := ⟨_, rfl⟩
  rw [h3, hq] at hn
  rw [h3]
  refine pbody Tryz.func119 rfl (N := 50) rfl rfl (by simp) (by simp [noIds, ptAV]) fun σ => ?_
  have ho1 : cellOK (intsAV n.t.ports f.p) = true := rfl
  have ho2 : cellOK (linksAV n.t.links f.l) = true := rfl
  have ho3 : cellOK (rulesAV n.rules f.r) = true := rfl
  simp only [cellOK] at ho1 ho2 ho3
  have hpf : ∀ x y : Int, AV.agg [.raw (.int .i64 x), .raw (.int .i64 y)] = ptAV ⟨x, y⟩ := fun _ _ => rfl
  have hpc : ∀ q : Pt, (ptAV q).cells = [.raw (.int .i64 q.dev), .raw (.int .i64 q.port)] := fun q => rfl
  have hps : ∀ (q : Pt) (x y : Int), setPart (ptAV q) 0 [.raw (.int .i64 x), .raw (.int .i64 y)] = ptAV ⟨x, y⟩ := fun _ _ _ => rfl
  have f7 : σ.m ⟨7, σ.nx 7, 2⟩ = none := fresh_none _ _ _
  have hnf : AV.agg [intsAV n.t.ports f.p, linksAV n.t.links f.l] = tpAV n.t f := rfl
  (try (first | (with_reducible refine dops_go ?_; simp [nw_cells, ho1, ho2, ho3, hpf, hpc, hps]) | (with_reducible refine OKv_go ?_; simp [nw_cells, ho1, ho2, ho3, hpf, hpc, hps]) | (with_reducible refine OKr_go ?_; simp [nw_cells, ho1, ho2, ho3, hpf, hpc, hps]))); repeat' (first | refine awp_seq ?_ | refine awp_block ?_ | (refine awp_skip ?_; try simp) | (refine awp_exit ?_; try simp) | (refine awp_ret ?_; try simp) | (refine retP_same (by simp) ?_; simp) | (refine retP_flat (by simp) (by simp) (by simp (maxDischargeDepth := 30) [nw_cells, ho1, ho2, ho3, hpf, hpc, hps]) ?_; simp) | (refine awp_reg ?_; simp [nw_cells, ho1, ho2, ho3, hpf, hpc, hps]) | (refine awp_drawT (fun _ => false) mixed (by decide +kernel) ?_; simp [nw_cells, ho1, ho2, ho3, hpf, hpc, hps]) | (refine guarded_split ?_ ?_ <;> (intro hg; simp only [hg]; simp [nw_cells, ho1, ho2, ho3, hpf, hpc, hps])) | (apply awp_cond_t; focus (simp [nw_cells, ho1, ho2, ho3, hpf, hpc, hps]; done)) | (apply awp_cond_f; focus (simp [nw_cells, ho1, ho2, ho3, hpf, hpc, hps]; done)) | (refine awp_cond ?_; simp [nw_cells, ho1, ho2, ho3, hpf, hpc, hps]; refine ⟨?_, ?_⟩ <;> intro hc))
  refine PCalls.use hd ?_
  cases b1 with
  | true =>
    (try (first | (with_reducible refine dops_go ?_; simp [nw_cells, ho1, ho2, ho3, hpf, hpc, hps]) | (with_reducible refine OKv_go ?_; simp [nw_cells, ho1, ho2, ho3, hpf, hpc, hps]) | (with_reducible refine OKr_go ?_; simp [nw_cells, ho1, ho2, ho3, hpf, hpc, hps]))); repeat' (first | refine awp_seq ?_ | refine awp_block ?_ | (refine awp_skip ?_; try simp) | (refine awp_exit ?_; try simp) | (refine awp_ret ?_; try simp) | (refine awp_reg ?_; simp [nw_cells, ho1, ho2, ho3, hpf, hpc, hps]) | (refine awp_drawT (fun _ => false) mixed (by decide +kernel) ?_; simp [nw_cells, ho1, ho2, ho3, hpf, hpc, hps]) | (refine guarded_split ?_ ?_ <;> (intro hg; simp only [hg]; simp [nw_cells, ho1, ho2, ho3, hpf, hpc, hps])) | (apply awp_cond_t; focus (simp [nw_cells, ho1, ho2, ho3, hpf, hpc, hps]; done)) | (apply awp_cond_f; focus (simp [nw_cells, ho1, ho2, ho3, hpf, hpc, hps]; done)) | (refine awp_cond ?_; simp [nw_cells, ho1, ho2, ho3, hpf, hpc, hps]; refine ⟨?_, ?_⟩ <;> intro hc))
    refine retP_flat (.inr rfl) rfl (by repeat (first | exact Ext.refl _ | refine ext_new' ?_ | refine Ext.setF ?_ (by simp [new_nx', St.set, fresh_none]))) ?_
    simp [St.set, St.new, hpc, hpf, hps]
  | false =>
    (try (first | (with_reducible refine dops_go ?_; simp [nw_cells, ho1, ho2, ho3, hpf, hpc, hps]) | (with_reducible refine OKv_go ?_; simp [nw_cells, ho1, ho2, ho3, hpf, hpc, hps]) | (with_reducible refine OKr_go ?_; simp [nw_cells, ho1, ho2, ho3, hpf, hpc, hps]))); repeat' (first | refine awp_seq ?_ | refine awp_block ?_ | (refine awp_skip ?_; try simp) | (refine awp_exit ?_; try simp) | (refine awp_ret ?_; try simp) | (refine retP_same (by simp) ?_; simp) | (refine retP_flat (by simp) (by simp) (by simp (maxDischargeDepth := 30) [nw_cells, ho1, ho2, ho3, hpf, hpc, hps]) ?_; simp) | (refine awp_reg ?_; simp [nw_cells, ho1, ho2, ho3, hpf, hpc, hps]) | (refine awp_drawT (fun _ => false) mixed (by decide +kernel) ?_; simp [nw_cells, ho1, ho2, ho3, hpf, hpc, hps]) | (refine guarded_split ?_ ?_ <;> (intro hg; simp only [hg]; simp [nw_cells, ho1, ho2, ho3, hpf, hpc, hps])) | (apply awp_cond_t; focus (simp [nw_cells, ho1, ho2, ho3, hpf, hpc, hps]; done)) | (apply awp_cond_f; focus (simp [nw_cells, ho1, ho2, ho3, hpf, hpc, hps]; done)) | (refine awp_cond ?_; simp [nw_cells, ho1, ho2, ho3, hpf, hpc, hps]; refine ⟨?_, ?_⟩ <;> intro hc))
    refine PCalls.use hm ?_
    cases b2 with
    | false =>
      (try (first | (with_reducible refine dops_go ?_; simp [nw_cells, ho1, ho2, ho3, hpf, hpc, hps, ru_cells, ru_ok, ru_fold]) | (with_reducible refine OKv_go ?_; simp [nw_cells, ho1, ho2, ho3, hpf, hpc, hps, ru_cells, ru_ok, ru_fold]) | (with_reducible refine OKr_go ?_; simp [nw_cells, ho1, ho2, ho3, hpf, hpc, hps, ru_cells, ru_ok, ru_fold]))); repeat' (first | refine awp_seq ?_ | refine awp_block ?_ | (refine awp_skip ?_; try simp) | (refine awp_exit ?_; try simp) | (refine awp_ret ?_; try simp) | (refine awp_reg ?_; simp [nw_cells, ho1, ho2, ho3, hpf, hpc, hps, ru_cells, ru_ok, ru_fold]) | (refine awp_drawT (fun _ => false) mixed (by decide +kernel) ?_; simp [nw_cells, ho1, ho2, ho3, hpf, hpc, hps, ru_cells, ru_ok, ru_fold]) | (refine guarded_split ?_ ?_ <;> (intro hg; simp only [hg]; simp [nw_cells, ho1, ho2, ho3, hpf, hpc, hps, ru_cells, ru_ok, ru_fold])) | (apply awp_cond_t; focus (simp [nw_cells, ho1, ho2, ho3, hpf, hpc, hps, ru_cells, ru_ok, ru_fold]; done)) | (apply awp_cond_f; focus (simp [nw_cells, ho1, ho2, ho3, hpf, hpc, hps, ru_cells, ru_ok, ru_fold]; done)) | (refine awp_cond ?_; simp [nw_cells, ho1, ho2, ho3, hpf, hpc, hps, ru_cells, ru_ok, ru_fold]; refine ⟨?_, ?_⟩ <;> intro hc))
      refine retP_flat (.inr rfl) rfl (by repeat (first | exact Ext.refl _ | refine ext_new' ?_ | refine Ext.setF ?_ (by simp [new_nx', St.set, fresh_none]))) ?_
      simp [St.set, St.new, hpc, hpf, hps]
    | true =>
      by_cases hk : r.kind = 1
      · (try (first | (with_reducible refine dops_go ?_; simp [nw_cells, ho1, ho2, ho3, hpf, hpc, hps, ru_cells, ru_ok, ru_fold, hk]) | (with_reducible refine OKv_go ?_; simp [nw_cells, ho1, ho2, ho3, hpf, hpc, hps, ru_cells, ru_ok, ru_fold, hk]) | (with_reducible refine OKr_go ?_; simp [nw_cells, ho1, ho2, ho3, hpf, hpc, hps, ru_cells, ru_ok, ru_fold, hk]))); repeat' (first | refine awp_seq ?_ | refine awp_block ?_ | (refine awp_skip ?_; try simp) | (refine awp_exit ?_; try simp) | (refine awp_ret ?_; try simp) | (refine awp_reg ?_; simp [nw_cells, ho1, ho2, ho3, hpf, hpc, hps, ru_cells, ru_ok, ru_fold, hk]) | (refine awp_drawT (fun _ => false) mixed (by decide +kernel) ?_; simp [nw_cells, ho1, ho2, ho3, hpf, hpc, hps, ru_cells, ru_ok, ru_fold, hk]) | (refine guarded_split ?_ ?_ <;> (intro hg; simp only [hg]; simp [nw_cells, ho1, ho2, ho3, hpf, hpc, hps, ru_cells, ru_ok, ru_fold, hk])) | (apply awp_cond_t; focus (simp [nw_cells, ho1, ho2, ho3, hpf, hpc, hps, ru_cells, ru_ok, ru_fold, hk]; done)) | (apply awp_cond_f; focus (simp [nw_cells, ho1, ho2, ho3, hpf, hpc, hps, ru_cells, ru_ok, ru_fold, hk]; done)) | (refine awp_cond ?_; simp [nw_cells, ho1, ho2, ho3, hpf, hpc, hps, ru_cells, ru_ok, ru_fold, hk]; refine ⟨?_, ?_⟩ <;> intro hc))
        refine retP_flat (.inr rfl) rfl (by repeat (first | exact Ext.refl _ | refine ext_new' ?_ | refine Ext.setF ?_ (by simp [new_nx', St.set, fresh_none]))) ?_
        simp [St.set, St.new, hpc, hpf, hps, hk]
      · (try (first | (with_reducible refine dops_go ?_; simp [nw_cells, ho1, ho2, ho3, hpf, hpc, hps, ru_cells, ru_ok, ru_fold, hk, hnf, new_m, set_m, new_nx']) | (with_reducible refine OKv_go ?_; simp [nw_cells, ho1, ho2, ho3, hpf, hpc, hps, ru_cells, ru_ok, ru_fold, hk, hnf, new_m, set_m, new_nx']) | (with_reducible refine OKr_go ?_; simp [nw_cells, ho1, ho2, ho3, hpf, hpc, hps, ru_cells, ru_ok, ru_fold, hk, hnf, new_m, set_m, new_nx']))); repeat' (first | refine awp_seq ?_ | refine awp_block ?_ | (refine awp_skip ?_; try simp) | (refine awp_exit ?_; try simp) | (refine awp_ret ?_; try simp) | (refine retP_same (by simp) ?_; simp) | (refine retP_flat (by simp) (by simp) (by simp (maxDischargeDepth := 30) [nw_cells, ho1, ho2, ho3, hpf, hpc, hps, ru_cells, ru_ok, ru_fold, hk, hnf, new_m, set_m, new_nx']) ?_; simp) | (refine awp_reg ?_; simp [nw_cells, ho1, ho2, ho3, hpf, hpc, hps, ru_cells, ru_ok, ru_fold, hk, hnf, new_m, set_m, new_nx']) | (refine awp_drawT (fun _ => false) mixed (by decide +kernel) ?_; simp [nw_cells, ho1, ho2, ho3, hpf, hpc, hps, ru_cells, ru_ok, ru_fold, hk, hnf, new_m, set_m, new_nx']) | (refine guarded_split ?_ ?_ <;> (intro hg; simp only [hg]; simp [nw_cells, ho1, ho2, ho3, hpf, hpc, hps, ru_cells, ru_ok, ru_fold, hk, hnf, new_m, set_m, new_nx'])) | (apply awp_cond_t; focus (simp [nw_cells, ho1, ho2, ho3, hpf, hpc, hps, ru_cells, ru_ok, ru_fold, hk, hnf, new_m, set_m, new_nx']; done)) | (apply awp_cond_f; focus (simp [nw_cells, ho1, ho2, ho3, hpf, hpc, hps, ru_cells, ru_ok, ru_fold, hk, hnf, new_m, set_m, new_nx']; done)) | (refine awp_cond ?_; simp [nw_cells, ho1, ho2, ho3, hpf, hpc, hps, ru_cells, ru_ok, ru_fold, hk, hnf, new_m, set_m, new_nx']; refine ⟨?_, ?_⟩ <;> intro hc))
        refine PCalls.use hn ?_
        cases b3 with
        | true =>
          (try (first | (with_reducible refine dops_go ?_; simp [nw_cells, ho1, ho2, ho3, hpf, hpc, hps, ru_cells, ru_ok, ru_fold, hk, hnf, new_m, set_m, new_nx']) | (with_reducible refine OKv_go ?_; simp [nw_cells, ho1, ho2, ho3, hpf, hpc, hps, ru_cells, ru_ok, ru_fold, hk, hnf, new_m, set_m, new_nx']) | (with_reducible refine OKr_go ?_; simp [nw_cells, ho1, ho2, ho3, hpf, hpc, hps, ru_cells, ru_ok, ru_fold, hk, hnf, new_m, set_m, new_nx']))); repeat' (first | refine awp_seq ?_ | refine awp_block ?_ | (refine awp_skip ?_; try simp) | (refine awp_exit ?_; try simp) | (refine awp_ret ?_; try simp) | (refine awp_reg ?_; simp [nw_cells, ho1, ho2, ho3, hpf, hpc, hps, ru_cells, ru_ok, ru_fold, hk, hnf, new_m, set_m, new_nx']) | (refine awp_drawT (fun _ => false) mixed (by decide +kernel) ?_; simp [nw_cells, ho1, ho2, ho3, hpf, hpc, hps, ru_cells, ru_ok, ru_fold, hk, hnf, new_m, set_m, new_nx']) | (refine guarded_split ?_ ?_ <;> (intro hg; simp only [hg]; simp [nw_cells, ho1, ho2, ho3, hpf, hpc, hps, ru_cells, ru_ok, ru_fold, hk, hnf, new_m, set_m, new_nx'])) | (apply awp_cond_t; focus (simp [nw_cells, ho1, ho2, ho3, hpf, hpc, hps, ru_cells, ru_ok, ru_fold, hk, hnf, new_m, set_m, new_nx']; done)) | (apply awp_cond_f; focus (simp [nw_cells, ho1, ho2, ho3, hpf, hpc, hps, ru_cells, ru_ok, ru_fold, hk, hnf, new_m, set_m, new_nx']; done)) | (refine awp_cond ?_; simp [nw_cells, ho1, ho2, ho3, hpf, hpc, hps, ru_cells, ru_ok, ru_fold, hk, hnf, new_m, set_m, new_nx']; refine ⟨?_, ?_⟩ <;> intro hc))
          refine retP_flat (.inr rfl) rfl (by repeat (first | exact Ext.refl _ | refine ext_new' ?_ | refine Ext.setF ?_ (by simp [new_nx', St.set, fresh_none]))) ?_
          simp [St.set, St.new, hpc, hpf, hps, hk]
        | false =>
          (try (first | (with_reducible refine dops_go ?_; simp [nw_cells, ho1, ho2, ho3, hpf, hpc, hps, ru_cells, ru_ok, ru_fold, hk, hnf, new_m, set_m, new_nx']) | (with_reducible refine OKv_go ?_; simp [nw_cells, ho1, ho2, ho3, hpf, hpc, hps, ru_cells, ru_ok, ru_fold, hk, hnf, new_m, set_m, new_nx']) | (with_reducible refine OKr_go ?_; simp [nw_cells, ho1, ho2, ho3, hpf, hpc, hps, ru_cells, ru_ok, ru_fold, hk, hnf, new_m, set_m, new_nx']))); repeat' (first | refine awp_seq ?_ | refine awp_block ?_ | (refine awp_skip ?_; try simp) | (refine awp_exit ?_; try simp) | (refine awp_ret ?_; try simp) | (refine awp_reg ?_; simp [nw_cells, ho1, ho2, ho3, hpf, hpc, hps, ru_cells, ru_ok, ru_fold, hk, hnf, new_m, set_m, new_nx']) | (refine awp_drawT (fun _ => false) mixed (by decide +kernel) ?_; simp [nw_cells, ho1, ho2, ho3, hpf, hpc, hps, ru_cells, ru_ok, ru_fold, hk, hnf, new_m, set_m, new_nx']) | (refine guarded_split ?_ ?_ <;> (intro hg; simp only [hg]; simp [nw_cells, ho1, ho2, ho3, hpf, hpc, hps, ru_cells, ru_ok, ru_fold, hk, hnf, new_m, set_m, new_nx'])) | (apply awp_cond_t; focus (simp [nw_cells, ho1, ho2, ho3, hpf, hpc, hps, ru_cells, ru_ok, ru_fold, hk, hnf, new_m, set_m, new_nx']; done)) | (apply awp_cond_f; focus (simp [nw_cells, ho1, ho2, ho3, hpf, hpc, hps, ru_cells, ru_ok, ru_fold, hk, hnf, new_m, set_m, new_nx']; done)) | (refine awp_cond ?_; simp [nw_cells, ho1, ho2, ho3, hpf, hpc, hps, ru_cells, ru_ok, ru_fold, hk, hnf, new_m, set_m, new_nx']; refine ⟨?_, ?_⟩ <;> intro hc))
          refine retP_flat (.inr rfl) rfl (by repeat (first | exact Ext.refl _ | refine ext_new' ?_ | refine Ext.setF ?_ (by simp [new_nx', St.set, fresh_none]))) ?_
          simp [St.set, St.new, hpc, hpf, hps, hk]
end Go.Proofs.YtanimmdlgmkmkaaGreat.Av


/- Networks, plain laws: the program's next port is the document's on right topologies. -/
namespace Go.Proofs.YtanimmdlgmkmkaaGreat.Av
open Go
set_option linter.unusedSimpArgs false
set_option linter.unusedVariables false
set_option maxRecDepth 100000

def lookF (m : List (Pt × Pt)) (p : Pt) : Option Pt := (m.find? fun e => decide (p = e.1)).map (·.2)
theorem lookF_upd (m : List (Pt × Pt)) (k v p : Pt) : lookF (upd m k v) p = if p = k then some v else lookF m p := by
  unfold lookF upd
  rw [List.find?_append, List.find?_filter]
  by_cases h : p = k
  · have : m.find? (fun a => decide (decide (k ≠ a.1) = true ∧ decide (p = a.1) = true)) = none := by
      rw [List.find?_eq_none]
      intro x hx
      subst h
      simp
    rw [this, if_pos h]
    simp [h]
  · have : (fun a : Pt × Pt => decide (decide (k ≠ a.1) = true ∧ decide (p = a.1) = true)) = fun a => decide (p = a.1) := by
      funext a
      by_cases h2 : p = a.1
      · have : k ≠ a.1 := fun q => h (h2.trans q.symm)
        simp [h2, this]
      · simp [h2]
    rw [this, if_neg h]
    simp [h]
/-- The ports of links, one after the other. -/
def flatP : List Lk → List Pt
  | [] => []
  | l :: ls => l.a :: l.b :: flatP ls
theorem refNext_none {ls : List Lk} {p : Pt} (h : p ∉ flatP ls) : refNextL ls p = none := by
  induction ls with
  | nil => rfl
  | cons l ls ih =>
    simp only [flatP, List.mem_cons, not_or] at h
    simp only [refNextL]
    rw [if_neg (fun q => h.1 q.symm), if_neg (fun q => h.2.1 q.symm)]
    exact ih h.2.2
theorem look_fold (ls : List Lk) (m : List (Pt × Pt)) (p : Pt) (h : (flatP ls).Nodup) :
    lookF (ls.foldl (fun m l => upd (upd m l.a l.b) l.b l.a) m) p = (refNextL ls p).or (lookF m p) := by
  induction ls generalizing m with
  | nil => simp [refNextL]
  | cons l ls ih =>
    simp only [flatP, List.nodup_cons, List.mem_cons, not_or] at h
    obtain ⟨⟨hab, ha⟩, hb, hn⟩ := h
    rw [List.foldl_cons, ih _ hn, lookF_upd, lookF_upd]
    simp only [refNextL]
    by_cases h1 : l.a = p
    · subst h1
      rw [refNext_none ha, if_neg hab]
      simp
    · by_cases h2 : l.b = p
      · subst h2
        rw [refNext_none hb]
        simp [h1]
      · have h1' : ¬ p = l.a := fun q => h1 q.symm
        have h2' : ¬ p = l.b := fun q => h2 q.symm
        simp [h1, h2, h1', h2']
theorem nextM_eq (t : Tp) (p : Pt) (h : (flatP t.links).Nodup) : nextM t p = refNextL t.links p := by
  have := look_fold t.links [] p h
  unfold lookF at this
  unfold nextM joinM
  rw [this]
  simp
end Go.Proofs.YtanimmdlgmkmkaaGreat.Av


/- Networks, plain laws: the map is full exactly if no port is joined twice. -/
namespace Go.Proofs.YtanimmdlgmkmkaaGreat.Av
open Go
set_option linter.unusedSimpArgs false
set_option linter.unusedVariables false
set_option maxRecDepth 100000

theorem upd_len (m : List (Pt × Pt)) (k v : Pt) : (upd m k v).length ≤ m.length + 1 ∧ ((upd m k v).length = m.length + 1 ↔ k ∉ m.map (·.1)) := by
  have hle : (m.filter fun e => decide (k ≠ e.1)).length ≤ m.length := List.length_filter_le _ _
  have hl : (upd m k v).length = (m.filter fun e => decide (k ≠ e.1)).length + 1 := by simp [upd]
  refine ⟨by omega, ?_⟩
  rw [hl]
  constructor
  · intro h hk
    obtain ⟨e, he, rfl⟩ := List.mem_map.1 hk
    have := List.length_filter_lt_length_iff_exists (p := fun x : Pt × Pt => decide (e.1 ≠ x.1)) (l := m) |>.2 ⟨e, he, by simp⟩
    omega
  · intro h
    have : (m.filter fun e => decide (k ≠ e.1)) = m := by
      rw [List.filter_eq_self]
      intro x hx
      simp only [decide_eq_true_eq]
      intro q
      exact h (q ▸ List.mem_map.2 ⟨x, hx, rfl⟩)
    rw [this]
theorem upd_keys (m : List (Pt × Pt)) (k v x : Pt) : x ∈ (upd m k v).map (·.1) ↔ x = k ∨ x ∈ m.map (·.1) := by
  simp only [upd, List.map_append, List.mem_append, List.map_cons, List.map_nil, List.mem_singleton]
  constructor
  · rintro (h | h)
    · obtain ⟨e, he, rfl⟩ := List.mem_map.1 h
      exact .inr (List.mem_map.2 ⟨e, (List.mem_filter.1 he).1, rfl⟩)
    · exact .inl h
  · rintro (h | h)
    · exact .inr h
    · by_cases q : x = k
      · exact .inr q
      · obtain ⟨e, he, rfl⟩ := List.mem_map.1 h
        exact .inl (List.mem_map.2 ⟨e, List.mem_filter.2 ⟨he, by simpa using fun r => q r.symm⟩, rfl⟩)
theorem fold_len (ls : List Lk) (m : List (Pt × Pt)) :
    (ls.foldl (fun m l => upd (upd m l.a l.b) l.b l.a) m).length ≤ m.length + 2 * ls.length ∧
    ((ls.foldl (fun m l => upd (upd m l.a l.b) l.b l.a) m).length = m.length + 2 * ls.length ↔ (flatP ls).Nodup ∧ ∀ p ∈ flatP ls, p ∉ m.map (·.1)) := by
  induction ls generalizing m with
  | nil => simp [flatP]
  | cons l ls ih =>
    obtain ⟨i1, i2⟩ := ih (upd (upd m l.a l.b) l.b l.a)
    obtain ⟨a1, a2⟩ := upd_len m l.a l.b
    obtain ⟨b1, b2⟩ := upd_len (upd m l.a l.b) l.b l.a
    rw [List.foldl_cons, List.length_cons]
    refine ⟨by omega, ?_⟩
    simp only [upd_keys, not_or] at b2 i2
    simp only [flatP, List.nodup_cons, List.mem_cons, not_or]
    constructor
    · intro h
      have h1 := a2.1 (by omega)
      have h2 := b2.1 (by omega)
      have h3 := i2.1 (by omega)
      refine ⟨⟨⟨fun q => h2.1 q.symm, fun q => (h3.2 _ q).2.1 rfl⟩, fun q => (h3.2 _ q).1 rfl, h3.1⟩, ?_⟩
      rintro p (rfl | rfl | hp)
      · exact h1
      · exact h2.2
      · exact (h3.2 _ hp).2.2
    · rintro ⟨⟨⟨hab, ha⟩, hb, hn⟩, hd⟩
      have e1 := a2.2 (hd _ (.inl rfl))
      have e2 := b2.2 ⟨fun q => hab q.symm, hd _ (.inr (.inl rfl))⟩
      have e3 := i2.2 ⟨hn, fun p hp => ⟨fun q => hb (q ▸ hp), fun q => ha (q ▸ hp), hd _ (.inr (.inr hp))⟩⟩
      omega
theorem joinM_full (ls : List Lk) : (joinM ls).length = 2 * ls.length ↔ (flatP ls).Nodup := by
  have := (fold_len ls []).2
  simpa [joinM] using this
end Go.Proofs.YtanimmdlgmkmkaaGreat.Av


/- Networks, plain laws: on right networks the program's step is the document's. -/
namespace Go.Proofs.YtanimmdlgmkmkaaGreat.Av
open Go
set_option linter.unusedSimpArgs false
set_option linter.unusedVariables false
set_option maxRecDepth 100000

theorem allFrom_mem {l : List Ru} {last : Int} (h : allFrom last l = true) : ∀ r ∈ l, ruleB r = true := by
  induction l generalizing last with
  | nil => simp
  | cons x l ih =>
    simp only [allFrom, Bool.and_eq_true] at h
    intro r hr
    rcases List.mem_cons.1 hr with rfl | hr
    · exact h.1.1
    · exact ih h.2 r hr
theorem allB_kind {l : List Ru} (h : allB l = true) : ∀ r ∈ l, 0 ≤ r.kind ∧ r.kind ≤ 3 := by
  intro r hr
  have := allFrom_mem (Bool.and_eq_true _ _ ▸ h : _ ∧ _).1 r hr
  simp only [ruleB, Bool.and_eq_true, decide_eq_true_eq] at this
  exact this.1.1.1.2
theorem any_congr' {l : List Ru} {p q : Ru → Bool} (h : ∀ r ∈ l, p r = q r) : l.any p = l.any q := by
  induction l with
  | nil => rfl
  | cons x l ih =>
    rw [List.any_cons, List.any_cons, h x (by simp), ih fun r hr => h r (List.mem_cons_of_mem _ hr)]
theorem filter_acl {l : List Ru} (h : allB l = true) (d a : Int) : l.filter (refP d a true) = l.filter (aclP d a) := List.filter_congr fun r hr => refP_acl (allB_kind h r hr) d a
theorem filter_fwd {l : List Ru} (h : allB l = true) (d a : Int) : l.filter (refP d a false) = l.filter (fwdP d a) := List.filter_congr fun r hr => refP_fwd (allB_kind h r hr) d a
theorem any_acl {l : List Ru} (h : allB l = true) (d a : Int) : l.any (refP d a true) = l.any (aclP d a) := any_congr' fun r hr => refP_acl (allB_kind h r hr) d a
theorem any_fwd {l : List Ru} (h : allB l = true) (d a : Int) : l.any (refP d a false) = l.any (fwdP d a) := any_congr' fun r hr => refP_fwd (allB_kind h r hr) d a
theorem rightT_nodup {t : Tp} (h : rightT t = true) : (flatP t.links).Nodup := by
  simp only [rightT, Bool.and_eq_true, decide_eq_true_eq] at h
  exact (joinM_full _).1 h.2.2.2.2.2
theorem step_eq {n : Nw} (h : rightN n = true) (d a : Int) : refStepF n d a = stepF n d a := by
  simp only [rightN, Bool.and_eq_true] at h
  obtain ⟨ht, hr, -⟩ := h
  unfold refStepF stepF refDeniesB deniesB matchB matchR
  rw [filter_acl hr, filter_fwd hr, any_acl hr, any_fwd hr, nextM_eq _ _ (rightT_nodup ht)]
end Go.Proofs.YtanimmdlgmkmkaaGreat.Av


/- Queries, the plain law: addresses between the same cuts fare alike; what a verdict tells. -/
namespace Go.Proofs.YtanimmdlgmkmkaaGreat.Av
set_option linter.unusedSimpArgs false
set_option linter.unusedVariables false

/-- Two addresses lie on the same side of all cuts. -/
def SameSide (L : List Rg) (a b : Int) : Prop := ∀ x ∈ cutsL L, (x ≤ a ↔ x ≤ b)
theorem side_in {L : List Rg} {a b : Int} (h : SameSide L a b) (ha : a < 4294967296) (hb : b < 4294967296) {r : Rg} (hr : r ∈ L) : (r.lo ≤ a ∧ a ≤ r.hi) ↔ (r.lo ≤ b ∧ b ≤ r.hi) := by
  have hm := (cutsL_cuts L).mem
  have h1 : r.lo ∈ cutsL L := (hm _).2 (.inr ⟨r, hr, by unfold endsR; split <;> simp⟩)
  have k1 := h _ h1
  by_cases q : r.hi < 4294967295
  · have h2 : r.hi + 1 ∈ cutsL L := (hm _).2 (.inr ⟨r, hr, by unfold endsR; rw [if_pos q]; simp⟩)
    have k2 := h _ h2
    constructor <;> rintro ⟨x, y⟩ <;> constructor <;> omega
  · constructor <;> rintro ⟨x, y⟩ <;> constructor <;> omega
theorem step_same {n : Nw} {L : List Rg} (hL : ∀ r ∈ n.rules, r.r ∈ L) {a b : Int} (h : SameSide L a b) (ha : a < 4294967296) (hb : b < 4294967296) (d : Int) : stepF n d a = stepF n d b := by
  have ht : ∀ r ∈ n.rules, takesB r d a = takesB r d b := fun r hr => by
    have := side_in h ha hb (hL r hr)
    unfold takesB
    rw [Bool.eq_iff_iff]
    simp only [Bool.and_eq_true, decide_eq_true_eq]
    rw [this]
  have h1 : ∀ r ∈ n.rules, aclP d a r = aclP d b r := fun r hr => by unfold aclP; rw [ht r hr]
  have h2 : ∀ r ∈ n.rules, fwdP d a r = fwdP d b r := fun r hr => by unfold fwdP; rw [ht r hr]
  have e1 : n.rules.any (aclP d a) = n.rules.any (aclP d b) := any_congr' h1
  have e2 : n.rules.any (fwdP d a) = n.rules.any (fwdP d b) := any_congr' h2
  have e3 : n.rules.filter (aclP d a) = n.rules.filter (aclP d b) := List.filter_congr h1
  have e4 : n.rules.filter (fwdP d a) = n.rules.filter (fwdP d b) := List.filter_congr h2
  unfold stepF deniesB matchB matchR
  rw [e1, e2, e3, e4]
/-! ### Right networks -/
theorem right_rules {n : Nw} (h : rightN n = true) : (∀ r ∈ n.rules, ruleB r = true) ∧ n.rules.length ≤ 40 := by
  unfold rightN at h
  simp only [Bool.and_eq_true] at h
  have h2 := h.2.1
  unfold allB at h2
  simp only [Bool.and_eq_true, decide_eq_true_eq] at h2
  exact ⟨allFrom_mem h2.1, h2.2⟩
theorem rule_le {r : Ru} (h : ruleB r = true) : r.r.lo ≤ r.r.hi := by
  unfold ruleB at h
  simp only [Bool.and_eq_true, decide_eq_true_eq] at h
  exact h.2
end Go.Proofs.YtanimmdlgmkmkaaGreat.Av


/- Networks: right topologies, by the document; the first two stretches. -/
namespace Go.Proofs.YtanimmdlgmkmkaaGreat.Av
open Go
set_option linter.unusedSimpArgs false
set_option linter.unusedVariables false
set_option maxRecDepth 100000
set_option pp.maxSteps 600

/-- The document's right topologies: few ports, all links' ports there, none joined twice. -/
def nodupB : List Pt → Bool
  | [] => true
  | p :: l => !l.contains p && nodupB l
theorem nodupB_iff (l : List Pt) : nodupB l = true ↔ l.Nodup := by
  induction l with
  | nil => simp [nodupB]
  | cons p l ih => simp [nodupB, ih]
def refRightT (t : Tp) : Bool := !decide (t.ports.length < 1) && (!decide (8 < t.ports.length) && (!decide (16 < t.links.length) && (t.ports.all (fun n => decide (1 ≤ n) && decide (n ≤ 4)) && ((flatP t.links).all (hasB t) && nodupB (flatP t.links)))))
theorem linkBad_any {t : Tp} (ls : List Lk) (hn : (flatP ls).Nodup) : ls.any (linkBad t) = !(flatP ls).all (hasB t) := by
  induction ls with
  | nil => rfl
  | cons l ls ih =>
    simp only [flatP, List.nodup_cons, List.mem_cons, not_or] at hn
    rw [List.any_cons, ih hn.2.2]
    simp only [flatP, List.all_cons, linkBad]
    have hab : decide (l.a = l.b) = false := by simpa using hn.1.1
    rw [hab]
    cases hasB t l.a <;> cases hasB t l.b <;> simp
theorem rightT_eq (t : Tp) : rightT t = refRightT t := by
  have h1 : decide (t.ports.length = 0) = decide (t.ports.length < 1) := by
    rw [Bool.eq_iff_iff]; simp
  have h2 : (!portsBad t) = t.ports.all (fun n => decide (1 ≤ n) && decide (n ≤ 4)) := by
    unfold portsBad
    induction t.ports with
    | nil => rfl
    | cons n l ih =>
      rw [List.any_cons, List.all_cons, ← ih, Bool.not_or]
      congr 1
      rw [Bool.eq_iff_iff]; simp
  unfold rightT refRightT
  rw [h1, h2]
  by_cases hn : (flatP t.links).Nodup
  · rw [decide_eq_true ((joinM_full _).2 hn), (nodupB_iff _).2 hn, linkBad_any _ hn, Bool.not_not]
  · have e1 : nodupB (flatP t.links) = false := by
      cases h : nodupB (flatP t.links) with
      | false => rfl
      | true => exact absurd ((nodupB_iff _).1 h) hn
    rw [decide_eq_false (fun h => hn ((joinM_full _).1 h)), e1]
    simp
end Go.Proofs.YtanimmdlgmkmkaaGreat.Av

