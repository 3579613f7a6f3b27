/- Labels: LabelBack Part 9 of 17: AvN24, AvN16, AvN31, AvN33, AvL1, AvL2, AvL3, AvL4, AvL7, AvL8, AvL9, AvL5, AvL10, AvL11, AvL14, AvZ1, AvZ2, AvZ4, AvZ5, AvZ6, AvZ3, AvP3, AvL12, AvL13. -/
import Derived.Test.YtanimmdlgmkmkaaGreatLb6
import Derived.Test.YtanimmdlgmkmkaaGreatLb7
import Derived.Test.YtanimmdlgmkmkaaGreatLb8

/- Networks: ref topo.Right (begun). -/
namespace Go.Proofs.YtanimmdlgmkmkaaGreat.Av
open Go
set_option linter.unusedSimpArgs false
set_option linter.unusedVariables false
set_option maxRecDepth 100000
set_option maxHeartbeats 2000000
set_option pp.maxSteps 600

theorem refRight_calls (t : Tp) (f : Fl) (hl : t.ports.length < 2 ^ 60) (hl2 : t.links.length < 2 ^ 42) : PCalls Tryz.prog 122 [tpAV t f] (.raw (.bool (refRightT t))) := by
  refine pbody Tryz.func122 rfl (N := 96) rfl rfl (by simp) (by simp [noIds]) fun σ => ?_
  repeat (refine awp_seq ?_)
  refine awp_reg ?_
  have ho1 : cellOK (intsAV t.ports f.p) = true := rfl
  have ho2 : cellOK (linksAV t.links f.l) = true := rfl
  simp only [cellOK] at ho1 ho2
  simp [tp_cells, ho1, ho2]
  refine awp_freeze ⟨1, σ.nx 1, 2⟩ ?_
  generalize hτ : St.del _ _ = τ
  generalize hA : (fun t => giveUp _ _ _) = A
  have a1 : A 1 = .pp [intsAV t.ports f.p, linksAV t.links f.l] 0 := by rw [← hA, ← hτ]; simp [giveUp, St.new, St.del, tp_cells]
  have hE : Ext σ τ := by
    rw [← hτ]
    refine ⟨fun i o h => ?_, fun s => ?_⟩
    · rw [del_other (fun e => by rw [e, fresh_none] at h; cases h)]
      exact new_up _ _ h
    · exact St.new_le σ 1 2 (.buf [tpAV t f]) s
  clear hτ hA
  by_cases q1 : t.ports.length < 1
  · have q1' : (t.ports.length : Int) < 1 := by omega
    (try (first | (with_reducible refine dops_go ?_; simp [intsAV, linksAV, a1, hE, q1, q1']) | (with_reducible refine OKv_go ?_; simp [intsAV, linksAV, a1, hE, q1, q1']) | (with_reducible refine OKr_go ?_; simp [intsAV, linksAV, a1, hE, q1, q1']))); repeat' (first | refine awp_seq ?_ | refine awp_block ?_ | (refine awp_skip ?_; try simp) | (refine awp_exit ?_; try simp) | (refine awp_ret ?_; try simp) | (refine retP_same (by simp) ?_; simp) | (refine retP_flat (by simp) (by simp) (by simp (maxDischargeDepth := 30) [intsAV, linksAV, a1, hE, q1, q1']) ?_; simp) | (refine awp_reg ?_; simp [intsAV, linksAV, a1, hE, q1, q1']) | (refine awp_drawT (fun _ => false) mixed (by decide +kernel) ?_; simp [intsAV, linksAV, a1, hE, q1, q1']) | (refine guarded_split ?_ ?_ <;> (intro hg; simp only [hg]; simp [intsAV, linksAV, a1, hE, q1, q1'])) | (apply awp_cond_t; focus (simp [intsAV, linksAV, a1, hE, q1, q1']; done)) | (apply awp_cond_f; focus (simp [intsAV, linksAV, a1, hE, q1, q1']; done)) | (refine awp_cond ?_; simp [intsAV, linksAV, a1, hE, q1, q1']; refine ⟨?_, ?_⟩ <;> intro hc))
    all_goals simp [refRightT, q1]
  have q1' : ¬ (t.ports.length : Int) < 1 := by omega
  by_cases q2 : 8 < t.ports.length
  · have q2' : (8 : Int) < (t.ports.length : Int) := by omega
    (try (first | (with_reducible refine dops_go ?_; simp [intsAV, linksAV, a1, hE, q1, q1', q2, q2']) | (with_reducible refine OKv_go ?_; simp [intsAV, linksAV, a1, hE, q1, q1', q2, q2']) | (with_reducible refine OKr_go ?_; simp [intsAV, linksAV, a1, hE, q1, q1', q2, q2']))); repeat' (first | refine awp_seq ?_ | refine awp_block ?_ | (refine awp_skip ?_; try simp) | (refine awp_exit ?_; try simp) | (refine awp_ret ?_; try simp) | (refine retP_same (by simp) ?_; simp) | (refine retP_flat (by simp) (by simp) (by simp (maxDischargeDepth := 30) [intsAV, linksAV, a1, hE, q1, q1', q2, q2']) ?_; simp) | (refine awp_reg ?_; simp [intsAV, linksAV, a1, hE, q1, q1', q2, q2']) | (refine awp_drawT (fun _ => false) mixed (by decide +kernel) ?_; simp [intsAV, linksAV, a1, hE, q1, q1', q2, q2']) | (refine guarded_split ?_ ?_ <;> (intro hg; simp only [hg]; simp [intsAV, linksAV, a1, hE, q1, q1', q2, q2'])) | (apply awp_cond_t; focus (simp [intsAV, linksAV, a1, hE, q1, q1', q2, q2']; done)) | (apply awp_cond_f; focus (simp [intsAV, linksAV, a1, hE, q1, q1', q2, q2']; done)) | (refine awp_cond ?_; simp [intsAV, linksAV, a1, hE, q1, q1', q2, q2']; refine ⟨?_, ?_⟩ <;> intro hc))
    all_goals simp [refRightT, q2]
  have q2' : ¬ (8 : Int) < (t.ports.length : Int) := by omega
  by_cases q3 : 16 < t.links.length
  · have q3' : (16 : Int) < (t.links.length : Int) := by omega
    (try (first | (with_reducible refine dops_go ?_; simp [intsAV, linksAV, a1, hE, q1, q1', q2, q2', q3, q3']) | (with_reducible refine OKv_go ?_; simp [intsAV, linksAV, a1, hE, q1, q1', q2, q2', q3, q3']) | (with_reducible refine OKr_go ?_; simp [intsAV, linksAV, a1, hE, q1, q1', q2, q2', q3, q3']))); repeat' (first | refine awp_seq ?_ | refine awp_block ?_ | (refine awp_skip ?_; try simp) | (refine awp_exit ?_; try simp) | (refine awp_ret ?_; try simp) | (refine retP_same (by simp) ?_; simp) | (refine retP_flat (by simp) (by simp) (by simp (maxDischargeDepth := 30) [intsAV, linksAV, a1, hE, q1, q1', q2, q2', q3, q3']) ?_; simp) | (refine awp_reg ?_; simp [intsAV, linksAV, a1, hE, q1, q1', q2, q2', q3, q3']) | (refine awp_drawT (fun _ => false) mixed (by decide +kernel) ?_; simp [intsAV, linksAV, a1, hE, q1, q1', q2, q2', q3, q3']) | (refine guarded_split ?_ ?_ <;> (intro hg; simp only [hg]; simp [intsAV, linksAV, a1, hE, q1, q1', q2, q2', q3, q3'])) | (apply awp_cond_t; focus (simp [intsAV, linksAV, a1, hE, q1, q1', q2, q2', q3, q3']; done)) | (apply awp_cond_f; focus (simp [intsAV, linksAV, a1, hE, q1, q1', q2, q2', q3, q3']; done)) | (refine awp_cond ?_; simp [intsAV, linksAV, a1, hE, q1, q1', q2, q2', q3, q3']; refine ⟨?_, ?_⟩ <;> intro hc))
    all_goals simp [refRightT, q3]
  have q3' : ¬ (16 : Int) < (t.links.length : Int) := by omega
  (try (first | (with_reducible refine dops_go ?_; simp [intsAV, linksAV, a1, hE, q1, q1', q2, q2', q3, q3']) | (with_reducible refine OKv_go ?_; simp [intsAV, linksAV, a1, hE, q1, q1', q2, q2', q3, q3']) | (with_reducible refine OKr_go ?_; simp [intsAV, linksAV, a1, hE, q1, q1', q2, q2', q3, q3']))); repeat' (first | refine awp_seq ?_ | refine awp_block ?_ | (refine awp_skip ?_; try simp) | (refine awp_exit ?_; try simp) | (refine awp_ret ?_; try simp) | (refine retP_same (by simp) ?_; simp) | (refine retP_flat (by simp) (by simp) (by simp (maxDischargeDepth := 30) [intsAV, linksAV, a1, hE, q1, q1', q2, q2', q3, q3']) ?_; simp) | (refine awp_reg ?_; simp [intsAV, linksAV, a1, hE, q1, q1', q2, q2', q3, q3']) | (refine awp_drawT (fun _ => false) mixed (by decide +kernel) ?_; simp [intsAV, linksAV, a1, hE, q1, q1', q2, q2', q3, q3']) | (refine guarded_split ?_ ?_ <;> (intro hg; simp only [hg]; simp [intsAV, linksAV, a1, hE, q1, q1', q2, q2', q3, q3'])) | (apply awp_cond_t; focus (simp [intsAV, linksAV, a1, hE, q1, q1', q2, q2', q3, q3']; done)) | (apply awp_cond_f; focus (simp [intsAV, linksAV, a1, hE, q1, q1', q2, q2', q3, q3']; done)) | (refine awp_cond ?_; simp [intsAV, linksAV, a1, hE, q1, q1', q2, q2', q3, q3']; refine ⟨?_, ?_⟩ <;> intro hc))
  refine awp_loopH (fun n B ρ => Ext σ ρ ∧ B 1 = .pp [intsAV t.ports f.p, linksAV t.links f.l] 0 ∧ ∃ i : Nat, B 3 = .raw (.int .i64 i) ∧ i ≤ t.ports.length ∧ n = t.ports.length - i ∧ (t.ports.take i).all (fun n => decide (1 ≤ n) && decide (n ≤ 4)) = true) t.ports.length ?_ ?_
  · exact ⟨hE, by simp [a1], 0, by simp, by omega, by omega, by simp⟩
  clear hE a1
  rintro n B ρ ⟨hE, a1, i, a3, hi, rfl, hall⟩ I1 hI1
  by_cases hlt : i < t.ports.length
  · have hx : t.ports[i]? = some t.ports[i] := List.getElem?_eq_getElem hlt
    have w1 : IntKind.i64.wrap ((i : Int) + 1) = ((i + 1 : Nat) : Int) := by rw [wrap64 (by omega) (by omega)]; omega
    by_cases p1 : t.ports[i] < 1
    · have hf : t.ports.all (fun n => decide (1 ≤ n) && decide (n ≤ 4)) = false := by
        rw [List.all_eq_false]
        exact ⟨_, List.getElem_mem hlt, by simp; omega⟩
      (try (first | (with_reducible refine dops_go ?_; simp [intsAV, linksAV, iAV, a1, a3, hE, hlt, hx, w1, p1]) | (with_reducible refine OKv_go ?_; simp [intsAV, linksAV, iAV, a1, a3, hE, hlt, hx, w1, p1]) | (with_reducible refine OKr_go ?_; simp [intsAV, linksAV, iAV, a1, a3, hE, hlt, hx, w1, p1]))); repeat' (first | refine awp_seq ?_ | refine awp_block ?_ | (refine awp_skip ?_; try simp) | (refine awp_exit ?_; try simp) | (refine awp_ret ?_; try simp) | (refine retP_same (by simp) ?_; simp) | (refine retP_flat (by simp) (by simp) (by simp (maxDischargeDepth := 30) [intsAV, linksAV, iAV, a1, a3, hE, hlt, hx, w1, p1]) ?_; simp) | (refine awp_reg ?_; simp [intsAV, linksAV, iAV, a1, a3, hE, hlt, hx, w1, p1]) | (refine awp_drawT (fun _ => false) mixed (by decide +kernel) ?_; simp [intsAV, linksAV, iAV, a1, a3, hE, hlt, hx, w1, p1]) | (refine guarded_split ?_ ?_ <;> (intro hg; simp only [hg]; simp [intsAV, linksAV, iAV, a1, a3, hE, hlt, hx, w1, p1])) | (apply awp_cond_t; focus (simp [intsAV, linksAV, iAV, a1, a3, hE, hlt, hx, w1, p1]; done)) | (apply awp_cond_f; focus (simp [intsAV, linksAV, iAV, a1, a3, hE, hlt, hx, w1, p1]; done)) | (refine awp_cond ?_; simp [intsAV, linksAV, iAV, a1, a3, hE, hlt, hx, w1, p1]; refine ⟨?_, ?_⟩ <;> intro hc))
      all_goals simp [refRightT, hf]
    · by_cases p2 : 4 < t.ports[i]
      · have hf : t.ports.all (fun n => decide (1 ≤ n) && decide (n ≤ 4)) = false := by
          rw [List.all_eq_false]
          exact ⟨_, List.getElem_mem hlt, by simp; omega⟩
        (try (first | (with_reducible refine dops_go ?_; simp [intsAV, linksAV, iAV, a1, a3, hE, hlt, hx, w1, p1, p2]) | (with_reducible refine OKv_go ?_; simp [intsAV, linksAV, iAV, a1, a3, hE, hlt, hx, w1, p1, p2]) | (with_reducible refine OKr_go ?_; simp [intsAV, linksAV, iAV, a1, a3, hE, hlt, hx, w1, p1, p2]))); repeat' (first | refine awp_seq ?_ | refine awp_block ?_ | (refine awp_skip ?_; try simp) | (refine awp_exit ?_; try simp) | (refine awp_ret ?_; try simp) | (refine retP_same (by simp) ?_; simp) | (refine retP_flat (by simp) (by simp) (by simp (maxDischargeDepth := 30) [intsAV, linksAV, iAV, a1, a3, hE, hlt, hx, w1, p1, p2]) ?_; simp) | (refine awp_reg ?_; simp [intsAV, linksAV, iAV, a1, a3, hE, hlt, hx, w1, p1, p2]) | (refine awp_drawT (fun _ => false) mixed (by decide +kernel) ?_; simp [intsAV, linksAV, iAV, a1, a3, hE, hlt, hx, w1, p1, p2]) | (refine guarded_split ?_ ?_ <;> (intro hg; simp only [hg]; simp [intsAV, linksAV, iAV, a1, a3, hE, hlt, hx, w1, p1, p2])) | (apply awp_cond_t; focus (simp [intsAV, linksAV, iAV, a1, a3, hE, hlt, hx, w1, p1, p2]; done)) | (apply awp_cond_f; focus (simp [intsAV, linksAV, iAV, a1, a3, hE, hlt, hx, w1, p1, p2]; done)) | (refine awp_cond ?_; simp [intsAV, linksAV, iAV, a1, a3, hE, hlt, hx, w1, p1, p2]; refine ⟨?_, ?_⟩ <;> intro hc))
        all_goals simp [refRightT, hf]
      · have hp : (decide (1 ≤ t.ports[i]) && decide (t.ports[i] ≤ 4)) = true := by
          rw [Bool.and_eq_true, decide_eq_true_eq, decide_eq_true_eq]; exact ⟨by omega, by omega⟩
        have hall' : (t.ports.take (i + 1)).all (fun n => decide (1 ≤ n) && decide (n ≤ 4)) = true := by
          rw [List.take_add_one, hx, List.all_append, hall, Option.toList_some, List.all_cons, hp]; rfl
        (try (first | (with_reducible refine dops_go ?_; simp [intsAV, linksAV, iAV, a1, a3, hE, hlt, hx, w1, p1, p2]) | (with_reducible refine OKv_go ?_; simp [intsAV, linksAV, iAV, a1, a3, hE, hlt, hx, w1, p1, p2]) | (with_reducible refine OKr_go ?_; simp [intsAV, linksAV, iAV, a1, a3, hE, hlt, hx, w1, p1, p2]))); repeat' (first | refine awp_seq ?_ | refine awp_block ?_ | (refine awp_skip ?_; try simp) | (refine awp_exit ?_; try simp) | (refine awp_ret ?_; try simp) | (refine retP_same (by simp) ?_; simp) | (refine retP_flat (by simp) (by simp) (by simp (maxDischargeDepth := 30) [intsAV, linksAV, iAV, a1, a3, hE, hlt, hx, w1, p1, p2]) ?_; simp) | (refine awp_reg ?_; simp [intsAV, linksAV, iAV, a1, a3, hE, hlt, hx, w1, p1, p2]) | (refine awp_drawT (fun _ => false) mixed (by decide +kernel) ?_; simp [intsAV, linksAV, iAV, a1, a3, hE, hlt, hx, w1, p1, p2]) | (refine guarded_split ?_ ?_ <;> (intro hg; simp only [hg]; simp [intsAV, linksAV, iAV, a1, a3, hE, hlt, hx, w1, p1, p2])) | (apply awp_cond_t; focus (simp [intsAV, linksAV, iAV, a1, a3, hE, hlt, hx, w1, p1, p2]; done)) | (apply awp_cond_f; focus (simp [intsAV, linksAV, iAV, a1, a3, hE, hlt, hx, w1, p1, p2]; done)) | (refine awp_cond ?_; simp [intsAV, linksAV, iAV, a1, a3, hE, hlt, hx, w1, p1, p2]; refine ⟨?_, ?_⟩ <;> intro hc))
        exact hI1 (t.ports.length - (i + 1)) _ _ (by omega) ⟨hE, by simp [a1, intsAV, linksAV], i + 1, by simp, by omega, rfl, hall'⟩
  · have : i = t.ports.length := by omega
    subst this
    rw [List.take_length] at hall
    (try (first | (with_reducible refine dops_go ?_; simp [intsAV, linksAV, iAV, a1, a3, hE]) | (with_reducible refine OKv_go ?_; simp [intsAV, linksAV, iAV, a1, a3, hE]) | (with_reducible refine OKr_go ?_; simp [intsAV, linksAV, iAV, a1, a3, hE]))); repeat' (first | refine awp_seq ?_ | refine awp_block ?_ | (refine awp_skip ?_; try simp) | (refine awp_exit ?_; try simp) | (refine awp_ret ?_; try simp) | (refine retP_same (by simp) ?_; simp) | (refine retP_flat (by simp) (by simp) (by simp (maxDischargeDepth := 30) [intsAV, linksAV, iAV, a1, a3, hE]) ?_; simp) | (refine awp_reg ?_; simp [intsAV, linksAV, iAV, a1, a3, hE]) | (refine awp_drawT (fun _ => false) mixed (by decide +kernel) ?_; simp [intsAV, linksAV, iAV, a1, a3, hE]) | (refine guarded_split ?_ ?_ <;> (intro hg; simp only [hg]; simp [intsAV, linksAV, iAV, a1, a3, hE])) | (apply awp_cond_t; focus (simp [intsAV, linksAV, iAV, a1, a3, hE]; done)) | (apply awp_cond_f; focus (simp [intsAV, linksAV, iAV, a1, a3, hE]; done)) | (refine awp_cond ?_; simp [intsAV, linksAV, iAV, a1, a3, hE]; refine ⟨?_, ?_⟩ <;> intro hc))
    refine awp_loopH (fun n B ρ => Ext σ ρ ∧ B 1 = .pp [intsAV t.ports f.p, linksAV t.links f.l] 0 ∧ ∃ (k : Nat) (v : AV), B 4 = v ∧ OwnL σ ρ 2 v ((flatP (t.links.take k)).map ptAV) ∧ B 5 = .raw (.int .i64 k) ∧ k ≤ t.links.length ∧ n = t.links.length - k) t.links.length ?_ ?_
    · exact ⟨hE, by simp [a1, intsAV, linksAV], 0, _, rfl, .inl ⟨by simp [flatP], by simp⟩, by simp, by omega, by omega⟩
    clear hE a1 a3 hI1 I1
    rintro n B ρ ⟨hE, a1, k, v, a4, hO, a5, hk, rfl⟩ I1 hI1
    have hfl : ∀ L : List Lk, (flatP L).length = 2 * L.length := by
      intro L; induction L with
      | nil => rfl
      | cons l L ih => simp only [flatP, List.length_cons, ih]; omega
    by_cases hlt : k < t.links.length
    · have hx : t.links[k]? = some t.links[k] := List.getElem?_eq_getElem hlt
      have w1 : IntKind.i64.wrap ((k : Int) + 1) = ((k + 1 : Nat) : Int) := by rw [wrap64 (by omega) (by omega)]; omega
      have hfp : flatP (t.links.take (k + 1)) = flatP (t.links.take k) ++ [t.links[k].a, t.links[k].b] := by
        rw [List.take_add_one, hx]
        generalize t.links.take k = L
        induction L with
        | nil => rfl
        | cons l L ih => simp only [List.cons_append, flatP, ih]
      have fa : AV.agg [.raw (.int .i64 t.links[k].a.dev), .raw (.int .i64 t.links[k].a.port)] = ptAV t.links[k].a := rfl
      have fb : AV.agg [.raw (.int .i64 t.links[k].b.dev), .raw (.int .i64 t.links[k].b.port)] = ptAV t.links[k].b := rfl
      have hpc : ∀ q : Pt, (ptAV q).cells = [.raw (.int .i64 q.dev), .raw (.int .i64 q.port)] := fun q => rfl
      (try (first | (with_reducible refine dops_go ?_; simp [linksAV, intsAV, a1, a4, a5, hlt, hx, lk_cells', fa, fb, hpc, w1, -opAppend]) | (with_reducible refine OKv_go ?_; simp [linksAV, intsAV, a1, a4, a5, hlt, hx, lk_cells', fa, fb, hpc, w1, -opAppend]) | (with_reducible refine OKr_go ?_; simp [linksAV, intsAV, a1, a4, a5, hlt, hx, lk_cells', fa, fb, hpc, w1, -opAppend]))); repeat' (first | refine awp_seq ?_ | refine awp_block ?_ | (refine awp_skip ?_; try simp) | (refine awp_exit ?_; try simp) | (refine awp_ret ?_; try simp) | (refine retP_same (by simp) ?_; simp) | (refine retP_flat (by simp) (by simp) (by simp (maxDischargeDepth := 30) [linksAV, intsAV, a1, a4, a5, hlt, hx, lk_cells', fa, fb, hpc, w1, -opAppend]) ?_; simp) | (refine awp_reg ?_; simp [linksAV, intsAV, a1, a4, a5, hlt, hx, lk_cells', fa, fb, hpc, w1, -opAppend]) | (refine awp_drawT (fun _ => false) mixed (by decide +kernel) ?_; simp [linksAV, intsAV, a1, a4, a5, hlt, hx, lk_cells', fa, fb, hpc, w1, -opAppend]) | (refine guarded_split ?_ ?_ <;> (intro hg; simp only [hg]; simp [linksAV, intsAV, a1, a4, a5, hlt, hx, lk_cells', fa, fb, hpc, w1, -opAppend])) | (apply awp_cond_t; focus (simp [linksAV, intsAV, a1, a4, a5, hlt, hx, lk_cells', fa, fb, hpc, w1, -opAppend]; done)) | (apply awp_cond_f; focus (simp [linksAV, intsAV, a1, a4, a5, hlt, hx, lk_cells', fa, fb, hpc, w1, -opAppend]; done)) | (refine awp_cond ?_; simp [linksAV, intsAV, a1, a4, a5, hlt, hx, lk_cells', fa, fb, hpc, w1, -opAppend]; refine ⟨?_, ?_⟩ <;> intro hc))
      refine okr_append slt205 (hO.ext (Ext.new _ _ _ _)) (hE.trans (Ext.new _ _ _ _)) (ys := [ptAV t.links[k].a, ptAV t.links[k].b]) (by simp) (.inr rfl) (by simp [hpc]) (by simp [hfl, Nat.min_eq_left hk]; omega) ?_
      intro v' τ' hO' hE' _ _
      (try (first | (with_reducible refine dops_go ?_; simp [linksAV, intsAV, a1, a4, a5, w1]) | (with_reducible refine OKv_go ?_; simp [linksAV, intsAV, a1, a4, a5, w1]) | (with_reducible refine OKr_go ?_; simp [linksAV, intsAV, a1, a4, a5, w1]))); repeat' (first | refine awp_seq ?_ | refine awp_block ?_ | (refine awp_skip ?_; try simp) | (refine awp_exit ?_; try simp) | (refine awp_ret ?_; try simp) | (refine retP_same (by simp) ?_; simp) | (refine retP_flat (by simp) (by simp) (by simp (maxDischargeDepth := 30) [linksAV, intsAV, a1, a4, a5, w1]) ?_; simp) | (refine awp_reg ?_; simp [linksAV, intsAV, a1, a4, a5, w1]) | (refine awp_drawT (fun _ => false) mixed (by decide +kernel) ?_; simp [linksAV, intsAV, a1, a4, a5, w1]) | (refine guarded_split ?_ ?_ <;> (intro hg; simp only [hg]; simp [linksAV, intsAV, a1, a4, a5, w1])) | (apply awp_cond_t; focus (simp [linksAV, intsAV, a1, a4, a5, w1]; done)) | (apply awp_cond_f; focus (simp [linksAV, intsAV, a1, a4, a5, w1]; done)) | (refine awp_cond ?_; simp [linksAV, intsAV, a1, a4, a5, w1]; refine ⟨?_, ?_⟩ <;> intro hc))
      exact hI1 (t.links.length - (k + 1)) _ _ (by omega) ⟨hE', by simp [a1, intsAV, linksAV], k + 1, v', by simp, by rw [hfp]; simpa using hO', by simp, by omega, rfl⟩
    · have : k = t.links.length := by omega
      subst this
      rw [List.take_length] at hO
      have hFl := hfl t.links
      obtain ⟨F, hF⟩ : ∃ F, flatP t.links = F := ⟨_, rfl⟩
      have hres : refRightT t = (F.all (hasB t) && nodupB F) := by
        unfold refRightT
        rw [hF, hall, decide_eq_false q1, decide_eq_false q2, decide_eq_false q3]; rfl
      rw [hres]
      rw [hF] at hO hFl
      clear hres hI1 hall hfl
      have hpc : ∀ q : Pt, (ptAV q).cells = [.raw (.int .i64 q.dev), .raw (.int .i64 q.port)] := fun q => rfl
      have hpf : ∀ q : Pt, AV.agg [.raw (.int .i64 q.dev), .raw (.int .i64 q.port)] = ptAV q := fun q => rfl
      have htf : AV.agg [AV.sl 1 (t.ports.map iAV) f.p, AV.sl 4 (t.links.map lkAV) f.l] = tpAV t f := rfl
      have hbin : ∀ x y : Pt, opBin Tryz.prog .eql 41 (ptAV x) (ptAV y) = some (.raw (.bool (decide (x = y)))) := fun x y => by
        have e1 : opBin Tryz.prog .eql 41 (ptAV x) (ptAV y) = if Tryz.prog.eqGuardType Tryz.prog.depth 41 = false then (structEq Tryz.prog 4 41 (ptAV x) (ptAV y)).bind fun b => (nilBin .eql b).map .raw else none := rfl
        have := key_eq x y
        rw [e1, if_pos eqg41]
        rw [show structEq Tryz.prog 4 41 (ptAV x) (ptAV y) = some (decide (x = y)) from this]
        rfl
      (try (first | (with_reducible refine dops_go ?_; simp [linksAV, intsAV, a1, a4, a5]) | (with_reducible refine OKv_go ?_; simp [linksAV, intsAV, a1, a4, a5]) | (with_reducible refine OKr_go ?_; simp [linksAV, intsAV, a1, a4, a5]))); repeat' (first | refine awp_seq ?_ | refine awp_block ?_ | (refine awp_skip ?_; try simp) | (refine awp_exit ?_; try simp) | (refine awp_ret ?_; try simp) | (refine retP_same (by simp) ?_; simp) | (refine retP_flat (by simp) (by simp) (by simp (maxDischargeDepth := 30) [linksAV, intsAV, a1, a4, a5]) ?_; simp) | (refine awp_reg ?_; simp [linksAV, intsAV, a1, a4, a5]) | (refine awp_drawT (fun _ => false) mixed (by decide +kernel) ?_; simp [linksAV, intsAV, a1, a4, a5]) | (refine guarded_split ?_ ?_ <;> (intro hg; simp only [hg]; simp [linksAV, intsAV, a1, a4, a5])) | (apply awp_cond_t; focus (simp [linksAV, intsAV, a1, a4, a5]; done)) | (apply awp_cond_f; focus (simp [linksAV, intsAV, a1, a4, a5]; done)) | (refine awp_cond ?_; simp [linksAV, intsAV, a1, a4, a5]; refine ⟨?_, ?_⟩ <;> intro hc))
      refine awp_settle 4 (by simpa [a4] using hO) hE ?_
      intro A' τ' hE' e4 hf _ _ _ _
      have b1 : A' 1 = .pp [intsAV t.ports f.p, linksAV t.links f.l] 0 := by rw [hf 1 (by simp) (by simp [a1])]; simp [a1]
      have b6 : A' 6 = .raw (.int .i64 0) := by rw [hf 6 (by simp) (by simp)]; simp
      clear hf hE a1 a4 a5 hO
      refine awp_loopH (fun n B ρ => Ext σ ρ ∧ B 1 = .pp [intsAV t.ports f.p, linksAV t.links f.l] 0 ∧ B 4 = .sl 2 (F.map ptAV) false ∧ ∃ i : Nat, B 6 = .raw (.int .i64 i) ∧ i ≤ F.length ∧ n = F.length - i ∧ (F.take i).all (hasB t) = true ∧ (F.take i).Nodup) F.length ?_ ?_
      · exact ⟨hE', b1, e4, 0, by simp [b6], by omega, by omega, by simp, by simp⟩
      clear hE' b1 e4 b6
      rintro n B ρ ⟨hE, a1, a4, i, a6, hi, rfl, hal, hnd⟩ I1 hI1
      by_cases hlt : i < F.length
      · have hx : F[i]? = some F[i] := List.getElem?_eq_getElem hlt
        have w1 : IntKind.i64.wrap ((i : Int) + 1) = ((i + 1 : Nat) : Int) := by rw [wrap64 (by omega) (by omega)]; omega
        have hh := refHas_calls t f F[i] hl
        by_cases hb : hasB t F[i] = true
        · rw [hb] at hh
          (try ((first | with_reducible refine dops_go ?_ | with_reducible refine OKv_go ?_ | with_reducible refine OKr_go ?_); simp [-cellOK, linksAV, intsAV, a1, a4, a6, hlt, hx, hpc, htf])); repeat' (first | refine awp_seq ?_ | refine awp_block ?_ | (refine awp_skip ?_; try simp) | (refine awp_exit ?_; try simp) | (refine awp_ret ?_; try simp) | (refine retP_same (by simp) ?_; simp) | (refine retP_no (by simp) (by simp [noIds]) (by repeat (first | assumption | exact Ext.refl _ | refine ext_new' ?_ | refine Ext.setF ?_ (by first | assumption | (simp [new_nx', St.set, fresh_none]; done) | exact ext_fresh (by assumption)))) ?_; simp [-cellOK, linksAV, intsAV, a1, a4, a6, hlt, hx, hpc, htf, new_m, set_m, new_nx']) | ((first | refine awp_reg ?_ | refine awp_drawT (fun _ => false) mixed (by decide +kernel) ?_ | refine awp_drawT isCallO mixed (by decide +kernel) ?_ | refine PCalls.use (hh) ?_ | refine Or.inl ⟨_, Or.inl (hh), ?_⟩); simp [-cellOK, linksAV, intsAV, a1, a4, a6, hlt, hx, hpc, htf]) | (refine guarded_split ?_ ?_ <;> (intro hg; simp only [hg]; simp [-cellOK, linksAV, intsAV, a1, a4, a6, hlt, hx, hpc, htf])) | (apply awp_cond_t; focus (simp [-cellOK, linksAV, intsAV, a1, a4, a6, hlt, hx, hpc, htf]; done)) | (apply awp_cond_f; focus (simp [-cellOK, linksAV, intsAV, a1, a4, a6, hlt, hx, hpc, htf]; done)) | (refine awp_cond ?_; simp [-cellOK, linksAV, intsAV, a1, a4, a6, hlt, hx, hpc, htf]; refine ⟨?_, ?_⟩ <;> intro hc) | fail)
          refine awp_loopH (fun n B ρ => Ext σ ρ ∧ B 1 = .pp [intsAV t.ports f.p, linksAV t.links f.l] 0 ∧ B 4 = .sl 2 (F.map ptAV) false ∧ B 6 = .raw (.int .i64 i) ∧ ∃ k : Nat, B 8 = .raw (.int .i64 k) ∧ k ≤ i ∧ n = i - k ∧ ∀ j, (hj : j < k) → (hji : j < F.length) → F[j] ≠ F[i]) i ?_ ?_
          · exact ⟨by simp [hE], by simp [a1, linksAV, intsAV], by simp [a4], by simp [a6], 0, by simp, by omega, by omega, fun j hj => by omega⟩
          rintro n C τ ⟨hE, a1, a4, a6, k, a8, hk, rfl, hne⟩ J1 hJ1
          by_cases hki : k < i
          · have hkl : k < F.length := by omega
            have hx2 : F[k]? = some F[k] := List.getElem?_eq_getElem hkl
            have w2 : IntKind.i64.wrap ((k : Int) + 1) = ((k + 1 : Nat) : Int) := by rw [wrap64 (by omega) (by omega)]; omega
            by_cases he : F[k] = F[i]
            · have hnn : nodupB F = false := by
                cases h : nodupB F with
                | false => rfl
                | true =>
                  have := (nodupB_iff _).1 h
                  exact absurd he (List.pairwise_iff_getElem.1 this k i hkl hlt hki)
              have hd : decide (F[k] = F[i]) = true := decide_eq_true he
              rw [show (F.all (hasB t) && nodupB F) = false by rw [hnn, Bool.and_false]]
              (try ((first | with_reducible refine dops_go ?_ | with_reducible refine OKv_go ?_ | with_reducible refine OKr_go ?_); simp [-cellOK, linksAV, intsAV, hE, a1, a4, a6, a8, hlt, hx, hkl, hki, hx2, w2, hpc, hpf, -opBin, hbin, opBin_raw, hd])); repeat' (first | refine awp_seq ?_ | refine awp_block ?_ | (refine awp_skip ?_; try simp) | (refine awp_exit ?_; try simp) | (refine awp_ret ?_; try simp) | (refine retP_same (by simp) ?_; simp) | (refine retP_no (by simp) (by simp [noIds]) (by repeat (first | assumption | exact Ext.refl _ | refine ext_new' ?_ | refine Ext.setF ?_ (by first | assumption | (simp [new_nx', St.set, fresh_none]; done) | exact ext_fresh (by assumption)))) ?_; simp [-cellOK, linksAV, intsAV, hE, a1, a4, a6, a8, hlt, hx, hkl, hki, hx2, w2, hpc, hpf, -opBin, hbin, opBin_raw, hd, new_m, set_m, new_nx']) | ((first | refine awp_reg ?_ | refine awp_drawT (fun _ => false) mixed (by decide +kernel) ?_ | refine awp_drawT isCallO mixed (by decide +kernel) ?_ | refine PCalls.use (hh) ?_ | refine Or.inl ⟨_, Or.inl (hh), ?_⟩); simp [-cellOK, linksAV, intsAV, hE, a1, a4, a6, a8, hlt, hx, hkl, hki, hx2, w2, hpc, hpf, -opBin, hbin, opBin_raw, hd]) | (refine guarded_split ?_ ?_ <;> (intro hg; simp only [hg]; simp [-cellOK, linksAV, intsAV, hE, a1, a4, a6, a8, hlt, hx, hkl, hki, hx2, w2, hpc, hpf, -opBin, hbin, opBin_raw, hd])) | (apply awp_cond_t; focus (simp [-cellOK, linksAV, intsAV, hE, a1, a4, a6, a8, hlt, hx, hkl, hki, hx2, w2, hpc, hpf, -opBin, hbin, opBin_raw, hd]; done)) | (apply awp_cond_f; focus (simp [-cellOK, linksAV, intsAV, hE, a1, a4, a6, a8, hlt, hx, hkl, hki, hx2, w2, hpc, hpf, -opBin, hbin, opBin_raw, hd]; done)) | (refine awp_cond ?_; simp [-cellOK, linksAV, intsAV, hE, a1, a4, a6, a8, hlt, hx, hkl, hki, hx2, w2, hpc, hpf, -opBin, hbin, opBin_raw, hd]; refine ⟨?_, ?_⟩ <;> intro hc) | fail)
            · have hd : decide (F[k] = F[i]) = false := decide_eq_false he
              (try ((first | with_reducible refine dops_go ?_ | with_reducible refine OKv_go ?_ | with_reducible refine OKr_go ?_); simp [-cellOK, linksAV, intsAV, a1, a4, a6, a8, hlt, hx, hkl, hki, hx2, w2, hpc, hpf, -opBin, hbin, opBin_raw, hd])); repeat' (first | refine awp_seq ?_ | refine awp_block ?_ | (refine awp_skip ?_; try simp) | (refine awp_exit ?_; try simp) | (refine awp_ret ?_; try simp) | (refine retP_same (by simp) ?_; simp) | (refine retP_no (by simp) (by simp [noIds]) (by repeat (first | assumption | exact Ext.refl _ | refine ext_new' ?_ | refine Ext.setF ?_ (by first | assumption | (simp [new_nx', St.set, fresh_none]; done) | exact ext_fresh (by assumption)))) ?_; simp [-cellOK, linksAV, intsAV, a1, a4, a6, a8, hlt, hx, hkl, hki, hx2, w2, hpc, hpf, -opBin, hbin, opBin_raw, hd, new_m, set_m, new_nx']) | ((first | refine awp_reg ?_ | refine awp_drawT (fun _ => false) mixed (by decide +kernel) ?_ | refine awp_drawT isCallO mixed (by decide +kernel) ?_ | refine PCalls.use (hh) ?_ | refine Or.inl ⟨_, Or.inl (hh), ?_⟩); simp [-cellOK, linksAV, intsAV, a1, a4, a6, a8, hlt, hx, hkl, hki, hx2, w2, hpc, hpf, -opBin, hbin, opBin_raw, hd]) | (refine guarded_split ?_ ?_ <;> (intro hg; simp only [hg]; simp [-cellOK, linksAV, intsAV, a1, a4, a6, a8, hlt, hx, hkl, hki, hx2, w2, hpc, hpf, -opBin, hbin, opBin_raw, hd])) | (apply awp_cond_t; focus (simp [-cellOK, linksAV, intsAV, a1, a4, a6, a8, hlt, hx, hkl, hki, hx2, w2, hpc, hpf, -opBin, hbin, opBin_raw, hd]; done)) | (apply awp_cond_f; focus (simp [-cellOK, linksAV, intsAV, a1, a4, a6, a8, hlt, hx, hkl, hki, hx2, w2, hpc, hpf, -opBin, hbin, opBin_raw, hd]; done)) | (refine awp_cond ?_; simp [-cellOK, linksAV, intsAV, a1, a4, a6, a8, hlt, hx, hkl, hki, hx2, w2, hpc, hpf, -opBin, hbin, opBin_raw, hd]; refine ⟨?_, ?_⟩ <;> intro hc) | fail)
              exact hJ1 (i - (k + 1)) _ _ (by omega) ⟨hE, by simp [a1, linksAV, intsAV], by simp [a4], by simp [a6], k + 1, by simp, by omega, rfl, fun j hj hji => by
                by_cases e : j = k
                · subst e; exact he
                · exact hne j (by omega) hji⟩
          · have : k = i := by omega
            subst this
            (try ((first | with_reducible refine dops_go ?_ | with_reducible refine OKv_go ?_ | with_reducible refine OKr_go ?_); simp [-cellOK, linksAV, intsAV, a1, a4, a6, a8, w1])); repeat' (first | refine awp_seq ?_ | refine awp_block ?_ | (refine awp_skip ?_; try simp) | (refine awp_exit ?_; try simp) | (refine awp_ret ?_; try simp) | (refine retP_same (by simp) ?_; simp) | (refine retP_no (by simp) (by simp [noIds]) (by repeat (first | assumption | exact Ext.refl _ | refine ext_new' ?_ | refine Ext.setF ?_ (by first | assumption | (simp [new_nx', St.set, fresh_none]; done) | exact ext_fresh (by assumption)))) ?_; simp [-cellOK, linksAV, intsAV, a1, a4, a6, a8, w1, new_m, set_m, new_nx']) | ((first | refine awp_reg ?_ | refine awp_drawT (fun _ => false) mixed (by decide +kernel) ?_ | refine awp_drawT isCallO mixed (by decide +kernel) ?_ | refine PCalls.use (hh) ?_ | refine Or.inl ⟨_, Or.inl (hh), ?_⟩); simp [-cellOK, linksAV, intsAV, a1, a4, a6, a8, w1]) | (refine guarded_split ?_ ?_ <;> (intro hg; simp only [hg]; simp [-cellOK, linksAV, intsAV, a1, a4, a6, a8, w1])) | (apply awp_cond_t; focus (simp [-cellOK, linksAV, intsAV, a1, a4, a6, a8, w1]; done)) | (apply awp_cond_f; focus (simp [-cellOK, linksAV, intsAV, a1, a4, a6, a8, w1]; done)) | (refine awp_cond ?_; simp [-cellOK, linksAV, intsAV, a1, a4, a6, a8, w1]; refine ⟨?_, ?_⟩ <;> intro hc) | fail)
            refine hI1 (F.length - (k + 1)) _ _ (by omega) ⟨hE, by simp [a1, linksAV, intsAV], by simp [a4], k + 1, by simp, by omega, rfl, ?_, ?_⟩
            · rw [List.take_add_one, hx, List.all_append, hal, Option.toList_some, List.all_cons, hb]; rfl
            · rw [List.take_add_one, hx, List.nodup_append]
              refine ⟨hnd, by simp, fun a ha b hbm e => ?_⟩
              simp only [Option.toList_some, List.mem_singleton] at hbm
              subst hbm; subst e
              obtain ⟨j, hj, e2⟩ := List.mem_iff_getElem.1 ha
              simp only [List.length_take] at hj
              rw [List.getElem_take] at e2
              exact hne j (by omega) (by omega) e2
        · have hb' : hasB t F[i] = false := by simpa using hb
          rw [hb'] at hh
          have hF0 : F.all (hasB t) = false := by
            rw [List.all_eq_false]
            exact ⟨_, List.getElem_mem hlt, by simp [hb']⟩
          rw [show (F.all (hasB t) && nodupB F) = false by rw [hF0, Bool.false_and]]
          (try ((first | with_reducible refine dops_go ?_ | with_reducible refine OKv_go ?_ | with_reducible refine OKr_go ?_); simp [-cellOK, linksAV, intsAV, hE, a1, a4, a6, hlt, hx, hpc, hpf, htf])); repeat' (first | refine awp_seq ?_ | refine awp_block ?_ | (refine awp_skip ?_; try simp) | (refine awp_exit ?_; try simp) | (refine awp_ret ?_; try simp) | (refine retP_same (by simp) ?_; simp) | (refine retP_no (by simp) (by simp [noIds]) (by repeat (first | assumption | exact Ext.refl _ | refine ext_new' ?_ | refine Ext.setF ?_ (by first | assumption | (simp [new_nx', St.set, fresh_none]; done) | exact ext_fresh (by assumption)))) ?_; simp [-cellOK, linksAV, intsAV, hE, a1, a4, a6, hlt, hx, hpc, hpf, htf, new_m, set_m, new_nx']) | ((first | refine awp_reg ?_ | refine awp_drawT (fun _ => false) mixed (by decide +kernel) ?_ | refine awp_drawT isCallO mixed (by decide +kernel) ?_ | refine PCalls.use (hh) ?_ | refine Or.inl ⟨_, Or.inl (hh), ?_⟩); simp [-cellOK, linksAV, intsAV, hE, a1, a4, a6, hlt, hx, hpc, hpf, htf]) | (refine guarded_split ?_ ?_ <;> (intro hg; simp only [hg]; simp [-cellOK, linksAV, intsAV, hE, a1, a4, a6, hlt, hx, hpc, hpf, htf])) | (apply awp_cond_t; focus (simp [-cellOK, linksAV, intsAV, hE, a1, a4, a6, hlt, hx, hpc, hpf, htf]; done)) | (apply awp_cond_f; focus (simp [-cellOK, linksAV, intsAV, hE, a1, a4, a6, hlt, hx, hpc, hpf, htf]; done)) | (refine awp_cond ?_; simp [-cellOK, linksAV, intsAV, hE, a1, a4, a6, hlt, hx, hpc, hpf, htf]; refine ⟨?_, ?_⟩ <;> intro hc) | fail)
      · have : i = F.length := by omega
        subst this
        rw [List.take_length] at hal hnd
        have hnn := (nodupB_iff F).2 hnd
        rw [hal, hnn]
        (try ((first | with_reducible refine dops_go ?_ | with_reducible refine OKv_go ?_ | with_reducible refine OKr_go ?_); simp [-cellOK, linksAV, intsAV, hE, a1, a4, a6])); repeat' (first | refine awp_seq ?_ | refine awp_block ?_ | (refine awp_skip ?_; try simp) | (refine awp_exit ?_; try simp) | (refine awp_ret ?_; try simp) | (refine retP_same (by simp) ?_; simp) | (refine retP_no (by simp) (by simp [noIds]) (by repeat (first | assumption | exact Ext.refl _ | refine ext_new' ?_ | refine Ext.setF ?_ (by first | assumption | (simp [new_nx', St.set, fresh_none]; done) | exact ext_fresh (by assumption)))) ?_; simp [-cellOK, linksAV, intsAV, hE, a1, a4, a6, new_m, set_m, new_nx']) | ((first | refine awp_reg ?_ | refine awp_drawT (fun _ => false) mixed (by decide +kernel) ?_ | refine awp_drawT isCallO mixed (by decide +kernel) ?_); simp [-cellOK, linksAV, intsAV, hE, a1, a4, a6]) | (refine guarded_split ?_ ?_ <;> (intro hg; simp only [hg]; simp [-cellOK, linksAV, intsAV, hE, a1, a4, a6])) | (apply awp_cond_t; focus (simp [-cellOK, linksAV, intsAV, hE, a1, a4, a6]; done)) | (apply awp_cond_f; focus (simp [-cellOK, linksAV, intsAV, hE, a1, a4, a6]; done)) | (refine awp_cond ?_; simp [-cellOK, linksAV, intsAV, hE, a1, a4, a6]; refine ⟨?_, ?_⟩ <;> intro hc) | fail)
end Go.Proofs.YtanimmdlgmkmkaaGreat.Av


/- Networks: the document's right rules, all of them. -/
namespace Go.Proofs.YtanimmdlgmkmkaaGreat.Av
open Go
set_option linter.unusedSimpArgs false
set_option linter.unusedVariables false
set_option maxRecDepth 100000
set_option maxHeartbeats 2000000
set_option pp.maxSteps 300

/-- The ID ahead of the place i. -/
def idAt (l : List Ru) (i : Nat) : Int := match i with | 0 => 0 | k + 1 => match l[k]? with | some r => r.id | none => 0
theorem refAll_calls (l : List Ru) (f : Bool) (hl : l.length < 2932031007403) (hid : ∀ r ∈ l, -9223372036854775808 ≤ r.id ∧ r.id < 9223372036854775808) : PCalls Tryz.prog 123 [rulesAV l f] (.raw (.bool (allB l))) := by
  refine pbody Tryz.func123 rfl (N := 39) rfl rfl (by simp) (by simp [noIds]) fun σ => ?_
  (try (first | (with_reducible refine dops_go ?_; simp [rulesAV]) | (with_reducible refine OKv_go ?_; simp [rulesAV]) | (with_reducible refine OKr_go ?_; simp [rulesAV]))); repeat' (first | refine awp_seq ?_ | refine awp_block ?_ | (refine awp_skip ?_; try simp) | (refine awp_exit ?_; try simp) | (refine awp_ret ?_; try simp) | (refine retP_same (by simp) ?_; simp) | (refine retP_flat (by simp) (by simp) (by simp (maxDischargeDepth := 30) [rulesAV]) ?_; simp) | (refine awp_reg ?_; simp [rulesAV]) | (refine awp_drawT (fun _ => false) mixed (by decide +kernel) ?_; simp [rulesAV]) | (refine guarded_split ?_ ?_ <;> (intro hg; simp only [hg]; simp [rulesAV])) | (apply awp_cond_t; focus (simp [rulesAV]; done)) | (apply awp_cond_f; focus (simp [rulesAV]; done)) | (refine awp_cond ?_; simp [rulesAV]; refine ⟨?_, ?_⟩ <;> intro hc))
  refine awp_loopH (fun n A τ => τ = σ ∧ A 0 = rulesAV l f ∧ ∃ i : Nat, A 3 = .raw (.int .i64 i) ∧ i ≤ l.length ∧ n = l.length - i ∧ allFrom 0 l = allFrom (idAt l i) (l.drop i)) l.length ?_ ?_
  · exact ⟨rfl, by simp [rulesAV], 0, by simp, by omega, by omega, by simp [idAt]⟩
  rintro n A τ ⟨rfl, a0, i, a3, hi, rfl, hall⟩ I1 hI1
  by_cases hlt : i < l.length
  · have hx : l[i]? = some l[i] := List.getElem?_eq_getElem hlt
    have w1 : IntKind.i64.wrap ((i : Int) + 1) = ((i + 1 : Nat) : Int) := by rw [wrap64 (by omega) (by omega)]; omega
    have hd : l.drop i = l[i] :: l.drop (i + 1) := List.drop_eq_getElem_cons hlt
    rw [hd] at hall
    simp only [allFrom] at hall
    obtain ⟨b, hb⟩ : ∃ b, ruleB l[i] = b := ⟨_, rfl⟩
    have hr := hb ▸ refRuleRight_calls l[i] (hid _ (List.getElem_mem _)).1 (hid _ (List.getElem_mem _)).2
    rw [hb] at hall
    (try (first | (with_reducible refine dops_go ?_; simp [rulesAV, a0, a3, hlt, hx, ru_cells, ru_ok, ru_fold, w1]) | (with_reducible refine OKv_go ?_; simp [rulesAV, a0, a3, hlt, hx, ru_cells, ru_ok, ru_fold, w1]) | (with_reducible refine OKr_go ?_; simp [rulesAV, a0, a3, hlt, hx, ru_cells, ru_ok, ru_fold, w1]))); repeat' (first | refine awp_seq ?_ | refine awp_block ?_ | (refine awp_skip ?_; try simp) | (refine awp_exit ?_; try simp) | (refine awp_ret ?_; try simp) | (refine retP_same (by simp) ?_; simp) | (refine retP_flat (by simp) (by simp) (by simp (maxDischargeDepth := 30) [rulesAV, a0, a3, hlt, hx, ru_cells, ru_ok, ru_fold, w1]) ?_; simp) | (refine awp_reg ?_; simp [rulesAV, a0, a3, hlt, hx, ru_cells, ru_ok, ru_fold, w1]) | (refine awp_drawT (fun _ => false) mixed (by decide +kernel) ?_; simp [rulesAV, a0, a3, hlt, hx, ru_cells, ru_ok, ru_fold, w1]) | (refine guarded_split ?_ ?_ <;> (intro hg; simp only [hg]; simp [rulesAV, a0, a3, hlt, hx, ru_cells, ru_ok, ru_fold, w1])) | (apply awp_cond_t; focus (simp [rulesAV, a0, a3, hlt, hx, ru_cells, ru_ok, ru_fold, w1]; done)) | (apply awp_cond_f; focus (simp [rulesAV, a0, a3, hlt, hx, ru_cells, ru_ok, ru_fold, w1]; done)) | (refine awp_cond ?_; simp [rulesAV, a0, a3, hlt, hx, ru_cells, ru_ok, ru_fold, w1]; refine ⟨?_, ?_⟩ <;> intro hc))
    refine PCalls.use hr ?_
    cases b with
    | false =>
      (try (first | (with_reducible refine dops_go ?_; simp [rulesAV, a0, a3, hlt, hx, ru_cells, ru_ok, ru_fold, w1]) | (with_reducible refine OKv_go ?_; simp [rulesAV, a0, a3, hlt, hx, ru_cells, ru_ok, ru_fold, w1]) | (with_reducible refine OKr_go ?_; simp [rulesAV, a0, a3, hlt, hx, ru_cells, ru_ok, ru_fold, w1]))); repeat' (first | refine awp_seq ?_ | refine awp_block ?_ | (refine awp_skip ?_; try simp) | (refine awp_exit ?_; try simp) | (refine awp_ret ?_; try simp) | (refine retP_same (by simp) ?_; simp) | (refine retP_flat (by simp) (by simp) (by simp (maxDischargeDepth := 30) [rulesAV, a0, a3, hlt, hx, ru_cells, ru_ok, ru_fold, w1]) ?_; simp) | (refine awp_reg ?_; simp [rulesAV, a0, a3, hlt, hx, ru_cells, ru_ok, ru_fold, w1]) | (refine awp_drawT (fun _ => false) mixed (by decide +kernel) ?_; simp [rulesAV, a0, a3, hlt, hx, ru_cells, ru_ok, ru_fold, w1]) | (refine guarded_split ?_ ?_ <;> (intro hg; simp only [hg]; simp [rulesAV, a0, a3, hlt, hx, ru_cells, ru_ok, ru_fold, w1])) | (apply awp_cond_t; focus (simp [rulesAV, a0, a3, hlt, hx, ru_cells, ru_ok, ru_fold, w1]; done)) | (apply awp_cond_f; focus (simp [rulesAV, a0, a3, hlt, hx, ru_cells, ru_ok, ru_fold, w1]; done)) | (refine awp_cond ?_; simp [rulesAV, a0, a3, hlt, hx, ru_cells, ru_ok, ru_fold, w1]; refine ⟨?_, ?_⟩ <;> intro hc))
      all_goals simp [allB, hall]
    | true =>
      cases i with
      | zero =>
        have hpos : 1 ≤ l[0].id := by
          have := hb; unfold ruleB at this; simp at this; omega
        (try (first | (with_reducible refine dops_go ?_; simp [rulesAV, a0, a3, hlt, hx, ru_cells, ru_ok, ru_fold, w1]) | (with_reducible refine OKv_go ?_; simp [rulesAV, a0, a3, hlt, hx, ru_cells, ru_ok, ru_fold, w1]) | (with_reducible refine OKr_go ?_; simp [rulesAV, a0, a3, hlt, hx, ru_cells, ru_ok, ru_fold, w1]))); repeat' (first | refine awp_seq ?_ | refine awp_block ?_ | (refine awp_skip ?_; try simp) | (refine awp_exit ?_; try simp) | (refine awp_ret ?_; try simp) | (refine retP_same (by simp) ?_; simp) | (refine retP_flat (by simp) (by simp) (by simp (maxDischargeDepth := 30) [rulesAV, a0, a3, hlt, hx, ru_cells, ru_ok, ru_fold, w1]) ?_; simp) | (refine awp_reg ?_; simp [rulesAV, a0, a3, hlt, hx, ru_cells, ru_ok, ru_fold, w1]) | (refine awp_drawT (fun _ => false) mixed (by decide +kernel) ?_; simp [rulesAV, a0, a3, hlt, hx, ru_cells, ru_ok, ru_fold, w1]) | (refine guarded_split ?_ ?_ <;> (intro hg; simp only [hg]; simp [rulesAV, a0, a3, hlt, hx, ru_cells, ru_ok, ru_fold, w1])) | (apply awp_cond_t; focus (simp [rulesAV, a0, a3, hlt, hx, ru_cells, ru_ok, ru_fold, w1]; done)) | (apply awp_cond_f; focus (simp [rulesAV, a0, a3, hlt, hx, ru_cells, ru_ok, ru_fold, w1]; done)) | (refine awp_cond ?_; simp [rulesAV, a0, a3, hlt, hx, ru_cells, ru_ok, ru_fold, w1]; refine ⟨?_, ?_⟩ <;> intro hc))
        have w0 : IntKind.i64.wrap 1 = 1 := wrap64 (by omega) (by omega)
        have hx0 : l[0]? = some l[0] := hx
        have h0 : (0 : Int) < l[0].id := by omega
        have h1 : idAt l 1 = l[0].id := by simp [idAt, hx0]
        exact hI1 (l.length - 1) _ _ (by omega) ⟨rfl, by simp [a0, rulesAV], 1, by simp [w0], by omega, rfl, by rw [hall, h1]; simp [idAt, h0]⟩
      | succ k =>
        have hk : k < l.length := by omega
        have hxk : l[k]? = some l[k] := List.getElem?_eq_getElem hk
        have w2 : IntKind.i64.wrap (k : Int) = k := wrap64 (by omega) (by omega)
        have hp0 : (0 : Int) ≤ (k : Int) + 1 := by omega
        have htn : ((k : Int) + 1).toNat = k + 1 := by omega
        have w4 : IntKind.i64.wrap ((k : Int) + 1 + 1) = (k : Int) + 1 + 1 := wrap64 (by omega) (by omega)
        have w3 : IntKind.i64.wrap ((k : Int) + 1 - 1) = k := by rw [wrap64 (by omega) (by omega)]; omega
        have hidk : idAt l (k + 1) = l[k].id := by simp [idAt, hxk]
        rw [hidk] at hall
        have hpk : (0 : Int) < (k : Int) + 1 := by omega
        by_cases hle : l[k + 1].id ≤ l[k].id
        · have hnl : ¬ l[k].id < l[k + 1].id := by omega
          (try (first | (with_reducible refine dops_go ?_; simp [rulesAV, a0, a3, hlt, hx, hk, hxk, ru_cells, ru_ok, ru_fold, w1, w2, w3, w4, hp0, htn, hpk, hle]) | (with_reducible refine OKv_go ?_; simp [rulesAV, a0, a3, hlt, hx, hk, hxk, ru_cells, ru_ok, ru_fold, w1, w2, w3, w4, hp0, htn, hpk, hle]) | (with_reducible refine OKr_go ?_; simp [rulesAV, a0, a3, hlt, hx, hk, hxk, ru_cells, ru_ok, ru_fold, w1, w2, w3, w4, hp0, htn, hpk, hle]))); repeat' (first | refine awp_seq ?_ | refine awp_block ?_ | (refine awp_skip ?_; try simp) | (refine awp_exit ?_; try simp) | (refine awp_ret ?_; try simp) | (refine retP_same (by simp) ?_; simp) | (refine retP_flat (by simp) (by simp) (by simp (maxDischargeDepth := 30) [rulesAV, a0, a3, hlt, hx, hk, hxk, ru_cells, ru_ok, ru_fold, w1, w2, w3, w4, hp0, htn, hpk, hle]) ?_; simp) | (refine awp_reg ?_; simp [rulesAV, a0, a3, hlt, hx, hk, hxk, ru_cells, ru_ok, ru_fold, w1, w2, w3, w4, hp0, htn, hpk, hle]) | (refine awp_drawT (fun _ => false) mixed (by decide +kernel) ?_; simp [rulesAV, a0, a3, hlt, hx, hk, hxk, ru_cells, ru_ok, ru_fold, w1, w2, w3, w4, hp0, htn, hpk, hle]) | (refine guarded_split ?_ ?_ <;> (intro hg; simp only [hg]; simp [rulesAV, a0, a3, hlt, hx, hk, hxk, ru_cells, ru_ok, ru_fold, w1, w2, w3, w4, hp0, htn, hpk, hle])) | (apply awp_cond_t; focus (simp [rulesAV, a0, a3, hlt, hx, hk, hxk, ru_cells, ru_ok, ru_fold, w1, w2, w3, w4, hp0, htn, hpk, hle]; done)) | (apply awp_cond_f; focus (simp [rulesAV, a0, a3, hlt, hx, hk, hxk, ru_cells, ru_ok, ru_fold, w1, w2, w3, w4, hp0, htn, hpk, hle]; done)) | (refine awp_cond ?_; simp [rulesAV, a0, a3, hlt, hx, hk, hxk, ru_cells, ru_ok, ru_fold, w1, w2, w3, w4, hp0, htn, hpk, hle]; refine ⟨?_, ?_⟩ <;> intro hc))
          all_goals simp [allB, hall, hnl]
        · have hg : l[k].id < l[k + 1].id := by omega
          (try (first | (with_reducible refine dops_go ?_; simp [rulesAV, a0, a3, hlt, hx, hk, hxk, ru_cells, ru_ok, ru_fold, w1, w2, w3, w4, hp0, htn, hpk, hle]) | (with_reducible refine OKv_go ?_; simp [rulesAV, a0, a3, hlt, hx, hk, hxk, ru_cells, ru_ok, ru_fold, w1, w2, w3, w4, hp0, htn, hpk, hle]) | (with_reducible refine OKr_go ?_; simp [rulesAV, a0, a3, hlt, hx, hk, hxk, ru_cells, ru_ok, ru_fold, w1, w2, w3, w4, hp0, htn, hpk, hle]))); repeat' (first | refine awp_seq ?_ | refine awp_block ?_ | (refine awp_skip ?_; try simp) | (refine awp_exit ?_; try simp) | (refine awp_ret ?_; try simp) | (refine retP_same (by simp) ?_; simp) | (refine retP_flat (by simp) (by simp) (by simp (maxDischargeDepth := 30) [rulesAV, a0, a3, hlt, hx, hk, hxk, ru_cells, ru_ok, ru_fold, w1, w2, w3, w4, hp0, htn, hpk, hle]) ?_; simp) | (refine awp_reg ?_; simp [rulesAV, a0, a3, hlt, hx, hk, hxk, ru_cells, ru_ok, ru_fold, w1, w2, w3, w4, hp0, htn, hpk, hle]) | (refine awp_drawT (fun _ => false) mixed (by decide +kernel) ?_; simp [rulesAV, a0, a3, hlt, hx, hk, hxk, ru_cells, ru_ok, ru_fold, w1, w2, w3, w4, hp0, htn, hpk, hle]) | (refine guarded_split ?_ ?_ <;> (intro hg; simp only [hg]; simp [rulesAV, a0, a3, hlt, hx, hk, hxk, ru_cells, ru_ok, ru_fold, w1, w2, w3, w4, hp0, htn, hpk, hle])) | (apply awp_cond_t; focus (simp [rulesAV, a0, a3, hlt, hx, hk, hxk, ru_cells, ru_ok, ru_fold, w1, w2, w3, w4, hp0, htn, hpk, hle]; done)) | (apply awp_cond_f; focus (simp [rulesAV, a0, a3, hlt, hx, hk, hxk, ru_cells, ru_ok, ru_fold, w1, w2, w3, w4, hp0, htn, hpk, hle]; done)) | (refine awp_cond ?_; simp [rulesAV, a0, a3, hlt, hx, hk, hxk, ru_cells, ru_ok, ru_fold, w1, w2, w3, w4, hp0, htn, hpk, hle]; refine ⟨?_, ?_⟩ <;> intro hc))
          exact hI1 (l.length - (k + 1 + 1)) _ _ (by omega) ⟨rfl, by simp [a0, rulesAV], k + 1 + 1, by simp, by omega, rfl, by rw [hall]; simp [idAt, hx, hg]⟩
  · have : i = l.length := by omega
    subst this
    (try (first | (with_reducible refine dops_go ?_; simp [rulesAV, a0, a3]) | (with_reducible refine OKv_go ?_; simp [rulesAV, a0, a3]) | (with_reducible refine OKr_go ?_; simp [rulesAV, a0, a3]))); repeat' (first | refine awp_seq ?_ | refine awp_block ?_ | (refine awp_skip ?_; try simp) | (refine awp_exit ?_; try simp) | (refine awp_ret ?_; try simp) | (refine retP_same (by simp) ?_; simp) | (refine retP_flat (by simp) (by simp) (by simp (maxDischargeDepth := 30) [rulesAV, a0, a3]) ?_; simp) | (refine awp_reg ?_; simp [rulesAV, a0, a3]) | (refine awp_drawT (fun _ => false) mixed (by decide +kernel) ?_; simp [rulesAV, a0, a3]) | (refine guarded_split ?_ ?_ <;> (intro hg; simp only [hg]; simp [rulesAV, a0, a3])) | (apply awp_cond_t; focus (simp [rulesAV, a0, a3]; done)) | (apply awp_cond_f; focus (simp [rulesAV, a0, a3]; done)) | (refine awp_cond ?_; simp [rulesAV, a0, a3]; refine ⟨?_, ?_⟩ <;> intro hc))
    rw [List.drop_length] at hall
    simp only [allFrom] at hall
    simp [allB, hall]
    omega
end Go.Proofs.YtanimmdlgmkmkaaGreat.Av


/- The laws' own functions: right networks, such as are asked about, the live question of queries. -/
namespace Go.Proofs.YtanimmdlgmkmkaaGreat.Av
open Go
set_option linter.unusedSimpArgs false
set_option linter.unusedVariables false
set_option maxRecDepth 100000
set_option maxHeartbeats 4000000
set_option pp.maxSteps 600

theorem refNwRight_calls (n : Nw) (f : Fl) (hn : NwOK n) : PCalls Tryz.prog 73 [nwAV n f] (.raw (.bool (rightN n))) := by
  have l1 := hn.ports
  have l2 := hn.links
  have l3 := hn.rules
  have h1 := refRight_calls n.t f (by omega) l2
  have h2 := refAll_calls n.rules f.r l3 hn.id
  have h3 := refFits_calls n.t f n.rules f.r (by omega) (by omega)
  rw [← rightT_eq] at h1
  unfold rightN
  have htf : ∀ (N : Nw) (F : Fl), AV.agg [intsAV N.t.ports F.p, linksAV N.t.links F.l] = tpAV N.t F := fun _ _ => rfl
  generalize rightT n.t = b1 at h1 ⊢
  generalize allB n.rules = b2 at h2 ⊢
  generalize fitsB n.t n.rules = b3 at h3 ⊢
  refine pbody Tryz.func73 rfl (N := 22) rfl rfl (by simp) (by simp [noIds]) fun σ => ?_
  cases b1 <;> cases b2 <;> ((try ((first | with_reducible refine dops_go ?_ | with_reducible refine OKv_go ?_ | with_reducible refine OKr_go ?_); simp [-cellOK, nw_cells, htf])); repeat' (first | refine awp_seq ?_ | refine awp_block ?_ | (refine awp_skip ?_; try simp) | (refine awp_exit ?_; try simp) | (refine awp_ret ?_; try simp) | (refine retP_same (by simp) ?_; simp) | (refine retP_no (by simp) (by simp [noIds]) (by repeat (first | assumption | exact Ext.refl _ | refine ext_new' ?_ | refine Ext.setF ?_ (by first | assumption | (simp [new_nx', St.set, fresh_none]; done) | exact ext_fresh (by assumption)))) ?_; simp [-cellOK, nw_cells, htf, new_m, set_m, new_nx']) | ((first | refine awp_reg ?_ | refine awp_drawT (fun _ => false) mixed (by decide +kernel) ?_ | refine awp_drawT isCallO mixed (by decide +kernel) ?_ | refine PCalls.use (h1) ?_ | refine Or.inl ⟨_, Or.inl (h1), ?_⟩ | refine PCalls.use (h2) ?_ | refine Or.inl ⟨_, Or.inl (h2), ?_⟩ | refine PCalls.use (h3) ?_ | refine Or.inl ⟨_, Or.inl (h3), ?_⟩); simp [-cellOK, nw_cells, htf]) | (refine guarded_split ?_ ?_ <;> (intro hg; simp only [hg]; simp [-cellOK, nw_cells, htf])) | (apply awp_cond_t; focus (simp [-cellOK, nw_cells, htf]; done)) | (apply awp_cond_f; focus (simp [-cellOK, nw_cells, htf]; done)) | (refine awp_cond ?_; simp [-cellOK, nw_cells, htf]; refine ⟨?_, ?_⟩ <;> intro hc) | fail))
def fits09 (n : Nw) : Bool := !decide (20 < n.t.ports.length) && (!decide (40 < n.t.links.length) && (!decide (60 < n.rules.length) && rightN n))
/-- What is known of a network before its sizes are. -/
structure NwW (n : Nw) : Prop where
  rg : ∀ r ∈ n.rules, RgOK r.r
  id : ∀ r ∈ n.rules, -9223372036854775808 ≤ r.id ∧ r.id < 9223372036854775808
theorem NwOK.w {n : Nw} (h : NwOK n) : NwW n := ⟨h.rg, h.id⟩
theorem NwW.small {n : Nw} (h : NwW n) (h1 : ¬ 20 < n.t.ports.length) (h2 : ¬ 40 < n.t.links.length) (h3 : ¬ 60 < n.rules.length) : NwOK n where
  rg := h.rg
  id := h.id
  ports := by omega
  links := by omega
  rules := by omega
theorem NwW.fits {n : Nw} (h : NwW n) (hf : fits09 n = true) : NwOK n := by
  unfold fits09 at hf
  simp only [Bool.and_eq_true, Bool.not_eq_true', decide_eq_false_iff_not] at hf
  exact h.small hf.1 hf.2.1 hf.2.2.1
theorem fits09_calls (n : Nw) (f : Fl) (hn : NwW n) : PCalls Tryz.prog 24 [nwAV n f] (.raw (.bool (fits09 n))) := by
  have h1 := fun a b c => refNwRight_calls n f (hn.small a b c)
  unfold fits09
  generalize rightN n = b1 at h1 ⊢
  have hp : ∀ m, opLen Tryz.prog m 22 (intsAV n.t.ports f.p) = some (.raw (.int .i64 n.t.ports.length)) := fun m => by simp [intsAV]
  have hk : ∀ m, opLen Tryz.prog m 23 (linksAV n.t.links f.l) = some (.raw (.int .i64 n.t.links.length)) := fun m => by simp [linksAV]
  have hu : ∀ m, opLen Tryz.prog m 26 (rulesAV n.rules f.r) = some (.raw (.int .i64 n.rules.length)) := fun m => by simp [rulesAV]
  generalize n.t.ports.length = x at hp h1 ⊢
  generalize n.t.links.length = y at hk h1 ⊢
  generalize n.rules.length = z at hu h1 ⊢
  refine pbody Tryz.func24 rfl (N := 25) rfl rfl (by simp) (by simp [noIds]) fun σ => ?_
  by_cases q1 : 20 < x
  · have q1' : (20 : Int) < (x : Int) := by omega
    (try ((first | with_reducible refine dops_go ?_ | with_reducible refine OKv_go ?_ | with_reducible refine OKr_go ?_); simp [-cellOK, nw_cells, nw_fold, -opLen, hp, hk, hu, q1, q1'])); repeat' (first | refine awp_seq ?_ | refine awp_block ?_ | (refine awp_skip ?_; try simp) | (refine awp_exit ?_; try simp) | (refine awp_ret ?_; try simp) | (refine retP_same (by simp) ?_; simp) | (refine retP_no (by simp) (by simp [noIds]) (by repeat (first | assumption | exact Ext.refl _ | refine ext_new' ?_ | refine Ext.setF ?_ (by first | assumption | (simp [new_nx', St.set, fresh_none]; done) | exact ext_fresh (by assumption)))) ?_; simp [-cellOK, nw_cells, nw_fold, -opLen, hp, hk, hu, q1, q1', new_m, set_m, new_nx']) | ((first | refine awp_reg ?_ | refine awp_drawT (fun _ => false) mixed (by decide +kernel) ?_ | refine awp_drawT isCallO mixed (by decide +kernel) ?_); simp [-cellOK, nw_cells, nw_fold, -opLen, hp, hk, hu, q1, q1']) | (refine guarded_split ?_ ?_ <;> (intro hg; simp only [hg]; simp [-cellOK, nw_cells, nw_fold, -opLen, hp, hk, hu, q1, q1'])) | (apply awp_cond_t; focus (simp [-cellOK, nw_cells, nw_fold, -opLen, hp, hk, hu, q1, q1']; done)) | (apply awp_cond_f; focus (simp [-cellOK, nw_cells, nw_fold, -opLen, hp, hk, hu, q1, q1']; done)) | (refine awp_cond ?_; simp [-cellOK, nw_cells, nw_fold, -opLen, hp, hk, hu, q1, q1']; refine ⟨?_, ?_⟩ <;> intro hc) | fail)
  have q1' : ¬ (20 : Int) < (x : Int) := by omega
  by_cases q2 : 40 < y
  · have q2' : (40 : Int) < (y : Int) := by omega
    (try ((first | with_reducible refine dops_go ?_ | with_reducible refine OKv_go ?_ | with_reducible refine OKr_go ?_); simp [-cellOK, nw_cells, nw_fold, -opLen, hp, hk, hu, q1, q1', q2, q2'])); repeat' (first | refine awp_seq ?_ | refine awp_block ?_ | (refine awp_skip ?_; try simp) | (refine awp_exit ?_; try simp) | (refine awp_ret ?_; try simp) | (refine retP_same (by simp) ?_; simp) | (refine retP_no (by simp) (by simp [noIds]) (by repeat (first | assumption | exact Ext.refl _ | refine ext_new' ?_ | refine Ext.setF ?_ (by first | assumption | (simp [new_nx', St.set, fresh_none]; done) | exact ext_fresh (by assumption)))) ?_; simp [-cellOK, nw_cells, nw_fold, -opLen, hp, hk, hu, q1, q1', q2, q2', new_m, set_m, new_nx']) | ((first | refine awp_reg ?_ | refine awp_drawT (fun _ => false) mixed (by decide +kernel) ?_ | refine awp_drawT isCallO mixed (by decide +kernel) ?_); simp [-cellOK, nw_cells, nw_fold, -opLen, hp, hk, hu, q1, q1', q2, q2']) | (refine guarded_split ?_ ?_ <;> (intro hg; simp only [hg]; simp [-cellOK, nw_cells, nw_fold, -opLen, hp, hk, hu, q1, q1', q2, q2'])) | (apply awp_cond_t; focus (simp [-cellOK, nw_cells, nw_fold, -opLen, hp, hk, hu, q1, q1', q2, q2']; done)) | (apply awp_cond_f; focus (simp [-cellOK, nw_cells, nw_fold, -opLen, hp, hk, hu, q1, q1', q2, q2']; done)) | (refine awp_cond ?_; simp [-cellOK, nw_cells, nw_fold, -opLen, hp, hk, hu, q1, q1', q2, q2']; refine ⟨?_, ?_⟩ <;> intro hc) | fail)
  have q2' : ¬ (40 : Int) < (y : Int) := by omega
  by_cases q3 : 60 < z
  · have q3' : (60 : Int) < (z : Int) := by omega
    (try ((first | with_reducible refine dops_go ?_ | with_reducible refine OKv_go ?_ | with_reducible refine OKr_go ?_); simp [-cellOK, nw_cells, nw_fold, -opLen, hp, hk, hu, q1, q1', q2, q2', q3, q3'])); repeat' (first | refine awp_seq ?_ | refine awp_block ?_ | (refine awp_skip ?_; try simp) | (refine awp_exit ?_; try simp) | (refine awp_ret ?_; try simp) | (refine retP_same (by simp) ?_; simp) | (refine retP_no (by simp) (by simp [noIds]) (by repeat (first | assumption | exact Ext.refl _ | refine ext_new' ?_ | refine Ext.setF ?_ (by first | assumption | (simp [new_nx', St.set, fresh_none]; done) | exact ext_fresh (by assumption)))) ?_; simp [-cellOK, nw_cells, nw_fold, -opLen, hp, hk, hu, q1, q1', q2, q2', q3, q3', new_m, set_m, new_nx']) | ((first | refine awp_reg ?_ | refine awp_drawT (fun _ => false) mixed (by decide +kernel) ?_ | refine awp_drawT isCallO mixed (by decide +kernel) ?_); simp [-cellOK, nw_cells, nw_fold, -opLen, hp, hk, hu, q1, q1', q2, q2', q3, q3']) | (refine guarded_split ?_ ?_ <;> (intro hg; simp only [hg]; simp [-cellOK, nw_cells, nw_fold, -opLen, hp, hk, hu, q1, q1', q2, q2', q3, q3'])) | (apply awp_cond_t; focus (simp [-cellOK, nw_cells, nw_fold, -opLen, hp, hk, hu, q1, q1', q2, q2', q3, q3']; done)) | (apply awp_cond_f; focus (simp [-cellOK, nw_cells, nw_fold, -opLen, hp, hk, hu, q1, q1', q2, q2', q3, q3']; done)) | (refine awp_cond ?_; simp [-cellOK, nw_cells, nw_fold, -opLen, hp, hk, hu, q1, q1', q2, q2', q3, q3']; refine ⟨?_, ?_⟩ <;> intro hc) | fail)
  have q3' : ¬ (60 : Int) < (z : Int) := by omega
  have h1 := h1 q1 q2 q3
  (try ((first | with_reducible refine dops_go ?_ | with_reducible refine OKv_go ?_ | with_reducible refine OKr_go ?_); simp [-cellOK, nw_cells, nw_fold, -opLen, hp, hk, hu, q1, q1', q2, q2', q3, q3'])); repeat' (first | refine awp_seq ?_ | refine awp_block ?_ | (refine awp_skip ?_; try simp) | (refine awp_exit ?_; try simp) | (refine awp_ret ?_; try simp) | (refine retP_same (by simp) ?_; simp) | (refine retP_no (by simp) (by simp [noIds]) (by repeat (first | assumption | exact Ext.refl _ | refine ext_new' ?_ | refine Ext.setF ?_ (by first | assumption | (simp [new_nx', St.set, fresh_none]; done) | exact ext_fresh (by assumption)))) ?_; simp [-cellOK, nw_cells, nw_fold, -opLen, hp, hk, hu, q1, q1', q2, q2', q3, q3', new_m, set_m, new_nx']) | ((first | refine awp_reg ?_ | refine awp_drawT (fun _ => false) mixed (by decide +kernel) ?_ | refine awp_drawT isCallO mixed (by decide +kernel) ?_ | refine PCalls.use (h1) ?_ | refine Or.inl ⟨_, Or.inl (h1), ?_⟩); simp [-cellOK, nw_cells, nw_fold, -opLen, hp, hk, hu, q1, q1', q2, q2', q3, q3']) | (refine guarded_split ?_ ?_ <;> (intro hg; simp only [hg]; simp [-cellOK, nw_cells, nw_fold, -opLen, hp, hk, hu, q1, q1', q2, q2', q3, q3'])) | (apply awp_cond_t; focus (simp [-cellOK, nw_cells, nw_fold, -opLen, hp, hk, hu, q1, q1', q2, q2', q3, q3']; done)) | (apply awp_cond_f; focus (simp [-cellOK, nw_cells, nw_fold, -opLen, hp, hk, hu, q1, q1', q2, q2', q3, q3']; done)) | (refine awp_cond ?_; simp [-cellOK, nw_cells, nw_fold, -opLen, hp, hk, hu, q1, q1', q2, q2', q3, q3']; refine ⟨?_, ?_⟩ <;> intro hc) | fail)
def nw2AV (n m : Nw) (f g : Fl) : AV := .agg ((nwAV n f).cells ++ (nwAV m g).cells)
def fits12 (n m : Nw) (q : Qy) : Bool := fits09 n && (fits09 m && decide (q.other.size ≤ 60))
/-- The network of the live questions. -/
def netN : Nw := ⟨⟨[2, 3, 2], [⟨⟨0, 1⟩, ⟨1, 0⟩⟩, ⟨⟨1, 1⟩, ⟨2, 0⟩⟩]⟩, [⟨1, 0, 0, 0, ⟨0, 99⟩, 1⟩, ⟨2, 1, 0, 0, ⟨0, 49⟩, 1⟩, ⟨3, 1, 0, 0, ⟨50, 59⟩, 0⟩, ⟨4, 2, 0, 0, ⟨0, 29⟩, 1⟩, ⟨5, 2, 0, 3, ⟨20, 24⟩, 0⟩]⟩
def flN : Fl := ⟨false, false, false⟩
theorem netN_ok : NwOK netN where
  rg := by
    intro r hr
    simp only [netN, List.mem_cons, List.not_mem_nil, or_false] at hr
    rcases hr with rfl | rfl | rfl | rfl | rfl <;> exact ⟨by decide, by decide, by decide, by decide⟩
  ports := by decide
  links := by decide
  rules := by decide
  id := by
    intro r hr
    simp only [netN, List.mem_cons, List.not_mem_nil, or_false] at hr
    rcases hr with rfl | rfl | rfl | rfl | rfl <;> exact ⟨by decide, by decide⟩
theorem net_calls : PCalls Tryz.prog 61 [] (nwAV netN flN) := by
  refine pbody Tryz.func61 rfl (N := 26) rfl rfl (by simp) (by simp [noIds]) fun σ => ?_
  (try ((first | with_reducible refine dops_go ?_ | with_reducible refine OKv_go ?_ | with_reducible refine OKr_go ?_); simp [-cellOK, new_m, set_m, new_nx'])); repeat' (first | refine awp_seq ?_ | refine awp_block ?_ | (refine awp_skip ?_; try simp) | (refine awp_exit ?_; try simp) | (refine awp_ret ?_; try simp) | ((first | refine awp_reg ?_ | refine awp_drawT (fun _ => false) mixed (by decide +kernel) ?_ | refine awp_drawT isCallO mixed (by decide +kernel) ?_); simp [-cellOK, new_m, set_m, new_nx']) | (refine guarded_split ?_ ?_ <;> (intro hg; simp only [hg]; simp [-cellOK, new_m, set_m, new_nx'])) | (apply awp_cond_t; focus (simp [-cellOK, new_m, set_m, new_nx']; done)) | (apply awp_cond_f; focus (simp [-cellOK, new_m, set_m, new_nx']; done)) | (refine awp_cond ?_; simp [-cellOK, new_m, set_m, new_nx']; refine ⟨?_, ?_⟩ <;> intro hc) | fail)
  refine retP_give (x := .agg [.rs ⟨3, σ.nx 3, 1⟩ 0 3, .rs ⟨10, σ.nx 10, 4⟩ 0 2, .rs ⟨22, σ.nx 22, 7⟩ 0 5]) (.inr rfl) (by repeat (first | assumption | exact Ext.refl _ | refine ext_new' ?_ | refine Ext.setF ?_ (by first | assumption | (simp [new_nx', St.set, fresh_none]; done) | exact ext_fresh (by assumption)))) ?_ ?_
  · simp [new_m, set_m, new_nx']
  · simp [giveUps, giveUp, fresh_none, new_m, set_m, new_nx', nwAV, intsAV, linksAV, rulesAV, netN, flN, iAV, lkAV, ruAV]
def aq1 : Qy := ⟨0, 0, 2, 0, ⟨5, 30⟩, ⟨#[]⟩⟩
def aq2 : Qy := ⟨4, 0, 2, 1, ⟨0, 4294967295⟩, ⟨#[]⟩⟩
def aq3 : Qy := ⟨1, 0, 0, 0, ⟨0, 59⟩, ⟨#[]⟩⟩
end Go.Proofs.YtanimmdlgmkmkaaGreat.Av


/- Queries, the plain law: what the three laws without the document's answer say. -/
namespace Go.Proofs.YtanimmdlgmkmkaaGreat.Av
set_option linter.unusedSimpArgs false
set_option linter.unusedVariables false

structure RightQ (n : Nw) (q : Qy) : Prop where
  k0 : 0 ≤ q.kind
  k5 : q.kind ≤ 5
  le : q.r.lo ≤ q.r.hi
  a : 0 ≤ q.a ∧ q.a < n.t.ports.length
  b : 0 ≤ q.b ∧ q.b < n.t.ports.length
  w : 0 ≤ q.w ∧ q.w < n.t.ports.length
  one : singleB q = true ∨ (q.a = 0 ∧ q.b = 0)
  way : q.kind = 4 ∨ q.w = 0
  oth : q.kind = 5 ∨ noOther q = true
/-- What is known of a query that is answered. -/
structure RunOK (n m : Nw) (q : Qy) (v : Vd) (M : Nw) : Prop where
  right : RightQ n q
  top : q.kind = 5 → n.t = m.t
  other : M = if q.kind = 5 then m else n
  res : (v = ⟨true, 0, 0, noTk⟩ ∧ seeks n M q (cutP [n, M] q.r) (sourcesQ n q) = none) ∨ seeks n M q (cutP [n, M] q.r) (sourcesQ n q) = some v
structure Broken (n m : Nw) (q : Qy) (v : Vd) : Prop where
  lo : q.r.lo ≤ v.addr
  hi : v.addr ≤ q.r.hi
  dev : q.kind = 5 → (traceR m v.src v.addr).2 = 0
  gen : genuineB n v.addr v.tr = true
  head : ∃ l, v.tr.path = v.src :: l
  brk : breaksQ q v.tr (traceR m v.src v.addr).1 = true
end Go.Proofs.YtanimmdlgmkmkaaGreat.Av


/- label: clones, a network of one's own, what becomes at a device. -/
namespace Go.Proofs.YtanimmdlgmkmkaaGreat.Av
open Go
set_option linter.unusedSimpArgs false
set_option linter.unusedVariables false
set_option maxRecDepth 100000
set_option maxHeartbeats 4000000
set_option pp.maxSteps 600

theorem pcalls_nil {P : Program} {f : FuncId} {sz : Nat} {fl : Bool} {r : AV} (h : ∀ b cap, PCalls P f [.raw (.slice b 0 cap)] r) : PCalls P f [.sl sz [] fl] r :=
  ⟨(h none 0).1, fun σ => acalls_nil fun b cap => (h b cap).2 σ⟩
theorem ok_ints : ∀ z : List Int, cellsOK (cellsL (z.map iAV)) = true := fun z => by
  induction z with
  | nil => rfl
  | cons r z ih => simp [cellsL, iAV, cellsOK, cellOK] at ih ⊢; try exact ih
theorem ok_links : ∀ z : List Lk, cellsOK (cellsL (z.map lkAV)) = true := fun z => by
  induction z with
  | nil => rfl
  | cons r z ih => simp [cellsL, lkAV, cellsOK, cellOK] at ih ⊢; try exact ih

theorem intClone_calls (l : List Int) (f : Bool) (hl : l.length < 2 ^ 44) : PCalls Tryz.prog 88 [intsAV l f] (intsAV l false) := by
  cases l with
  | nil =>
    simp only [intsAV, List.map_nil]
    refine pcalls_nil fun b cap => ?_
    refine pbody Tryz.func88 rfl (N := 8) rfl rfl (by simp) (by simp [noIds]) fun σ => ?_
    cases b with
    | none =>
      (try ((first | with_reducible refine dops_go ?_ | with_reducible refine OKv_go ?_ | with_reducible refine OKr_go ?_); simp [-cellOK])); repeat' (first | refine awp_seq ?_ | refine awp_block ?_ | (refine awp_skip ?_; try simp) | (refine awp_exit ?_; try simp) | (refine awp_ret ?_; try simp) | ((first | refine awp_reg ?_ | refine awp_drawT (fun _ => false) mixed (by decide +kernel) ?_ | refine awp_drawT isCallO mixed (by decide +kernel) ?_); simp [-cellOK]) | (refine guarded_split ?_ ?_ <;> (intro hg; simp only [hg]; simp [-cellOK])) | (apply awp_cond_t; focus (simp [-cellOK]; done)) | (apply awp_cond_f; focus (simp [-cellOK]; done)) | (refine awp_cond ?_; simp [-cellOK]; refine ⟨?_, ?_⟩ <;> intro hc) | fail)
      exact retP_weak (x := .sl 0 [] true) (.inr rfl) (by repeat (first | assumption | exact Ext.refl _ | refine ext_new' ?_ | refine Ext.setF ?_ (by first | assumption | (simp [new_nx', St.set, fresh_none]; done) | exact ext_fresh (by assumption)))) (by simp) (by simp only [giveUps, giveUp]; exact weaker_sl)
    | some b =>
      (try ((first | with_reducible refine dops_go ?_ | with_reducible refine OKv_go ?_ | with_reducible refine OKr_go ?_); simp [-cellOK, -opAppend])); repeat' (first | refine awp_seq ?_ | refine awp_block ?_ | (refine awp_skip ?_; try simp) | (refine awp_exit ?_; try simp) | (refine awp_ret ?_; try simp) | ((first | refine awp_reg ?_ | refine awp_drawT (fun _ => false) mixed (by decide +kernel) ?_ | refine awp_drawT isCallO mixed (by decide +kernel) ?_); simp [-cellOK, -opAppend]) | (refine guarded_split ?_ ?_ <;> (intro hg; simp only [hg]; simp [-cellOK, -opAppend])) | (apply awp_cond_t; focus (simp [-cellOK, -opAppend]; done)) | (apply awp_cond_f; focus (simp [-cellOK, -opAppend]; done)) | (refine awp_cond ?_; simp [-cellOK, -opAppend]; refine ⟨?_, ?_⟩ <;> intro hc) | fail)
      refine okr_append slt22 (σ0 := σ) (es := []) (OwnL.of rfl (by simp) (fresh_none _ _ _) rfl) (Ext.new _ _ _ _) (ys := []) (by simp) (.inl rfl) rfl (by simp) ?_
      intro v1 τ1 hO1 hE1 _ _
      rw [List.nil_append] at hO1
      (try ((first | with_reducible refine dops_go ?_ | with_reducible refine OKv_go ?_ | with_reducible refine OKr_go ?_); simp [-cellOK, -opAppend])); repeat' (first | refine awp_seq ?_ | refine awp_block ?_ | (refine awp_skip ?_; try simp) | (refine awp_exit ?_; try simp) | (refine awp_ret ?_; try simp) | ((first | refine awp_reg ?_ | refine awp_drawT (fun _ => false) mixed (by decide +kernel) ?_ | refine awp_drawT isCallO mixed (by decide +kernel) ?_); simp [-cellOK, -opAppend]) | (refine guarded_split ?_ ?_ <;> (intro hg; simp only [hg]; simp [-cellOK, -opAppend])) | (apply awp_cond_t; focus (simp [-cellOK, -opAppend]; done)) | (apply awp_cond_f; focus (simp [-cellOK, -opAppend]; done)) | (refine awp_cond ?_; simp [-cellOK, -opAppend]; refine ⟨?_, ?_⟩ <;> intro hc) | fail)
      exact retP_own (v := v1) (.inr rfl) (by simp) hO1 hE1
  | cons r l =>
    refine pbody Tryz.func88 rfl (N := 8) rfl rfl (by simp) (by simp [noIds]) fun σ => ?_
    (try ((first | with_reducible refine dops_go ?_ | with_reducible refine OKv_go ?_ | with_reducible refine OKr_go ?_); simp [-cellOK, intsAV, -opAppend])); repeat' (first | refine awp_seq ?_ | refine awp_block ?_ | (refine awp_skip ?_; try simp) | (refine awp_exit ?_; try simp) | (refine awp_ret ?_; try simp) | ((first | refine awp_reg ?_ | refine awp_drawT (fun _ => false) mixed (by decide +kernel) ?_ | refine awp_drawT isCallO mixed (by decide +kernel) ?_); simp [-cellOK, intsAV, -opAppend]) | (refine guarded_split ?_ ?_ <;> (intro hg; simp only [hg]; simp [-cellOK, intsAV, -opAppend])) | (apply awp_cond_t; focus (simp [-cellOK, intsAV, -opAppend]; done)) | (apply awp_cond_f; focus (simp [-cellOK, intsAV, -opAppend]; done)) | (refine awp_cond ?_; simp [-cellOK, intsAV, -opAppend]; refine ⟨?_, ?_⟩ <;> intro hc) | fail)
    refine okr_append slt22 (σ0 := σ) (es := []) (OwnL.of rfl (by simp) (fresh_none _ _ _) rfl) (Ext.new _ _ _ _) (ys := (r :: l).map iAV) (by simp) (.inr rfl) (ok_ints _) (by simp at hl ⊢; omega) ?_
    intro v1 τ1 hO1 hE1 _ _
    rw [List.nil_append] at hO1
    (try ((first | with_reducible refine dops_go ?_ | with_reducible refine OKv_go ?_ | with_reducible refine OKr_go ?_); simp [-cellOK, -opAppend])); repeat' (first | refine awp_seq ?_ | refine awp_block ?_ | (refine awp_skip ?_; try simp) | (refine awp_exit ?_; try simp) | (refine awp_ret ?_; try simp) | ((first | refine awp_reg ?_ | refine awp_drawT (fun _ => false) mixed (by decide +kernel) ?_ | refine awp_drawT isCallO mixed (by decide +kernel) ?_); simp [-cellOK, -opAppend]) | (refine guarded_split ?_ ?_ <;> (intro hg; simp only [hg]; simp [-cellOK, -opAppend])) | (apply awp_cond_t; focus (simp [-cellOK, -opAppend]; done)) | (apply awp_cond_f; focus (simp [-cellOK, -opAppend]; done)) | (refine awp_cond ?_; simp [-cellOK, -opAppend]; refine ⟨?_, ?_⟩ <;> intro hc) | fail)
    exact retP_own (v := v1) (.inr rfl) (by simp) hO1 hE1

theorem lkClone_calls (l : List Lk) (f : Bool) (hl : l.length < 2 ^ 42) : PCalls Tryz.prog 128 [linksAV l f] (linksAV l false) := by
  cases l with
  | nil =>
    simp only [linksAV, List.map_nil]
    refine pcalls_nil fun b cap => ?_
    refine pbody Tryz.func128 rfl (N := 8) rfl rfl (by simp) (by simp [noIds]) fun σ => ?_
    cases b with
    | none =>
      (try ((first | with_reducible refine dops_go ?_ | with_reducible refine OKv_go ?_ | with_reducible refine OKr_go ?_); simp [-cellOK])); repeat' (first | refine awp_seq ?_ | refine awp_block ?_ | (refine awp_skip ?_; try simp) | (refine awp_exit ?_; try simp) | (refine awp_ret ?_; try simp) | ((first | refine awp_reg ?_ | refine awp_drawT (fun _ => false) mixed (by decide +kernel) ?_ | refine awp_drawT isCallO mixed (by decide +kernel) ?_); simp [-cellOK]) | (refine guarded_split ?_ ?_ <;> (intro hg; simp only [hg]; simp [-cellOK])) | (apply awp_cond_t; focus (simp [-cellOK]; done)) | (apply awp_cond_f; focus (simp [-cellOK]; done)) | (refine awp_cond ?_; simp [-cellOK]; refine ⟨?_, ?_⟩ <;> intro hc) | fail)
      exact retP_weak (x := .sl 0 [] true) (.inr rfl) (by repeat (first | assumption | exact Ext.refl _ | refine ext_new' ?_ | refine Ext.setF ?_ (by first | assumption | (simp [new_nx', St.set, fresh_none]; done) | exact ext_fresh (by assumption)))) (by simp) (by simp only [giveUps, giveUp]; exact weaker_sl)
    | some b =>
      (try ((first | with_reducible refine dops_go ?_ | with_reducible refine OKv_go ?_ | with_reducible refine OKr_go ?_); simp [-cellOK, -opAppend])); repeat' (first | refine awp_seq ?_ | refine awp_block ?_ | (refine awp_skip ?_; try simp) | (refine awp_exit ?_; try simp) | (refine awp_ret ?_; try simp) | ((first | refine awp_reg ?_ | refine awp_drawT (fun _ => false) mixed (by decide +kernel) ?_ | refine awp_drawT isCallO mixed (by decide +kernel) ?_); simp [-cellOK, -opAppend]) | (refine guarded_split ?_ ?_ <;> (intro hg; simp only [hg]; simp [-cellOK, -opAppend])) | (apply awp_cond_t; focus (simp [-cellOK, -opAppend]; done)) | (apply awp_cond_f; focus (simp [-cellOK, -opAppend]; done)) | (refine awp_cond ?_; simp [-cellOK, -opAppend]; refine ⟨?_, ?_⟩ <;> intro hc) | fail)
      refine okr_append slt23 (σ0 := σ) (es := []) (OwnL.of rfl (by simp) (fresh_none _ _ _) rfl) (Ext.new _ _ _ _) (ys := []) (by simp) (.inl rfl) rfl (by simp) ?_
      intro v1 τ1 hO1 hE1 _ _
      rw [List.nil_append] at hO1
      (try ((first | with_reducible refine dops_go ?_ | with_reducible refine OKv_go ?_ | with_reducible refine OKr_go ?_); simp [-cellOK, -opAppend])); repeat' (first | refine awp_seq ?_ | refine awp_block ?_ | (refine awp_skip ?_; try simp) | (refine awp_exit ?_; try simp) | (refine awp_ret ?_; try simp) | ((first | refine awp_reg ?_ | refine awp_drawT (fun _ => false) mixed (by decide +kernel) ?_ | refine awp_drawT isCallO mixed (by decide +kernel) ?_); simp [-cellOK, -opAppend]) | (refine guarded_split ?_ ?_ <;> (intro hg; simp only [hg]; simp [-cellOK, -opAppend])) | (apply awp_cond_t; focus (simp [-cellOK, -opAppend]; done)) | (apply awp_cond_f; focus (simp [-cellOK, -opAppend]; done)) | (refine awp_cond ?_; simp [-cellOK, -opAppend]; refine ⟨?_, ?_⟩ <;> intro hc) | fail)
      exact retP_own (v := v1) (.inr rfl) (by simp) hO1 hE1
  | cons r l =>
    refine pbody Tryz.func128 rfl (N := 8) rfl rfl (by simp) (by simp [noIds]) fun σ => ?_
    (try ((first | with_reducible refine dops_go ?_ | with_reducible refine OKv_go ?_ | with_reducible refine OKr_go ?_); simp [-cellOK, linksAV, -opAppend])); repeat' (first | refine awp_seq ?_ | refine awp_block ?_ | (refine awp_skip ?_; try simp) | (refine awp_exit ?_; try simp) | (refine awp_ret ?_; try simp) | ((first | refine awp_reg ?_ | refine awp_drawT (fun _ => false) mixed (by decide +kernel) ?_ | refine awp_drawT isCallO mixed (by decide +kernel) ?_); simp [-cellOK, linksAV, -opAppend]) | (refine guarded_split ?_ ?_ <;> (intro hg; simp only [hg]; simp [-cellOK, linksAV, -opAppend])) | (apply awp_cond_t; focus (simp [-cellOK, linksAV, -opAppend]; done)) | (apply awp_cond_f; focus (simp [-cellOK, linksAV, -opAppend]; done)) | (refine awp_cond ?_; simp [-cellOK, linksAV, -opAppend]; refine ⟨?_, ?_⟩ <;> intro hc) | fail)
    refine okr_append slt23 (σ0 := σ) (es := []) (OwnL.of rfl (by simp) (fresh_none _ _ _) rfl) (Ext.new _ _ _ _) (ys := (r :: l).map lkAV) (by simp) (.inr rfl) (ok_links _) (by simp at hl ⊢; omega) ?_
    intro v1 τ1 hO1 hE1 _ _
    rw [List.nil_append] at hO1
    (try ((first | with_reducible refine dops_go ?_ | with_reducible refine OKv_go ?_ | with_reducible refine OKr_go ?_); simp [-cellOK, -opAppend])); repeat' (first | refine awp_seq ?_ | refine awp_block ?_ | (refine awp_skip ?_; try simp) | (refine awp_exit ?_; try simp) | (refine awp_ret ?_; try simp) | ((first | refine awp_reg ?_ | refine awp_drawT (fun _ => false) mixed (by decide +kernel) ?_ | refine awp_drawT isCallO mixed (by decide +kernel) ?_); simp [-cellOK, -opAppend]) | (refine guarded_split ?_ ?_ <;> (intro hg; simp only [hg]; simp [-cellOK, -opAppend])) | (apply awp_cond_t; focus (simp [-cellOK, -opAppend]; done)) | (apply awp_cond_f; focus (simp [-cellOK, -opAppend]; done)) | (refine awp_cond ?_; simp [-cellOK, -opAppend]; refine ⟨?_, ?_⟩ <;> intro hc) | fail)
    exact retP_own (v := v1) (.inr rfl) (by simp) hO1 hE1

theorem ruCloneP_calls (l : List Ru) (f : Bool) (hl : l.length < 2932031007403) : PCalls Tryz.prog 129 [rulesAV l f] (rulesAV l false) := by
  cases l with
  | nil =>
    simp only [rulesAV, List.map_nil]
    refine pcalls_nil fun b cap => ?_
    refine pbody Tryz.func129 rfl (N := 8) rfl rfl (by simp) (by simp [noIds]) fun σ => ?_
    cases b with
    | none =>
      (try ((first | with_reducible refine dops_go ?_ | with_reducible refine OKv_go ?_ | with_reducible refine OKr_go ?_); simp [-cellOK])); repeat' (first | refine awp_seq ?_ | refine awp_block ?_ | (refine awp_skip ?_; try simp) | (refine awp_exit ?_; try simp) | (refine awp_ret ?_; try simp) | ((first | refine awp_reg ?_ | refine awp_drawT (fun _ => false) mixed (by decide +kernel) ?_ | refine awp_drawT isCallO mixed (by decide +kernel) ?_); simp [-cellOK]) | (refine guarded_split ?_ ?_ <;> (intro hg; simp only [hg]; simp [-cellOK])) | (apply awp_cond_t; focus (simp [-cellOK]; done)) | (apply awp_cond_f; focus (simp [-cellOK]; done)) | (refine awp_cond ?_; simp [-cellOK]; refine ⟨?_, ?_⟩ <;> intro hc) | fail)
      exact retP_weak (x := .sl 0 [] true) (.inr rfl) (by repeat (first | assumption | exact Ext.refl _ | refine ext_new' ?_ | refine Ext.setF ?_ (by first | assumption | (simp [new_nx', St.set, fresh_none]; done) | exact ext_fresh (by assumption)))) (by simp) (by simp only [giveUps, giveUp]; exact weaker_sl)
    | some b =>
      (try ((first | with_reducible refine dops_go ?_ | with_reducible refine OKv_go ?_ | with_reducible refine OKr_go ?_); simp [-cellOK, -opAppend])); repeat' (first | refine awp_seq ?_ | refine awp_block ?_ | (refine awp_skip ?_; try simp) | (refine awp_exit ?_; try simp) | (refine awp_ret ?_; try simp) | ((first | refine awp_reg ?_ | refine awp_drawT (fun _ => false) mixed (by decide +kernel) ?_ | refine awp_drawT isCallO mixed (by decide +kernel) ?_); simp [-cellOK, -opAppend]) | (refine guarded_split ?_ ?_ <;> (intro hg; simp only [hg]; simp [-cellOK, -opAppend])) | (apply awp_cond_t; focus (simp [-cellOK, -opAppend]; done)) | (apply awp_cond_f; focus (simp [-cellOK, -opAppend]; done)) | (refine awp_cond ?_; simp [-cellOK, -opAppend]; refine ⟨?_, ?_⟩ <;> intro hc) | fail)
      refine okr_append slt26 (σ0 := σ) (es := []) (OwnL.of rfl (by simp) (fresh_none _ _ _) rfl) (Ext.new _ _ _ _) (ys := []) (by simp) (.inl rfl) rfl (by simp) ?_
      intro v1 τ1 hO1 hE1 _ _
      rw [List.nil_append] at hO1
      (try ((first | with_reducible refine dops_go ?_ | with_reducible refine OKv_go ?_ | with_reducible refine OKr_go ?_); simp [-cellOK, -opAppend])); repeat' (first | refine awp_seq ?_ | refine awp_block ?_ | (refine awp_skip ?_; try simp) | (refine awp_exit ?_; try simp) | (refine awp_ret ?_; try simp) | ((first | refine awp_reg ?_ | refine awp_drawT (fun _ => false) mixed (by decide +kernel) ?_ | refine awp_drawT isCallO mixed (by decide +kernel) ?_); simp [-cellOK, -opAppend]) | (refine guarded_split ?_ ?_ <;> (intro hg; simp only [hg]; simp [-cellOK, -opAppend])) | (apply awp_cond_t; focus (simp [-cellOK, -opAppend]; done)) | (apply awp_cond_f; focus (simp [-cellOK, -opAppend]; done)) | (refine awp_cond ?_; simp [-cellOK, -opAppend]; refine ⟨?_, ?_⟩ <;> intro hc) | fail)
      exact retP_own (v := v1) (.inr rfl) (by simp) hO1 hE1
  | cons r l =>
    refine pbody Tryz.func129 rfl (N := 8) rfl rfl (by simp) (by simp [noIds]) fun σ => ?_
    (try ((first | with_reducible refine dops_go ?_ | with_reducible refine OKv_go ?_ | with_reducible refine OKr_go ?_); simp [-cellOK, rulesAV, -opAppend])); repeat' (first | refine awp_seq ?_ | refine awp_block ?_ | (refine awp_skip ?_; try simp) | (refine awp_exit ?_; try simp) | (refine awp_ret ?_; try simp) | ((first | refine awp_reg ?_ | refine awp_drawT (fun _ => false) mixed (by decide +kernel) ?_ | refine awp_drawT isCallO mixed (by decide +kernel) ?_); simp [-cellOK, rulesAV, -opAppend]) | (refine guarded_split ?_ ?_ <;> (intro hg; simp only [hg]; simp [-cellOK, rulesAV, -opAppend])) | (apply awp_cond_t; focus (simp [-cellOK, rulesAV, -opAppend]; done)) | (apply awp_cond_f; focus (simp [-cellOK, rulesAV, -opAppend]; done)) | (refine awp_cond ?_; simp [-cellOK, rulesAV, -opAppend]; refine ⟨?_, ?_⟩ <;> intro hc) | fail)
    refine okr_append slt26 (σ0 := σ) (es := []) (OwnL.of rfl (by simp) (fresh_none _ _ _) rfl) (Ext.new _ _ _ _) (ys := (r :: l).map ruAV) (by simp) (.inr rfl) (ok_ru _) (by simp at hl ⊢; omega) ?_
    intro v1 τ1 hO1 hE1 _ _
    rw [List.nil_append] at hO1
    (try ((first | with_reducible refine dops_go ?_ | with_reducible refine OKv_go ?_ | with_reducible refine OKr_go ?_); simp [-cellOK, -opAppend])); repeat' (first | refine awp_seq ?_ | refine awp_block ?_ | (refine awp_skip ?_; try simp) | (refine awp_exit ?_; try simp) | (refine awp_ret ?_; try simp) | ((first | refine awp_reg ?_ | refine awp_drawT (fun _ => false) mixed (by decide +kernel) ?_ | refine awp_drawT isCallO mixed (by decide +kernel) ?_); simp [-cellOK, -opAppend]) | (refine guarded_split ?_ ?_ <;> (intro hg; simp only [hg]; simp [-cellOK, -opAppend])) | (apply awp_cond_t; focus (simp [-cellOK, -opAppend]; done)) | (apply awp_cond_f; focus (simp [-cellOK, -opAppend]; done)) | (refine awp_cond ?_; simp [-cellOK, -opAppend]; refine ⟨?_, ?_⟩ <;> intro hc) | fail)
    exact retP_own (v := v1) (.inr rfl) (by simp) hO1 hE1

theorem own_calls (n : Nw) (f : Fl) (hn : NwOK n) : PCalls Tryz.prog 75 [nwAV n f] (nwAV n flN) := by
  have h1 := intClone_calls n.t.ports f.p hn.ports
  have h2 := lkClone_calls n.t.links f.l hn.links
  have h3 := ruCloneP_calls n.rules f.r hn.rules
  have hfl : AV.agg [intsAV n.t.ports false, linksAV n.t.links false, rulesAV n.rules false] = nwAV n flN := rfl
  refine pbody Tryz.func75 rfl (N := 16) rfl rfl (by simp) (by simp [noIds]) fun σ => ?_
  have c1 : (intsAV n.t.ports false).cells = [intsAV n.t.ports false] := rfl
  have c2 : (linksAV n.t.links false).cells = [linksAV n.t.links false] := rfl
  have c3 : (rulesAV n.rules false).cells = [rulesAV n.rules false] := rfl
  (try ((first | with_reducible refine dops_go ?_ | with_reducible refine OKv_go ?_ | with_reducible refine OKr_go ?_); simp [-cellOK, nw_cells, c1, c2, c3, hfl, new_m, set_m, new_nx'])); repeat' (first | refine awp_seq ?_ | refine awp_block ?_ | (refine awp_skip ?_; try simp) | (refine awp_exit ?_; try simp) | (refine awp_ret ?_; try simp) | (refine retP_same (by simp) ?_; simp) | (refine retP_no (by simp) (by simp [noIds]) (by repeat (first | assumption | exact Ext.refl _ | refine ext_new' ?_ | refine Ext.setF ?_ (by first | assumption | (simp [new_nx', St.set, fresh_none]; done) | exact ext_fresh (by assumption)))) ?_; simp [-cellOK, nw_cells, c1, c2, c3, hfl, new_m, set_m, new_nx', new_m, set_m, new_nx']) | ((first | refine awp_reg ?_ | refine awp_drawT (fun _ => false) mixed (by decide +kernel) ?_ | refine awp_drawT isCallO mixed (by decide +kernel) ?_ | refine PCalls.use (h1) ?_ | refine Or.inl ⟨_, Or.inl (h1), ?_⟩ | refine PCalls.use (h2) ?_ | refine Or.inl ⟨_, Or.inl (h2), ?_⟩ | refine PCalls.use (h3) ?_ | refine Or.inl ⟨_, Or.inl (h3), ?_⟩); simp [-cellOK, nw_cells, c1, c2, c3, hfl, new_m, set_m, new_nx']) | (refine guarded_split ?_ ?_ <;> (intro hg; simp only [hg]; simp [-cellOK, nw_cells, c1, c2, c3, hfl, new_m, set_m, new_nx'])) | (apply awp_cond_t; focus (simp [-cellOK, nw_cells, c1, c2, c3, hfl, new_m, set_m, new_nx']; done)) | (apply awp_cond_f; focus (simp [-cellOK, nw_cells, c1, c2, c3, hfl, new_m, set_m, new_nx']; done)) | (refine awp_cond ?_; simp [-cellOK, nw_cells, c1, c2, c3, hfl, new_m, set_m, new_nx']; refine ⟨?_, ?_⟩ <;> intro hc) | fail)
  rfl
/-- What becomes at a device of an address. -/
def atI (n : Nw) (d a : Int) : Int := if (stepF n d a).1 = 2 then -3 else if (stepF n d a).1 = 1 then -2 else if (stepF n d a).1 = 0 then -1 else (stepF n d a).2.port
theorem at_calls (n : Nw) (f : Fl) (d a : Int) (hn : NwOK n) : PCalls Tryz.prog 134 [nwAV n f, .raw (.int .i64 d), .raw (.int .u32 a)] (.raw (.int .i64 (atI n d a))) := by
  have h1 := step_calls n f d a hn.links hn.rules
  unfold atI
  generalize stepF n d a = s at h1 ⊢
  obtain ⟨k, p⟩ := s
  refine pbody Tryz.func134 rfl (N := 25) rfl rfl (by simp) (by simp [noIds]) fun σ => ?_
  by_cases k2 : k = 2
  · (try ((first | with_reducible refine dops_go ?_ | with_reducible refine OKv_go ?_ | with_reducible refine OKr_go ?_); simp [-cellOK, nw_cells, nw_fold, new_m, set_m, new_nx', k2])); repeat' (first | refine awp_seq ?_ | refine awp_block ?_ | (refine awp_skip ?_; try simp) | (refine awp_exit ?_; try simp) | (refine awp_ret ?_; try simp) | (refine retP_same (by simp) ?_; simp) | (refine retP_no (by simp) (by simp [noIds]) (by repeat (first | assumption | exact Ext.refl _ | refine ext_new' ?_ | refine Ext.setF ?_ (by first | assumption | (simp [new_nx', St.set, fresh_none]; done) | exact ext_fresh (by assumption)))) ?_; simp [-cellOK, nw_cells, nw_fold, new_m, set_m, new_nx', k2, new_m, set_m, new_nx']) | ((first | refine awp_reg ?_ | refine awp_drawT (fun _ => false) mixed (by decide +kernel) ?_ | refine awp_drawT isCallO mixed (by decide +kernel) ?_ | refine PCalls.use (h1) ?_ | refine Or.inl ⟨_, Or.inl (h1), ?_⟩); simp [-cellOK, nw_cells, nw_fold, new_m, set_m, new_nx', k2]) | (refine guarded_split ?_ ?_ <;> (intro hg; simp only [hg]; simp [-cellOK, nw_cells, nw_fold, new_m, set_m, new_nx', k2])) | (apply awp_cond_t; focus (simp [-cellOK, nw_cells, nw_fold, new_m, set_m, new_nx', k2]; done)) | (apply awp_cond_f; focus (simp [-cellOK, nw_cells, nw_fold, new_m, set_m, new_nx', k2]; done)) | (refine awp_cond ?_; simp [-cellOK, nw_cells, nw_fold, new_m, set_m, new_nx', k2]; refine ⟨?_, ?_⟩ <;> intro hc) | fail)
  by_cases k1 : k = 1
  · (try ((first | with_reducible refine dops_go ?_ | with_reducible refine OKv_go ?_ | with_reducible refine OKr_go ?_); simp [-cellOK, nw_cells, nw_fold, new_m, set_m, new_nx', k2, k1])); repeat' (first | refine awp_seq ?_ | refine awp_block ?_ | (refine awp_skip ?_; try simp) | (refine awp_exit ?_; try simp) | (refine awp_ret ?_; try simp) | (refine retP_same (by simp) ?_; simp) | (refine retP_no (by simp) (by simp [noIds]) (by repeat (first | assumption | exact Ext.refl _ | refine ext_new' ?_ | refine Ext.setF ?_ (by first | assumption | (simp [new_nx', St.set, fresh_none]; done) | exact ext_fresh (by assumption)))) ?_; simp [-cellOK, nw_cells, nw_fold, new_m, set_m, new_nx', k2, k1, new_m, set_m, new_nx']) | ((first | refine awp_reg ?_ | refine awp_drawT (fun _ => false) mixed (by decide +kernel) ?_ | refine awp_drawT isCallO mixed (by decide +kernel) ?_ | refine PCalls.use (h1) ?_ | refine Or.inl ⟨_, Or.inl (h1), ?_⟩); simp [-cellOK, nw_cells, nw_fold, new_m, set_m, new_nx', k2, k1]) | (refine guarded_split ?_ ?_ <;> (intro hg; simp only [hg]; simp [-cellOK, nw_cells, nw_fold, new_m, set_m, new_nx', k2, k1])) | (apply awp_cond_t; focus (simp [-cellOK, nw_cells, nw_fold, new_m, set_m, new_nx', k2, k1]; done)) | (apply awp_cond_f; focus (simp [-cellOK, nw_cells, nw_fold, new_m, set_m, new_nx', k2, k1]; done)) | (refine awp_cond ?_; simp [-cellOK, nw_cells, nw_fold, new_m, set_m, new_nx', k2, k1]; refine ⟨?_, ?_⟩ <;> intro hc) | fail)
  by_cases k0 : k = 0
  · (try ((first | with_reducible refine dops_go ?_ | with_reducible refine OKv_go ?_ | with_reducible refine OKr_go ?_); simp [-cellOK, nw_cells, nw_fold, new_m, set_m, new_nx', k2, k1, k0])); repeat' (first | refine awp_seq ?_ | refine awp_block ?_ | (refine awp_skip ?_; try simp) | (refine awp_exit ?_; try simp) | (refine awp_ret ?_; try simp) | (refine retP_same (by simp) ?_; simp) | (refine retP_no (by simp) (by simp [noIds]) (by repeat (first | assumption | exact Ext.refl _ | refine ext_new' ?_ | refine Ext.setF ?_ (by first | assumption | (simp [new_nx', St.set, fresh_none]; done) | exact ext_fresh (by assumption)))) ?_; simp [-cellOK, nw_cells, nw_fold, new_m, set_m, new_nx', k2, k1, k0, new_m, set_m, new_nx']) | ((first | refine awp_reg ?_ | refine awp_drawT (fun _ => false) mixed (by decide +kernel) ?_ | refine awp_drawT isCallO mixed (by decide +kernel) ?_ | refine PCalls.use (h1) ?_ | refine Or.inl ⟨_, Or.inl (h1), ?_⟩); simp [-cellOK, nw_cells, nw_fold, new_m, set_m, new_nx', k2, k1, k0]) | (refine guarded_split ?_ ?_ <;> (intro hg; simp only [hg]; simp [-cellOK, nw_cells, nw_fold, new_m, set_m, new_nx', k2, k1, k0])) | (apply awp_cond_t; focus (simp [-cellOK, nw_cells, nw_fold, new_m, set_m, new_nx', k2, k1, k0]; done)) | (apply awp_cond_f; focus (simp [-cellOK, nw_cells, nw_fold, new_m, set_m, new_nx', k2, k1, k0]; done)) | (refine awp_cond ?_; simp [-cellOK, nw_cells, nw_fold, new_m, set_m, new_nx', k2, k1, k0]; refine ⟨?_, ?_⟩ <;> intro hc) | fail)
  (try ((first | with_reducible refine dops_go ?_ | with_reducible refine OKv_go ?_ | with_reducible refine OKr_go ?_); simp [-cellOK, nw_cells, nw_fold, new_m, set_m, new_nx', k2, k1, k0, ptAV])); repeat' (first | refine awp_seq ?_ | refine awp_block ?_ | (refine awp_skip ?_; try simp) | (refine awp_exit ?_; try simp) | (refine awp_ret ?_; try simp) | (refine retP_same (by simp) ?_; simp) | (refine retP_no (by simp) (by simp [noIds]) (by repeat (first | assumption | exact Ext.refl _ | refine ext_new' ?_ | refine Ext.setF ?_ (by first | assumption | (simp [new_nx', St.set, fresh_none]; done) | exact ext_fresh (by assumption)))) ?_; simp [-cellOK, nw_cells, nw_fold, new_m, set_m, new_nx', k2, k1, k0, ptAV, new_m, set_m, new_nx']) | ((first | refine awp_reg ?_ | refine awp_drawT (fun _ => false) mixed (by decide +kernel) ?_ | refine awp_drawT isCallO mixed (by decide +kernel) ?_ | refine PCalls.use (h1) ?_ | refine Or.inl ⟨_, Or.inl (h1), ?_⟩); simp [-cellOK, nw_cells, nw_fold, new_m, set_m, new_nx', k2, k1, k0, ptAV]) | (refine guarded_split ?_ ?_ <;> (intro hg; simp only [hg]; simp [-cellOK, nw_cells, nw_fold, new_m, set_m, new_nx', k2, k1, k0, ptAV])) | (apply awp_cond_t; focus (simp [-cellOK, nw_cells, nw_fold, new_m, set_m, new_nx', k2, k1, k0, ptAV]; done)) | (apply awp_cond_f; focus (simp [-cellOK, nw_cells, nw_fold, new_m, set_m, new_nx', k2, k1, k0, ptAV]; done)) | (refine awp_cond ?_; simp [-cellOK, nw_cells, nw_fold, new_m, set_m, new_nx', k2, k1, k0, ptAV]; refine ⟨?_, ?_⟩ <;> intro hc) | fail)
/-- A device's labels. -/
def rowL (n : Nw) (T : Option Tab) (d : Int) : List Int := (List.range (T.getD newTab).b.sz.toNat).map fun i : Nat => atI n d ((atomT T i).getD ⟨0, 0⟩).lo
theorem row_calls (n : Nw) (f : Fl) (T : Option Tab) (d : Int) (hn : NwOK n) (hz : (T.getD newTab).b.sz < 2 ^ 40) :
    PCalls Tryz.prog 78 [nwAV n f, tabO T, .raw (.int .i64 d)] (intsAV (rowL n T d) false) := by
  have hlen := tabLen_calls T
  refine pbody Tryz.func78 rfl (N := 32) rfl rfl (by simp) (by simp [noIds]) fun σ => ?_
  unfold rowL
  have hat := fun i : Int => atom_calls T i hz
  generalize (T.getD newTab).b.sz = N at *
  obtain ⟨M, hM⟩ : ∃ M : Nat, N.toNat = M := ⟨_, rfl⟩
  rw [hM]
  refine awp_seq ?_
  (try ((first | with_reducible refine dops_go ?_ | with_reducible refine OKv_go ?_ | with_reducible refine OKr_go ?_); simp [-cellOK, nw_cells])); repeat' (first | refine awp_seq ?_ | refine awp_block ?_ | (refine awp_skip ?_; try simp) | (refine awp_exit ?_; try simp) | (refine awp_ret ?_; try simp) | ((first | refine awp_reg ?_ | refine awp_drawT (fun _ => false) mixed (by decide +kernel) ?_ | refine awp_drawT isCallO mixed (by decide +kernel) ?_ | refine PCalls.use (hlen) ?_ | refine Or.inl ⟨_, Or.inl (hlen), ?_⟩); simp [-cellOK, nw_cells]) | (refine guarded_split ?_ ?_ <;> (intro hg; simp only [hg]; simp [-cellOK, nw_cells])) | (apply awp_cond_t; focus (simp [-cellOK, nw_cells]; done)) | (apply awp_cond_f; focus (simp [-cellOK, nw_cells]; done)) | (refine awp_cond ?_; simp [-cellOK, nw_cells]; refine ⟨?_, ?_⟩ <;> intro hc) | fail)
  refine awp_freeze ⟨3, σ.nx 3, 3⟩ ?_
  generalize hτ : St.del _ _ = τ
  generalize hA : (fun t => giveUp _ _ _) = A
  have a1 : A 1 = tabO T := by rw [← hA]; cases T <;> simp [tabO, tabP]
  have a2 : A 2 = .raw (.int .i64 d) := by rw [← hA]; simp
  have a3 : A 3 = .pp (nwAV n f).cells 0 := by rw [← hA, ← hτ]; simp [giveUp, St.new, St.del, nw_cells]
  have a7 : A 7 = .sl 0 [] true := by rw [← hA]; simp
  have a12 : A 12 = .raw (.int .i64 N) := by rw [← hA]; simp
  have a13 : A 13 = .raw (.int .i64 0) := by rw [← hA]; simp
  have hE : Ext σ τ := by
    rw [← hτ]
    refine ⟨fun i o h => ?_, fun s => ?_⟩
    · rw [del_other (fun e => by rw [e, fresh_none] at h; cases h)]
      exact new_up _ _ h
    · exact St.new_le σ 3 3 (.buf [nwAV n f]) s
  clear hτ hA
  refine awp_loopH (fun n' B ρ => Ext σ ρ ∧ B 1 = tabO T ∧ B 2 = .raw (.int .i64 d) ∧ B 3 = .pp (nwAV n f).cells 0 ∧ B 12 = .raw (.int .i64 N) ∧ ∃ (i : Nat) (v : AV), B 13 = .raw (.int .i64 i) ∧ i ≤ M ∧ n' = M - i ∧ B 7 = v ∧ OwnL σ ρ 1 v (((List.range i).map fun i : Nat => atI n d ((atomT T i).getD ⟨0, 0⟩).lo).map iAV)) M ?_ ?_
  · exact ⟨hE, a1, a2, a3, a12, 0, .sl 0 [] true, a13, by omega, by omega, a7, .inl ⟨by simp, rfl⟩⟩
  clear hE a1 a2 a3 a7 a12 a13
  rintro n' B ρ ⟨hE, a1, a2, a3, a12, i, v, a13, hi, rfl, a7, hO⟩ I1 hI1
  by_cases hlt : (i : Int) < N
  · have w1 : IntKind.i64.wrap ((i : Int) + 1) = ((i + 1 : Nat) : Int) := by rw [wrap64 (by omega) (by omega)]; omega
    have hat := hat i
    obtain ⟨r, hr⟩ : ∃ r, (atomT T i).getD ⟨0, 0⟩ = r := ⟨_, rfl⟩
    have hstep := at_calls n f d r.lo hn
    have hr' : AV.agg [.raw (.int .u32 r.lo), .raw (.int .u32 r.hi)] = rgAV r := rfl
    rw [hr] at hat
    generalize (atomT T i).isSome = bz at hat
    (try ((first | with_reducible refine dops_go ?_ | with_reducible refine OKv_go ?_ | with_reducible refine OKr_go ?_); simp [-cellOK, a1, a2, a3, a7, a12, a13, hlt, nw_cells, nw_fold, rg_cells, new_m, set_m, new_nx', -opAppend])); repeat' (first | refine awp_seq ?_ | refine awp_block ?_ | (refine awp_skip ?_; try simp) | (refine awp_exit ?_; try simp) | (refine awp_ret ?_; try simp) | (refine retP_same (by simp) ?_; simp) | (refine retP_no (by simp) (by simp [noIds]) (by repeat (first | assumption | exact Ext.refl _ | refine ext_new' ?_ | refine Ext.setF ?_ (by first | assumption | (simp [new_nx', St.set, fresh_none]; done) | exact ext_fresh (by assumption)))) ?_; simp [-cellOK, a1, a2, a3, a7, a12, a13, hlt, nw_cells, nw_fold, rg_cells, new_m, set_m, new_nx', -opAppend, new_m, set_m, new_nx']) | ((first | refine awp_reg ?_ | refine awp_drawT (fun _ => false) mixed (by decide +kernel) ?_ | refine awp_drawT isCallO mixed (by decide +kernel) ?_ | refine PCalls.use (hat) ?_ | refine Or.inl ⟨_, Or.inl (hat), ?_⟩ | refine PCalls.use (hstep) ?_ | refine Or.inl ⟨_, Or.inl (hstep), ?_⟩); simp [-cellOK, a1, a2, a3, a7, a12, a13, hlt, nw_cells, nw_fold, rg_cells, new_m, set_m, new_nx', -opAppend]) | (refine guarded_split ?_ ?_ <;> (intro hg; simp only [hg]; simp [-cellOK, a1, a2, a3, a7, a12, a13, hlt, nw_cells, nw_fold, rg_cells, new_m, set_m, new_nx', -opAppend])) | (apply awp_cond_t; focus (simp [-cellOK, a1, a2, a3, a7, a12, a13, hlt, nw_cells, nw_fold, rg_cells, new_m, set_m, new_nx', -opAppend]; done)) | (apply awp_cond_f; focus (simp [-cellOK, a1, a2, a3, a7, a12, a13, hlt, nw_cells, nw_fold, rg_cells, new_m, set_m, new_nx', -opAppend]; done)) | (refine awp_cond ?_; simp [-cellOK, a1, a2, a3, a7, a12, a13, hlt, nw_cells, nw_fold, rg_cells, new_m, set_m, new_nx', -opAppend]; refine ⟨?_, ?_⟩ <;> intro hc) | fail)
    refine okr_append slt22 (σ0 := σ) (hO.ext (by repeat (first | assumption | exact Ext.refl _ | refine ext_new' ?_ | refine Ext.setF ?_ (by first | assumption | (simp [new_nx', St.set, fresh_none]; done) | exact ext_fresh (by assumption))))) (by repeat (first | assumption | exact Ext.refl _ | refine ext_new' ?_ | refine Ext.setF ?_ (by first | assumption | (simp [new_nx', St.set, fresh_none]; done) | exact ext_fresh (by assumption)))) (ys := [iAV (atI n d r.lo)]) (by simp [new_m, new_nx', iAV]) (.inr rfl) (by simp [iAV]) (by simp; omega) ?_
    intro v' τ' hO' hE' _ _
    (try ((first | with_reducible refine dops_go ?_ | with_reducible refine OKv_go ?_ | with_reducible refine OKr_go ?_); simp [-cellOK, a1, a2, a3, a7, a12, a13, w1])); repeat' (first | refine awp_seq ?_ | refine awp_block ?_ | (refine awp_skip ?_; try simp) | (refine awp_exit ?_; try simp) | (refine awp_ret ?_; try simp) | (refine retP_same (by simp) ?_; simp) | (refine retP_no (by simp) (by simp [noIds]) (by repeat (first | assumption | exact Ext.refl _ | refine ext_new' ?_ | refine Ext.setF ?_ (by first | assumption | (simp [new_nx', St.set, fresh_none]; done) | exact ext_fresh (by assumption)))) ?_; simp [-cellOK, a1, a2, a3, a7, a12, a13, w1, new_m, set_m, new_nx']) | ((first | refine awp_reg ?_ | refine awp_drawT (fun _ => false) mixed (by decide +kernel) ?_ | refine awp_drawT isCallO mixed (by decide +kernel) ?_); simp [-cellOK, a1, a2, a3, a7, a12, a13, w1]) | (refine guarded_split ?_ ?_ <;> (intro hg; simp only [hg]; simp [-cellOK, a1, a2, a3, a7, a12, a13, w1])) | (apply awp_cond_t; focus (simp [-cellOK, a1, a2, a3, a7, a12, a13, w1]; done)) | (apply awp_cond_f; focus (simp [-cellOK, a1, a2, a3, a7, a12, a13, w1]; done)) | (refine awp_cond ?_; simp [-cellOK, a1, a2, a3, a7, a12, a13, w1]; refine ⟨?_, ?_⟩ <;> intro hc) | fail)
    refine hI1 (M - (i + 1)) _ _ (by omega) ⟨hE', by simp [a1], by simp [a2], by simp [a3], by simp [a12], i + 1, v', by simp, by omega, rfl, by simp, ?_⟩
    rw [List.range_succ, List.map_append, List.map_append]
    simpa [hr] using hO'
  · have : i = M := by omega
    subst this
    (try ((first | with_reducible refine dops_go ?_ | with_reducible refine OKv_go ?_ | with_reducible refine OKr_go ?_); simp [-cellOK, a1, a2, a3, a7, a12, a13, hlt])); repeat' (first | refine awp_seq ?_ | refine awp_block ?_ | (refine awp_skip ?_; try simp) | (refine awp_exit ?_; try simp) | (refine awp_ret ?_; try simp) | ((first | refine awp_reg ?_ | refine awp_drawT (fun _ => false) mixed (by decide +kernel) ?_ | refine awp_drawT isCallO mixed (by decide +kernel) ?_); simp [-cellOK, a1, a2, a3, a7, a12, a13, hlt]) | (refine guarded_split ?_ ?_ <;> (intro hg; simp only [hg]; simp [-cellOK, a1, a2, a3, a7, a12, a13, hlt])) | (apply awp_cond_t; focus (simp [-cellOK, a1, a2, a3, a7, a12, a13, hlt]; done)) | (apply awp_cond_f; focus (simp [-cellOK, a1, a2, a3, a7, a12, a13, hlt]; done)) | (refine awp_cond ?_; simp [-cellOK, a1, a2, a3, a7, a12, a13, hlt]; refine ⟨?_, ?_⟩ <;> intro hc) | fail)
    exact retP_own (v := v) (.inr rfl) (by simp) hO hE
end Go.Proofs.YtanimmdlgmkmkaaGreat.Av


/- label.Of. -/
namespace Go.Proofs.YtanimmdlgmkmkaaGreat.Av
open Go
set_option linter.unusedSimpArgs false
set_option linter.unusedVariables false
set_option maxRecDepth 100000
set_option maxHeartbeats 4000000
set_option pp.maxSteps 600

/-- Labels: a network, its atoms, the rows. -/
structure Lab where
  n : Nw
  t : Option Tab
  rows : List (List Int)
def inAV (l : List Int) : AV := intsAV l false
def labC (L : Lab) : List AV := [intsAV L.n.t.ports false, linksAV L.n.t.links false, rulesAV L.n.rules false, tabO L.t, .sl 1 (L.rows.map inAV) false]
def labO : Option Lab → AV
  | none => .raw (.pointer none)
  | some L => .pp (labC L) 0
/-- The atoms of rules. -/
def tabL (l : List Ru) : Option Tab := l.foldl (fun T x => (addT T x.r).1) (some newTab)
def labOf (n : Nw) : Lab := ⟨n, tabL n.rules, (List.range n.t.ports.length).map fun d : Nat => rowL n (tabL n.rules) d⟩
def ofL (n : Nw) : Option Lab × Int := if rightN n then (some (labOf n), 0) else (none, 71)
theorem tabL_rep {l : List Ru} (h : ∀ r ∈ l, RgOK r.r) : ∀ k, k ≤ l.length → RepO (tabL (l.take k)) (((l.take k).map (·.r)).foldl stepL (some [])) := by
  intro k
  induction k with
  | zero => intro _; exact ⟨rep_new, by simp⟩
  | succ k ih =>
    intro hk
    have hx : l[k]? = some l[k] := List.getElem?_eq_getElem (by omega)
    have h1 := (ih (by omega)).step (h _ (List.getElem_mem (by omega : k < l.length)))
    rw [List.take_add_one, hx]
    simp only [tabL, List.map_append, List.foldl_append, Option.toList, List.map_cons, List.map_nil, List.foldl_cons, List.foldl_nil] at h1 ⊢
    exact h1.2
theorem tabL_step {l : List Ru} {k : Nat} (hk : k < l.length) : tabL (l.take (k + 1)) = (addT (tabL (l.take k)) l[k].r).1 := by
  rw [List.take_add_one, List.getElem?_eq_getElem hk]
  simp only [tabL, List.foldl_append, Option.toList, List.foldl_cons, List.foldl_nil]
theorem tabL_len {l : List Ru} (h : ∀ r ∈ l, RgOK r.r) : ((tabL l).getD newTab).b.sz < 2 ^ 40 := by
  have h1 := tabL_rep h l.length (Nat.le_refl _)
  rw [List.take_length] at h1
  obtain ⟨hr, hl⟩ := h1.get
  generalize ((l.map (·.r)).foldl stepL (some [])).getD [] = L at hr hl
  have hcc := cutsL_cuts L
  have hcl : (cutsL L).length ≤ 1 + 2 * L.length := by
    have := nodup_le (m := 0 :: endsL L) (hcc.srt.imp fun h => by omega) fun x hx => by
      rw [List.mem_cons]; simp only [endsL, List.mem_flatMap]; exact (hcc.mem x).1 hx
    have := endsL_len L
    simp only [List.length_cons] at *
    omega
  rw [rep_len hr]; omega
@[simp] theorem labO_ids (K : Id → Prop) (L : Option Lab) : (labO L).ids K := by
  cases L with
  | none => exact trivial
  | some L =>
    simp only [labO, labC, AV.ids, idsL]
    refine ⟨ints_ids K _ _, links_ids K _ _, rules_ids K _ _, tabO_ids K _, ?_, trivial⟩
    exact idsL_map (fun l => ints_ids K l false) L.rows
theorem right_few {n : Nw} (h : rightN n = true) : 1 ≤ n.t.ports.length ∧ n.t.ports.length ≤ 8 := by
  unfold rightN rightT at h
  simp only [Bool.and_eq_true, Bool.not_eq_true', decide_eq_false_iff_not] at h
  omega
theorem of_calls (n : Nw) (f : Fl) (hn : NwOK n) : PCalls Tryz.prog 25 [nwAV n f] (.tup [labO (ofL n).1, .raw (.int .i64 (ofL n).2)]) := by
  have hr := rightN_calls n f (by have := hn.ports; omega) hn.links hn.rules
  have ho := own_calls n f hn
  unfold ofL
  cases hb : rightN n with
  | false =>
    rw [hb] at hr
    show PCalls _ _ _ (.tup [.raw (.pointer none), .raw (.int .i64 71)])
    refine pbody Tryz.func25 rfl (N := 65) rfl rfl (by simp) (by simp [noIds]) fun σ => ?_
    (try ((first | with_reducible refine dops_go ?_ | with_reducible refine OKv_go ?_ | with_reducible refine OKr_go ?_); simp [-cellOK, nw_cells, nw_fold])); repeat' (first | refine awp_seq ?_ | refine awp_block ?_ | (refine awp_skip ?_; try simp) | (refine awp_exit ?_; try simp) | (refine awp_ret ?_; try simp) | (refine retP_same (by simp) ?_; simp) | (refine retP_no (by simp) (by simp [noIds]) (by repeat (first | assumption | exact Ext.refl _ | refine ext_new' ?_ | refine Ext.setF ?_ (by first | assumption | (simp [new_nx', St.set, fresh_none]; done) | exact ext_fresh (by assumption)))) ?_; simp [-cellOK, nw_cells, nw_fold, new_m, set_m, new_nx']) | ((first | refine awp_reg ?_ | refine awp_drawT (fun _ => false) mixed (by decide +kernel) ?_ | refine awp_drawT isCallO mixed (by decide +kernel) ?_ | refine PCalls.use (hr) ?_ | refine Or.inl ⟨_, Or.inl (hr), ?_⟩); simp [-cellOK, nw_cells, nw_fold]) | (refine guarded_split ?_ ?_ <;> (intro hg; simp only [hg]; simp [-cellOK, nw_cells, nw_fold])) | (apply awp_cond_t; focus (simp [-cellOK, nw_cells, nw_fold]; done)) | (apply awp_cond_f; focus (simp [-cellOK, nw_cells, nw_fold]; done)) | (refine awp_cond ?_; simp [-cellOK, nw_cells, nw_fold]; refine ⟨?_, ?_⟩ <;> intro hc) | fail)
  | true =>
    rw [hb] at hr
    show PCalls _ _ _ (.tup [labO (some (labOf n)), .raw (.int .i64 0)])
    refine pbody Tryz.func25 rfl (N := 65) rfl rfl (by simp) (by simp [noIds, labO_ids]) fun σ => ?_
    obtain ⟨hpos, hp⟩ := right_few hb
    have c1 : (nwAV n flN).cells = [intsAV n.t.ports false, linksAV n.t.links false, rulesAV n.rules false] := rfl
    have htn := tabNew_calls
    have f1 : σ.m ⟨1, σ.nx 1, 3⟩ = none := fresh_none _ _ _
    have f15 : σ.m ⟨15, σ.nx 15, 5⟩ = none := fresh_none _ _ _
    refine awp_seq ?_
    (try ((first | with_reducible refine dops_go ?_ | with_reducible refine OKv_go ?_ | with_reducible refine OKr_go ?_); simp [-cellOK, nw_cells, nw_fold, c1, new_m, set_m, new_nx'])); repeat' (first | refine awp_seq ?_ | refine awp_block ?_ | (refine awp_skip ?_; try simp) | (refine awp_exit ?_; try simp) | (refine awp_ret ?_; try simp) | ((first | refine awp_reg ?_ | refine awp_drawT (fun _ => false) mixed (by decide +kernel) ?_ | refine awp_drawT isCallO mixed (by decide +kernel) ?_ | refine PCalls.use (hr) ?_ | refine Or.inl ⟨_, Or.inl (hr), ?_⟩ | refine PCalls.use (ho) ?_ | refine Or.inl ⟨_, Or.inl (ho), ?_⟩ | refine PCalls.use (htn) ?_ | refine Or.inl ⟨_, Or.inl (htn), ?_⟩); simp [-cellOK, nw_cells, nw_fold, c1, new_m, set_m, new_nx']) | (refine guarded_split ?_ ?_ <;> (intro hg; simp only [hg]; simp [-cellOK, nw_cells, nw_fold, c1, new_m, set_m, new_nx'])) | (apply awp_cond_t; focus (simp [-cellOK, nw_cells, nw_fold, c1, new_m, set_m, new_nx']; done)) | (apply awp_cond_f; focus (simp [-cellOK, nw_cells, nw_fold, c1, new_m, set_m, new_nx']; done)) | (refine awp_cond ?_; simp [-cellOK, nw_cells, nw_fold, c1, new_m, set_m, new_nx']; refine ⟨?_, ?_⟩ <;> intro hc) | fail)
    refine awp_freeze ⟨1, σ.nx 1, 3⟩ ?_
    generalize hτ : St.del _ _ = τ
    generalize hA : (fun t => giveUp _ _ _) = A
    have a1 : A 1 = .pp (nwAV n f).cells 0 := by rw [← hA, ← hτ]; simp [giveUp, St.new, St.del, nw_cells]
    have a4 : A 4 = .rp ⟨15, σ.nx 15, 5⟩ 0 0 := by rw [← hA, ← hτ]; simp [giveUp, St.new, St.del, St.set, nw_cells]
    have a17 : A 17 = rulesAV n.rules f.r := by rw [← hA]; simp [rulesAV]
    have a18 : A 18 = .raw (.int .i64 n.rules.length) := by rw [← hA]; simp
    have a19 : A 19 = .raw (.int .i64 0) := by rw [← hA]; simp
    have mj : τ.m ⟨15, σ.nx 15, 5⟩ = some (.buf [.agg [intsAV n.t.ports false, linksAV n.t.links false, rulesAV n.rules false, tabO (some newTab), .sl 0 [] true]]) := by rw [← hτ]; simp [St.new, St.del, St.set, new_m, set_m, new_nx', tabO]
    have hE : Ext σ τ := by
      rw [← hτ]
      refine ⟨fun i o h => ?_, fun s => ?_⟩
      · have q1 : i ≠ ⟨1, σ.nx 1, 3⟩ := fun e => by rw [e, f1] at h; cases h
        have q2 : i ≠ ⟨15, σ.nx 15, 5⟩ := fun e => by rw [e, f15] at h; cases h
        simp [St.del, St.new, St.set, q1, q2, h]
      · simp only [St.del, St.new, St.set]
        repeat' split
        all_goals omega
    clear hτ hA
    refine awp_loopH (fun n' B ρ => Ext σ ρ ∧ B 1 = .pp (nwAV n f).cells 0 ∧ B 4 = .rp ⟨15, σ.nx 15, 5⟩ 0 0 ∧ B 17 = rulesAV n.rules f.r ∧ B 18 = .raw (.int .i64 n.rules.length) ∧ ∃ i : Nat, B 19 = .raw (.int .i64 i) ∧ i ≤ n.rules.length ∧ n' = n.rules.length - i ∧ ρ.m ⟨15, σ.nx 15, 5⟩ = some (.buf [.agg [intsAV n.t.ports false, linksAV n.t.links false, rulesAV n.rules false, tabO (tabL (n.rules.take i)), .sl 0 [] true]])) n.rules.length ?_ ?_
    · exact ⟨hE, a1, a4, a17, a18, 0, a19, by omega, by omega, mj⟩
    clear hE a1 a4 a17 a18 a19 mj
    rintro n' B ρ ⟨hE, a1, a4, a17, a18, i, a19, hi, rfl, mj⟩ I1 hI1
    by_cases hlt : i < n.rules.length
    · have hx : n.rules[i]? = some n.rules[i] := List.getElem?_eq_getElem hlt
      have hl3 := hn.rules
      have w1 : IntKind.i64.wrap ((i : Int) + 1) = ((i + 1 : Nat) : Int) := by rw [wrap64 (by omega) (by omega)]; omega
      have hrk := hn.rg _ (List.getElem_mem hlt)
      obtain ⟨g1, g2⟩ := (tabL_rep hn.rg i (by omega)).step hrk
      have hadd := add_calls (tabL (n.rules.take i)) n.rules[i].r g1
      rw [← tabL_step hlt] at hadd
      obtain ⟨x, hxe⟩ : ∃ x, n.rules[i] = x := ⟨_, rfl⟩
      rw [hxe] at hadd
      clear g1 g2 hrk
      have hxr : AV.agg [.raw (.int .u32 x.r.lo), .raw (.int .u32 x.r.hi)] = rgAV x.r := rfl
      generalize (addT (tabL (n.rules.take i)) x.r).2 = e' at hadd
      generalize tabL (n.rules.take i) = T at hadd mj
      obtain ⟨T', hT'⟩ : ∃ T', tabL (n.rules.take (i + 1)) = T' := ⟨_, rfl⟩
      rw [hT'] at hadd
      (try ((first | with_reducible refine dops_go ?_ | with_reducible refine OKv_go ?_ | with_reducible refine OKr_go ?_); simp [-cellOK, a1, a4, a17, a18, a19, rulesAV, hlt, hx, hxe, ru_cells, hxr, new_m, set_m, new_nx', mj, w1])); repeat' (first | refine awp_seq ?_ | refine awp_block ?_ | (refine awp_skip ?_; try simp) | (refine awp_exit ?_; try simp) | (refine awp_ret ?_; try simp) | (refine retP_same (by simp) ?_; simp) | (refine retP_no (by simp) (by simp [noIds]) (by repeat (first | assumption | exact Ext.refl _ | refine ext_new' ?_ | refine Ext.setF ?_ (by first | assumption | (simp [new_nx', St.set, fresh_none]; done) | exact ext_fresh (by assumption)))) ?_; simp [-cellOK, a1, a4, a17, a18, a19, rulesAV, hlt, hx, hxe, ru_cells, hxr, new_m, set_m, new_nx', mj, w1, new_m, set_m, new_nx']) | ((first | refine awp_reg ?_ | refine awp_drawT (fun _ => false) mixed (by decide +kernel) ?_ | refine awp_drawT isCallO mixed (by decide +kernel) ?_ | refine PCalls.use (hadd) ?_ | refine Or.inl ⟨_, Or.inl (hadd), ?_⟩); simp [-cellOK, a1, a4, a17, a18, a19, rulesAV, hlt, hx, hxe, ru_cells, hxr, new_m, set_m, new_nx', mj, w1]) | (refine guarded_split ?_ ?_ <;> (intro hg; simp only [hg]; simp [-cellOK, a1, a4, a17, a18, a19, rulesAV, hlt, hx, hxe, ru_cells, hxr, new_m, set_m, new_nx', mj, w1])) | (apply awp_cond_t; focus (simp [-cellOK, a1, a4, a17, a18, a19, rulesAV, hlt, hx, hxe, ru_cells, hxr, new_m, set_m, new_nx', mj, w1]; done)) | (apply awp_cond_f; focus (simp [-cellOK, a1, a4, a17, a18, a19, rulesAV, hlt, hx, hxe, ru_cells, hxr, new_m, set_m, new_nx', mj, w1]; done)) | (refine awp_cond ?_; simp [-cellOK, a1, a4, a17, a18, a19, rulesAV, hlt, hx, hxe, ru_cells, hxr, new_m, set_m, new_nx', mj, w1]; refine ⟨?_, ?_⟩ <;> intro hc) | fail)
      refine hI1 (n.rules.length - (i + 1)) _ _ (by omega) ⟨(by repeat (first | assumption | exact Ext.refl _ | refine ext_new' ?_ | refine Ext.setF ?_ (by first | assumption | (simp [new_nx', St.set, fresh_none]; done) | exact ext_fresh (by assumption)))), by simp [a1], by simp [a4], by simp [a17], by simp [a18], i + 1, by simp, by omega, rfl, ?_⟩
      rw [hT']
      simp [new_m, set_m, new_nx', mj]
      rfl
    have : i = n.rules.length := by omega
    subst this
    rw [List.take_length] at mj
    have hz := tabL_len hn.rg
    unfold labOf
    generalize tabL n.rules = T at mj hz ⊢
    (try ((first | with_reducible refine dops_go ?_ | with_reducible refine OKv_go ?_ | with_reducible refine OKr_go ?_); simp [-cellOK, a1, a4, a17, a18, a19, nw_cells])); repeat' (first | refine awp_seq ?_ | refine awp_block ?_ | (refine awp_skip ?_; try simp) | (refine awp_exit ?_; try simp) | (refine awp_ret ?_; try simp) | (refine retP_same (by simp) ?_; simp) | (refine retP_no (by simp) (by simp [noIds]) (by repeat (first | assumption | exact Ext.refl _ | refine ext_new' ?_ | refine Ext.setF ?_ (by first | assumption | (simp [new_nx', St.set, fresh_none]; done) | exact ext_fresh (by assumption)))) ?_; simp [-cellOK, a1, a4, a17, a18, a19, nw_cells, new_m, set_m, new_nx']) | ((first | refine awp_reg ?_ | refine awp_drawT (fun _ => false) mixed (by decide +kernel) ?_ | refine awp_drawT isCallO mixed (by decide +kernel) ?_); simp [-cellOK, a1, a4, a17, a18, a19, nw_cells]) | (refine guarded_split ?_ ?_ <;> (intro hg; simp only [hg]; simp [-cellOK, a1, a4, a17, a18, a19, nw_cells])) | (apply awp_cond_t; focus (simp [-cellOK, a1, a4, a17, a18, a19, nw_cells]; done)) | (apply awp_cond_f; focus (simp [-cellOK, a1, a4, a17, a18, a19, nw_cells]; done)) | (refine awp_cond ?_; simp [-cellOK, a1, a4, a17, a18, a19, nw_cells]; refine ⟨?_, ?_⟩ <;> intro hc) | fail)
    refine awp_loopH (fun n' B ρ => Ext σ ρ ∧ B 4 = .rp ⟨15, σ.nx 15, 5⟩ 0 0 ∧ B 40 = .raw (.int .i64 n.t.ports.length) ∧ ∃ (i : Nat) (v : AV), B 41 = .raw (.int .i64 i) ∧ i ≤ n.t.ports.length ∧ n' = n.t.ports.length - i ∧ ρ.m ⟨15, σ.nx 15, 5⟩ = some (.buf [.agg [intsAV n.t.ports false, linksAV n.t.links false, rulesAV n.rules false, tabO T, v]]) ∧ OwnL σ ρ 1 v (((List.range i).map fun d : Nat => rowL n T d).map inAV)) n.t.ports.length ?_ ?_
    · exact ⟨hE, by simp [a4], by simp [intsAV], 0, .sl 0 [] true, by simp, by omega, by omega, mj, .inl ⟨by simp, rfl⟩⟩
    clear hE a1 a4 a17 a18 a19 mj hI1
    rintro n' B ρ ⟨hE, a4, a40, i, v, a41, hi, rfl, mj, hO⟩ I2 hI2
    by_cases hlt : i < n.t.ports.length
    · have w1 : IntKind.i64.wrap ((i : Int) + 1) = ((i + 1 : Nat) : Int) := by rw [wrap64 (by omega) (by omega)]; omega
      have hrow := row_calls n flN T i hn hz
      have hfl : AV.agg [intsAV n.t.ports false, linksAV n.t.links false, rulesAV n.rules false] = nwAV n flN := rfl
      have hc1 : ∀ l, (intsAV l false).cells = [intsAV l false] := fun _ => rfl
      have hc2 : ∀ l, cellOK (intsAV l false) = true := fun _ => rfl
      (try ((first | with_reducible refine dops_go ?_ | with_reducible refine OKv_go ?_ | with_reducible refine OKr_go ?_); simp [-cellOK, a4, a40, a41, hlt, hfl, hc1, hc2, new_m, set_m, new_nx', mj, -opAppend])); repeat' (first | refine awp_seq ?_ | refine awp_block ?_ | (refine awp_skip ?_; try simp) | (refine awp_exit ?_; try simp) | (refine awp_ret ?_; try simp) | (refine retP_same (by simp) ?_; simp) | (refine retP_no (by simp) (by simp [noIds]) (by repeat (first | assumption | exact Ext.refl _ | refine ext_new' ?_ | refine Ext.setF ?_ (by first | assumption | (simp [new_nx', St.set, fresh_none]; done) | exact ext_fresh (by assumption)))) ?_; simp [-cellOK, a4, a40, a41, hlt, hfl, hc1, hc2, new_m, set_m, new_nx', mj, -opAppend, new_m, set_m, new_nx']) | ((first | refine awp_reg ?_ | refine awp_drawT (fun _ => false) mixed (by decide +kernel) ?_ | refine awp_drawT isCallO mixed (by decide +kernel) ?_ | refine PCalls.use (hrow) ?_ | refine Or.inl ⟨_, Or.inl (hrow), ?_⟩); simp [-cellOK, a4, a40, a41, hlt, hfl, hc1, hc2, new_m, set_m, new_nx', mj, -opAppend]) | (refine guarded_split ?_ ?_ <;> (intro hg; simp only [hg]; simp [-cellOK, a4, a40, a41, hlt, hfl, hc1, hc2, new_m, set_m, new_nx', mj, -opAppend])) | (apply awp_cond_t; focus (simp [-cellOK, a4, a40, a41, hlt, hfl, hc1, hc2, new_m, set_m, new_nx', mj, -opAppend]; done)) | (apply awp_cond_f; focus (simp [-cellOK, a4, a40, a41, hlt, hfl, hc1, hc2, new_m, set_m, new_nx', mj, -opAppend]; done)) | (refine awp_cond ?_; simp [-cellOK, a4, a40, a41, hlt, hfl, hc1, hc2, new_m, set_m, new_nx', mj, -opAppend]; refine ⟨?_, ?_⟩ <;> intro hc) | fail)
      refine okr_append slt119 (σ0 := σ) (hO.ext (by repeat (first | assumption | exact Ext.refl _ | refine ext_new' ?_ | refine Ext.setF ?_ (by first | assumption | (simp [new_nx', St.set, fresh_none]; done) | exact ext_fresh (by assumption))))) (by repeat (first | assumption | exact Ext.refl _ | refine ext_new' ?_ | refine Ext.setF ?_ (by first | assumption | (simp [new_nx', St.set, fresh_none]; done) | exact ext_fresh (by assumption)))) (ys := [inAV (rowL n T i)]) (by simp [new_m, new_nx', inAV]) (.inr rfl) (by simp [inAV, intsAV, cellsL, cellsOK, cellOK, AV.cells]) (by simp; omega) ?_
      intro v' τ' hO' hE' hk hnx
      obtain ⟨kj, _⟩ := hk ⟨15, σ.nx 15, 5⟩ _ (new_up _ _ mj) (hO.ne_sz (by simp))
      clear hk
      have hv1 := hO'.cells
      have hv2 := hO'.cellOK
      (try ((first | with_reducible refine dops_go ?_ | with_reducible refine OKv_go ?_ | with_reducible refine OKr_go ?_); simp [-cellOK, a4, a40, a41, w1, kj, hv1, hv2, new_m, set_m, new_nx'])); repeat' (first | refine awp_seq ?_ | refine awp_block ?_ | (refine awp_skip ?_; try simp) | (refine awp_exit ?_; try simp) | (refine awp_ret ?_; try simp) | (refine retP_same (by simp) ?_; simp) | (refine retP_no (by simp) (by simp [noIds]) (by repeat (first | assumption | exact Ext.refl _ | refine ext_new' ?_ | refine Ext.setF ?_ (by first | assumption | (simp [new_nx', St.set, fresh_none]; done) | exact ext_fresh (by assumption)))) ?_; simp [-cellOK, a4, a40, a41, w1, kj, hv1, hv2, new_m, set_m, new_nx', new_m, set_m, new_nx']) | ((first | refine awp_reg ?_ | refine awp_drawT (fun _ => false) mixed (by decide +kernel) ?_ | refine awp_drawT isCallO mixed (by decide +kernel) ?_); simp [-cellOK, a4, a40, a41, w1, kj, hv1, hv2, new_m, set_m, new_nx']) | (refine guarded_split ?_ ?_ <;> (intro hg; simp only [hg]; simp [-cellOK, a4, a40, a41, w1, kj, hv1, hv2, new_m, set_m, new_nx'])) | (apply awp_cond_t; focus (simp [-cellOK, a4, a40, a41, w1, kj, hv1, hv2, new_m, set_m, new_nx']; done)) | (apply awp_cond_f; focus (simp [-cellOK, a4, a40, a41, w1, kj, hv1, hv2, new_m, set_m, new_nx']; done)) | (refine awp_cond ?_; simp [-cellOK, a4, a40, a41, w1, kj, hv1, hv2, new_m, set_m, new_nx']; refine ⟨?_, ?_⟩ <;> intro hc) | fail)
      refine hI2 (n.t.ports.length - (i + 1)) _ _ (by omega) ⟨Ext.setF hE' f15, by simp [a4], by simp [a40], i + 1, v', by simp, by omega, rfl, by simp [kj, set_m], ?_⟩
      rw [List.range_succ, List.map_append, List.map_append]
      exact hO'.set (hO'.ne_sz (by simp))
    · have : i = n.t.ports.length := by omega
      subst this
      refine awp_freeze ⟨15, σ.nx 15, 5⟩ ?_
      rcases hO with ⟨hes, rfl⟩ | ⟨k, rfl, hk1, hk2, hk3⟩
      · exfalso
        have := congrArg List.length hes
        simp at this
        rw [this] at hpos
        simp at hpos
      · have hkj : k ≠ ⟨15, σ.nx 15, 5⟩ := fun e => by rw [e] at hk1; cases hk1
        refine awp_freezeD k ?_
        have g1 : ∀ (m m' : Mem) l b, giveUp m' m (intsAV l b) = intsAV l b := fun _ _ _ _ => rfl
        have g2 : ∀ (m m' : Mem) l b, giveUp m' m (linksAV l b) = linksAV l b := fun _ _ _ _ => rfl
        have g3 : ∀ (m m' : Mem) l b, giveUp m' m (rulesAV l b) = rulesAV l b := fun _ _ _ _ => rfl
        have g4 : ∀ (m m' : Mem), giveUp m' m (tabO T) = tabO T := fun _ _ => by cases T <;> rfl
        have f4 : giveUpD ((ρ.del ⟨15, σ.nx 15, 5⟩).del k).m (ρ.del ⟨15, σ.nx 15, 5⟩).m (giveUp (ρ.del ⟨15, σ.nx 15, 5⟩).m ρ.m (B 4)) = labO (some ⟨n, T, (List.range n.t.ports.length).map fun d : Nat => rowL n T d⟩) := by
          rw [a4, giveUp_rp_made (by simp [St.del]) mj rfl]
          simp only [giveUpD, AV.cells, List.map_cons, List.map_nil, labO, labC, g1, g2, g3, g4]
          rw [giveUp_rs_made (by simp [St.del]) (by rw [del_other hkj]; exact hk2) (by simp), hk1]
          simp
          exact List.take_of_length_le (by simp)
        generalize hπ : (ρ.del ⟨15, σ.nx 15, 5⟩).del k = π
        generalize hA : (fun t => giveUpD _ _ _) = A
        have b4 : A 4 = labO (some ⟨n, T, (List.range n.t.ports.length).map fun d : Nat => rowL n T d⟩) := by rw [← hA, ← hπ]; exact f4
        have b40 : A 40 = .raw (.int .i64 n.t.ports.length) := by rw [← hA]; simp [a40, giveUpD, giveUp]
        have b41 : A 41 = .raw (.int .i64 n.t.ports.length) := by rw [← hA]; simp [a41, giveUpD, giveUp]
        have hEp : Ext σ π := by
          rw [← hπ]
          refine ⟨fun i o h => ?_, hE.nx⟩
          rw [del_other (fun e => by rw [e, hk3] at h; cases h), del_other (fun e => by rw [e, f15] at h; cases h)]
          exact hE.m i o h
        clear hπ hA f4 hE a4 a40 a41 mj hI2
        generalize (⟨n, T, (List.range n.t.ports.length).map fun d : Nat => rowL n T d⟩ : Lab) = R at b4 ⊢
        (try ((first | with_reducible refine dops_go ?_ | with_reducible refine OKv_go ?_ | with_reducible refine OKr_go ?_); simp [-cellOK, b4, b40, b41])); repeat' (first | refine awp_seq ?_ | refine awp_block ?_ | (refine awp_skip ?_; try simp) | (refine awp_exit ?_; try simp) | (refine awp_ret ?_; try simp) | (refine retP_same (by simp) ?_; simp) | (refine retP_no (by simp) (by simp [noIds]) (by repeat (first | assumption | exact Ext.refl _ | refine ext_new' ?_ | refine Ext.setF ?_ (by first | assumption | (simp [new_nx', St.set, fresh_none]; done) | exact ext_fresh (by assumption)))) ?_; simp [-cellOK, b4, b40, b41, new_m, set_m, new_nx']) | ((first | refine awp_reg ?_ | refine awp_drawT (fun _ => false) mixed (by decide +kernel) ?_ | refine awp_drawT isCallO mixed (by decide +kernel) ?_); simp [-cellOK, b4, b40, b41]) | (refine guarded_split ?_ ?_ <;> (intro hg; simp only [hg]; simp [-cellOK, b4, b40, b41])) | (apply awp_cond_t; focus (simp [-cellOK, b4, b40, b41]; done)) | (apply awp_cond_f; focus (simp [-cellOK, b4, b40, b41]; done)) | (refine awp_cond ?_; simp [-cellOK, b4, b40, b41]; refine ⟨?_, ?_⟩ <;> intro hc) | fail)
end Go.Proofs.YtanimmdlgmkmkaaGreat.Av


/- label: what labels tell. -/
namespace Go.Proofs.YtanimmdlgmkmkaaGreat.Av
open Go
set_option linter.unusedSimpArgs false
set_option linter.unusedVariables false
set_option maxRecDepth 100000
set_option maxHeartbeats 4000000
set_option pp.maxSteps 600

theorem labAtoms_calls (L : Option Lab) : PCalls Tryz.prog 28 [labO L] (.raw (.int .i64 (match L with | none => 0 | some L => (L.t.getD newTab).b.sz))) := by
  cases L with
  | none =>
    refine pbody Tryz.func28 rfl (N := 10) rfl rfl (by simp) (by simp [noIds]) fun σ => ?_
    (try ((first | with_reducible refine dops_go ?_ | with_reducible refine OKv_go ?_ | with_reducible refine OKr_go ?_); simp [-cellOK, labO])); repeat' (first | refine awp_seq ?_ | refine awp_block ?_ | (refine awp_skip ?_; try simp) | (refine awp_exit ?_; try simp) | (refine awp_ret ?_; try simp) | (refine retP_same (by simp) ?_; simp) | (refine retP_no (by simp) (by simp [noIds]) (by repeat (first | assumption | exact Ext.refl _ | refine ext_new' ?_ | refine Ext.setF ?_ (by first | assumption | (simp [new_nx', St.set, fresh_none]; done) | exact ext_fresh (by assumption)))) ?_; simp [-cellOK, labO, new_m, set_m, new_nx']) | ((first | refine awp_reg ?_ | refine awp_drawT (fun _ => false) mixed (by decide +kernel) ?_ | refine awp_drawT isCallO mixed (by decide +kernel) ?_); simp [-cellOK, labO]) | (refine guarded_split ?_ ?_ <;> (intro hg; simp only [hg]; simp [-cellOK, labO])) | (apply awp_cond_t; focus (simp [-cellOK, labO]; done)) | (apply awp_cond_f; focus (simp [-cellOK, labO]; done)) | (refine awp_cond ?_; simp [-cellOK, labO]; refine ⟨?_, ?_⟩ <;> intro hc) | fail)
  | some L =>
    have h := tabLen_calls L.t
    refine pbody Tryz.func28 rfl (N := 10) rfl rfl (by simp) (by simp [noIds]) fun σ => ?_
    (try ((first | with_reducible refine dops_go ?_ | with_reducible refine OKv_go ?_ | with_reducible refine OKr_go ?_); simp [-cellOK, labO, labC])); repeat' (first | refine awp_seq ?_ | refine awp_block ?_ | (refine awp_skip ?_; try simp) | (refine awp_exit ?_; try simp) | (refine awp_ret ?_; try simp) | (refine retP_same (by simp) ?_; simp) | (refine retP_no (by simp) (by simp [noIds]) (by repeat (first | assumption | exact Ext.refl _ | refine ext_new' ?_ | refine Ext.setF ?_ (by first | assumption | (simp [new_nx', St.set, fresh_none]; done) | exact ext_fresh (by assumption)))) ?_; simp [-cellOK, labO, labC, new_m, set_m, new_nx']) | ((first | refine awp_reg ?_ | refine awp_drawT (fun _ => false) mixed (by decide +kernel) ?_ | refine awp_drawT isCallO mixed (by decide +kernel) ?_ | refine PCalls.use (h) ?_ | refine Or.inl ⟨_, Or.inl (h), ?_⟩); simp [-cellOK, labO, labC]) | (refine guarded_split ?_ ?_ <;> (intro hg; simp only [hg]; simp [-cellOK, labO, labC])) | (apply awp_cond_t; focus (simp [-cellOK, labO, labC]; done)) | (apply awp_cond_f; focus (simp [-cellOK, labO, labC]; done)) | (refine awp_cond ?_; simp [-cellOK, labO, labC]; refine ⟨?_, ?_⟩ <;> intro hc) | fail)
theorem labAtom_calls (L : Option Lab) (i : Int) (hz : ∀ M, L = some M → (M.t.getD newTab).b.sz < 2 ^ 40) :
    PCalls Tryz.prog 72 [labO L, .raw (.int .i64 i)] (.tup [rgAV ((L.bind fun M => atomT M.t i).getD ⟨0, 0⟩), .raw (.bool (L.bind fun M => atomT M.t i).isSome)]) := by
  cases L with
  | none =>
    refine pbody Tryz.func72 rfl (N := 17) rfl rfl (by simp) (by simp [noIds]) fun σ => ?_
    (try ((first | with_reducible refine dops_go ?_ | with_reducible refine OKv_go ?_ | with_reducible refine OKr_go ?_); simp [-cellOK, labO, rgAV, new_m, set_m, new_nx'])); repeat' (first | refine awp_seq ?_ | refine awp_block ?_ | (refine awp_skip ?_; try simp) | (refine awp_exit ?_; try simp) | (refine awp_ret ?_; try simp) | (refine retP_same (by simp) ?_; simp) | (refine retP_no (by simp) (by simp [noIds]) (by repeat (first | assumption | exact Ext.refl _ | refine ext_new' ?_ | refine Ext.setF ?_ (by first | assumption | (simp [new_nx', St.set, fresh_none]; done) | exact ext_fresh (by assumption)))) ?_; simp [-cellOK, labO, rgAV, new_m, set_m, new_nx', new_m, set_m, new_nx']) | ((first | refine awp_reg ?_ | refine awp_drawT (fun _ => false) mixed (by decide +kernel) ?_ | refine awp_drawT isCallO mixed (by decide +kernel) ?_); simp [-cellOK, labO, rgAV, new_m, set_m, new_nx']) | (refine guarded_split ?_ ?_ <;> (intro hg; simp only [hg]; simp [-cellOK, labO, rgAV, new_m, set_m, new_nx'])) | (apply awp_cond_t; focus (simp [-cellOK, labO, rgAV, new_m, set_m, new_nx']; done)) | (apply awp_cond_f; focus (simp [-cellOK, labO, rgAV, new_m, set_m, new_nx']; done)) | (refine awp_cond ?_; simp [-cellOK, labO, rgAV, new_m, set_m, new_nx']; refine ⟨?_, ?_⟩ <;> intro hc) | fail)
  | some L =>
    have h := atom_calls L.t i (hz L rfl)
    show PCalls _ _ _ (.tup [rgAV ((atomT L.t i).getD ⟨0, 0⟩), .raw (.bool (atomT L.t i).isSome)])
    generalize (atomT L.t i).getD ⟨0, 0⟩ = r at h ⊢
    generalize (atomT L.t i).isSome = b at h ⊢
    have hr : AV.agg [.raw (.int .u32 r.lo), .raw (.int .u32 r.hi)] = rgAV r := rfl
    refine pbody Tryz.func72 rfl (N := 17) rfl rfl (by simp) (by simp [noIds]) fun σ => ?_
    (try ((first | with_reducible refine dops_go ?_ | with_reducible refine OKv_go ?_ | with_reducible refine OKr_go ?_); simp [-cellOK, labO, labC, hr, rg_cells, new_m, set_m, new_nx'])); repeat' (first | refine awp_seq ?_ | refine awp_block ?_ | (refine awp_skip ?_; try simp) | (refine awp_exit ?_; try simp) | (refine awp_ret ?_; try simp) | (refine retP_same (by simp) ?_; simp) | (refine retP_no (by simp) (by simp [noIds]) (by repeat (first | assumption | exact Ext.refl _ | refine ext_new' ?_ | refine Ext.setF ?_ (by first | assumption | (simp [new_nx', St.set, fresh_none]; done) | exact ext_fresh (by assumption)))) ?_; simp [-cellOK, labO, labC, hr, rg_cells, new_m, set_m, new_nx', new_m, set_m, new_nx']) | ((first | refine awp_reg ?_ | refine awp_drawT (fun _ => false) mixed (by decide +kernel) ?_ | refine awp_drawT isCallO mixed (by decide +kernel) ?_ | refine PCalls.use (h) ?_ | refine Or.inl ⟨_, Or.inl (h), ?_⟩); simp [-cellOK, labO, labC, hr, rg_cells, new_m, set_m, new_nx']) | (refine guarded_split ?_ ?_ <;> (intro hg; simp only [hg]; simp [-cellOK, labO, labC, hr, rg_cells, new_m, set_m, new_nx'])) | (apply awp_cond_t; focus (simp [-cellOK, labO, labC, hr, rg_cells, new_m, set_m, new_nx']; done)) | (apply awp_cond_f; focus (simp [-cellOK, labO, labC, hr, rg_cells, new_m, set_m, new_nx']; done)) | (refine awp_cond ?_; simp [-cellOK, labO, labC, hr, rg_cells, new_m, set_m, new_nx']; refine ⟨?_, ?_⟩ <;> intro hc) | fail)
def atLab (L : Lab) (d a : Int) : Option Int := if 0 ≤ d ∧ 0 ≤ a then (L.rows[d.toNat]?).bind fun r => r[a.toNat]? else none
theorem labAt_calls (L : Lab) (d a : Int) (hl : L.rows.length < 2 ^ 60) (hr : ∀ r ∈ L.rows, r.length < 2 ^ 60) :
    PCalls Tryz.prog 27 [labO (some L), .raw (.int .i64 d), .raw (.int .i64 a)] (.tup [.raw (.int .i64 ((atLab L d a).getD 0)), .raw (.bool (atLab L d a).isSome)]) := by
  unfold atLab
  refine pbody Tryz.func27 rfl (N := 49) rfl rfl (by simp) (by simp [noIds]) fun σ => ?_
  by_cases h1 : d < 0
  · have h2 : ¬ (0 ≤ d ∧ 0 ≤ a) := by omega
    rw [if_neg h2]
    (try ((first | with_reducible refine dops_go ?_ | with_reducible refine OKv_go ?_ | with_reducible refine OKr_go ?_); simp [-cellOK, labO, labC, h1])); repeat' (first | refine awp_seq ?_ | refine awp_block ?_ | (refine awp_skip ?_; try simp) | (refine awp_exit ?_; try simp) | (refine awp_ret ?_; try simp) | (refine retP_same (by simp) ?_; simp) | (refine retP_no (by simp) (by simp [noIds]) (by repeat (first | assumption | exact Ext.refl _ | refine ext_new' ?_ | refine Ext.setF ?_ (by first | assumption | (simp [new_nx', St.set, fresh_none]; done) | exact ext_fresh (by assumption)))) ?_; simp [-cellOK, labO, labC, h1, new_m, set_m, new_nx']) | ((first | refine awp_reg ?_ | refine awp_drawT (fun _ => false) mixed (by decide +kernel) ?_ | refine awp_drawT isCallO mixed (by decide +kernel) ?_); simp [-cellOK, labO, labC, h1]) | (refine guarded_split ?_ ?_ <;> (intro hg; simp only [hg]; simp [-cellOK, labO, labC, h1])) | (apply awp_cond_t; focus (simp [-cellOK, labO, labC, h1]; done)) | (apply awp_cond_f; focus (simp [-cellOK, labO, labC, h1]; done)) | (refine awp_cond ?_; simp [-cellOK, labO, labC, h1]; refine ⟨?_, ?_⟩ <;> intro hc) | fail)
  obtain ⟨i, rfl⟩ : ∃ i : Nat, d = i := ⟨d.toNat, by omega⟩
  by_cases h3 : i < L.rows.length
  · have h3' : ¬ L.rows.length ≤ i := by omega
    obtain ⟨r, hx⟩ : ∃ r, L.rows[i] = r := ⟨_, rfl⟩
    have hx' : L.rows[i]? = some r := by rw [List.getElem?_eq_getElem h3, hx]
    by_cases h4 : a < 0
    · have h2 : ¬ (0 ≤ (i : Int) ∧ 0 ≤ a) := by omega
      rw [if_neg h2]
      (try ((first | with_reducible refine dops_go ?_ | with_reducible refine OKv_go ?_ | with_reducible refine OKr_go ?_); simp [-cellOK, labO, labC, inAV, intsAV, h3, h3', h4, hx, hx'])); repeat' (first | refine awp_seq ?_ | refine awp_block ?_ | (refine awp_skip ?_; try simp) | (refine awp_exit ?_; try simp) | (refine awp_ret ?_; try simp) | (refine retP_same (by simp) ?_; simp) | (refine retP_no (by simp) (by simp [noIds]) (by repeat (first | assumption | exact Ext.refl _ | refine ext_new' ?_ | refine Ext.setF ?_ (by first | assumption | (simp [new_nx', St.set, fresh_none]; done) | exact ext_fresh (by assumption)))) ?_; simp [-cellOK, labO, labC, inAV, intsAV, h3, h3', h4, hx, hx', new_m, set_m, new_nx']) | ((first | refine awp_reg ?_ | refine awp_drawT (fun _ => false) mixed (by decide +kernel) ?_ | refine awp_drawT isCallO mixed (by decide +kernel) ?_); simp [-cellOK, labO, labC, inAV, intsAV, h3, h3', h4, hx, hx']) | (refine guarded_split ?_ ?_ <;> (intro hg; simp only [hg]; simp [-cellOK, labO, labC, inAV, intsAV, h3, h3', h4, hx, hx'])) | (apply awp_cond_t; focus (simp [-cellOK, labO, labC, inAV, intsAV, h3, h3', h4, hx, hx']; done)) | (apply awp_cond_f; focus (simp [-cellOK, labO, labC, inAV, intsAV, h3, h3', h4, hx, hx']; done)) | (refine awp_cond ?_; simp [-cellOK, labO, labC, inAV, intsAV, h3, h3', h4, hx, hx']; refine ⟨?_, ?_⟩ <;> intro hc) | fail)
    obtain ⟨k, rfl⟩ : ∃ k : Nat, a = k := ⟨a.toNat, by omega⟩
    have h2 : (0 ≤ (i : Int) ∧ 0 ≤ (k : Int)) := by omega
    rw [if_pos h2, Int.toNat_natCast, Int.toNat_natCast, hx', Option.bind_some]
    by_cases h5 : k < r.length
    · have h5' : ¬ r.length ≤ k := by omega
      obtain ⟨x, hy⟩ : ∃ x, r[k] = x := ⟨_, rfl⟩
      have hy' : r[k]? = some x := by rw [List.getElem?_eq_getElem h5, hy]
      rw [hy']
      (try ((first | with_reducible refine dops_go ?_ | with_reducible refine OKv_go ?_ | with_reducible refine OKr_go ?_); simp [-cellOK, labO, labC, inAV, intsAV, iAV, h3, h3', hx, hx', h5, h5', hy, hy'])); repeat' (first | refine awp_seq ?_ | refine awp_block ?_ | (refine awp_skip ?_; try simp) | (refine awp_exit ?_; try simp) | (refine awp_ret ?_; try simp) | (refine retP_same (by simp) ?_; simp) | (refine retP_no (by simp) (by simp [noIds]) (by repeat (first | assumption | exact Ext.refl _ | refine ext_new' ?_ | refine Ext.setF ?_ (by first | assumption | (simp [new_nx', St.set, fresh_none]; done) | exact ext_fresh (by assumption)))) ?_; simp [-cellOK, labO, labC, inAV, intsAV, iAV, h3, h3', hx, hx', h5, h5', hy, hy', new_m, set_m, new_nx']) | ((first | refine awp_reg ?_ | refine awp_drawT (fun _ => false) mixed (by decide +kernel) ?_ | refine awp_drawT isCallO mixed (by decide +kernel) ?_); simp [-cellOK, labO, labC, inAV, intsAV, iAV, h3, h3', hx, hx', h5, h5', hy, hy']) | (refine guarded_split ?_ ?_ <;> (intro hg; simp only [hg]; simp [-cellOK, labO, labC, inAV, intsAV, iAV, h3, h3', hx, hx', h5, h5', hy, hy'])) | (apply awp_cond_t; focus (simp [-cellOK, labO, labC, inAV, intsAV, iAV, h3, h3', hx, hx', h5, h5', hy, hy']; done)) | (apply awp_cond_f; focus (simp [-cellOK, labO, labC, inAV, intsAV, iAV, h3, h3', hx, hx', h5, h5', hy, hy']; done)) | (refine awp_cond ?_; simp [-cellOK, labO, labC, inAV, intsAV, iAV, h3, h3', hx, hx', h5, h5', hy, hy']; refine ⟨?_, ?_⟩ <;> intro hc) | fail)
      all_goals (exfalso; simp only [Bool.not_false, decide_eq_true_eq] at hg; omega)
    · have h5' : r.length ≤ k := by omega
      have hy' : r[k]? = none := List.getElem?_eq_none (by omega)
      rw [hy']
      (try ((first | with_reducible refine dops_go ?_ | with_reducible refine OKv_go ?_ | with_reducible refine OKr_go ?_); simp [-cellOK, labO, labC, inAV, intsAV, iAV, h3, h3', hx, hx', h5, h5', hy'])); repeat' (first | refine awp_seq ?_ | refine awp_block ?_ | (refine awp_skip ?_; try simp) | (refine awp_exit ?_; try simp) | (refine awp_ret ?_; try simp) | (refine retP_same (by simp) ?_; simp) | (refine retP_no (by simp) (by simp [noIds]) (by repeat (first | assumption | exact Ext.refl _ | refine ext_new' ?_ | refine Ext.setF ?_ (by first | assumption | (simp [new_nx', St.set, fresh_none]; done) | exact ext_fresh (by assumption)))) ?_; simp [-cellOK, labO, labC, inAV, intsAV, iAV, h3, h3', hx, hx', h5, h5', hy', new_m, set_m, new_nx']) | ((first | refine awp_reg ?_ | refine awp_drawT (fun _ => false) mixed (by decide +kernel) ?_ | refine awp_drawT isCallO mixed (by decide +kernel) ?_); simp [-cellOK, labO, labC, inAV, intsAV, iAV, h3, h3', hx, hx', h5, h5', hy']) | (refine guarded_split ?_ ?_ <;> (intro hg; simp only [hg]; simp [-cellOK, labO, labC, inAV, intsAV, iAV, h3, h3', hx, hx', h5, h5', hy'])) | (apply awp_cond_t; focus (simp [-cellOK, labO, labC, inAV, intsAV, iAV, h3, h3', hx, hx', h5, h5', hy']; done)) | (apply awp_cond_f; focus (simp [-cellOK, labO, labC, inAV, intsAV, iAV, h3, h3', hx, hx', h5, h5', hy']; done)) | (refine awp_cond ?_; simp [-cellOK, labO, labC, inAV, intsAV, iAV, h3, h3', hx, hx', h5, h5', hy']; refine ⟨?_, ?_⟩ <;> intro hc) | fail)
  · have h3' : L.rows.length ≤ i := by omega
    have hx' : L.rows[i]? = none := List.getElem?_eq_none (by omega)
    have e : (if 0 ≤ (i : Int) ∧ 0 ≤ a then (L.rows[(i : Int).toNat]?).bind fun r => r[a.toNat]? else none) = none := by
      rw [Int.toNat_natCast, hx']; split <;> rfl
    rw [e]
    (try ((first | with_reducible refine dops_go ?_ | with_reducible refine OKv_go ?_ | with_reducible refine OKr_go ?_); simp [-cellOK, labO, labC, h3, h3', hx'])); repeat' (first | refine awp_seq ?_ | refine awp_block ?_ | (refine awp_skip ?_; try simp) | (refine awp_exit ?_; try simp) | (refine awp_ret ?_; try simp) | (refine retP_same (by simp) ?_; simp) | (refine retP_no (by simp) (by simp [noIds]) (by repeat (first | assumption | exact Ext.refl _ | refine ext_new' ?_ | refine Ext.setF ?_ (by first | assumption | (simp [new_nx', St.set, fresh_none]; done) | exact ext_fresh (by assumption)))) ?_; simp [-cellOK, labO, labC, h3, h3', hx', new_m, set_m, new_nx']) | ((first | refine awp_reg ?_ | refine awp_drawT (fun _ => false) mixed (by decide +kernel) ?_ | refine awp_drawT isCallO mixed (by decide +kernel) ?_); simp [-cellOK, labO, labC, h3, h3', hx']) | (refine guarded_split ?_ ?_ <;> (intro hg; simp only [hg]; simp [-cellOK, labO, labC, h3, h3', hx'])) | (apply awp_cond_t; focus (simp [-cellOK, labO, labC, h3, h3', hx']; done)) | (apply awp_cond_f; focus (simp [-cellOK, labO, labC, h3, h3', hx']; done)) | (refine awp_cond ?_; simp [-cellOK, labO, labC, h3, h3', hx']; refine ⟨?_, ?_⟩ <;> intro hc) | fail)
end Go.Proofs.YtanimmdlgmkmkaaGreat.Av


/- label: the document's answer at a device. -/
namespace Go.Proofs.YtanimmdlgmkmkaaGreat.Av
open Go
set_option linter.unusedSimpArgs false
set_option linter.unusedVariables false
set_option maxRecDepth 100000
set_option maxHeartbeats 4000000
set_option pp.maxSteps 600

def refAtI (n : Nw) (d a : Int) : Int := if (refStepF n d a).1 = 2 then -3 else if (refStepF n d a).1 = 1 then -2 else if (refStepF n d a).1 = 0 then -1 else (refStepF n d a).2.port
theorem refAt_eq {n : Nw} (h : rightN n = true) (d a : Int) : refAtI n d a = atI n d a := by
  unfold refAtI atI
  rw [step_eq h]
theorem refAt_calls (n : Nw) (f : Fl) (d a : Int) (hn : NwOK n) : PCalls Tryz.prog 82 [nwAV n f, .raw (.int .i64 d), .raw (.int .u32 a)] (.raw (.int .i64 (refAtI n d a))) := by
  have h1 := refStep_calls n f d a (by have := hn.links; omega) hn.rules
  unfold refAtI
  generalize refStepF n d a = s at h1 ⊢
  obtain ⟨k, p⟩ := s
  refine pbody Tryz.func82 rfl (N := 25) rfl rfl (by simp) (by simp [noIds]) fun σ => ?_
  by_cases k2 : k = 2
  · (try ((first | with_reducible refine dops_go ?_ | with_reducible refine OKv_go ?_ | with_reducible refine OKr_go ?_); simp [-cellOK, nw_cells, nw_fold, new_m, set_m, new_nx', k2])); repeat' (first | refine awp_seq ?_ | refine awp_block ?_ | (refine awp_skip ?_; try simp) | (refine awp_exit ?_; try simp) | (refine awp_ret ?_; try simp) | (refine retP_same (by simp) ?_; simp) | (refine retP_no (by simp) (by simp [noIds]) (by repeat (first | assumption | exact Ext.refl _ | refine ext_new' ?_ | refine Ext.setF ?_ (by first | assumption | (simp [new_nx', St.set, fresh_none]; done) | exact ext_fresh (by assumption)))) ?_; simp [-cellOK, nw_cells, nw_fold, new_m, set_m, new_nx', k2, new_m, set_m, new_nx']) | ((first | refine awp_reg ?_ | refine awp_drawT (fun _ => false) mixed (by decide +kernel) ?_ | refine awp_drawT isCallO mixed (by decide +kernel) ?_ | refine PCalls.use (h1) ?_ | refine Or.inl ⟨_, Or.inl (h1), ?_⟩); simp [-cellOK, nw_cells, nw_fold, new_m, set_m, new_nx', k2]) | (refine guarded_split ?_ ?_ <;> (intro hg; simp only [hg]; simp [-cellOK, nw_cells, nw_fold, new_m, set_m, new_nx', k2])) | (apply awp_cond_t; focus (simp [-cellOK, nw_cells, nw_fold, new_m, set_m, new_nx', k2]; done)) | (apply awp_cond_f; focus (simp [-cellOK, nw_cells, nw_fold, new_m, set_m, new_nx', k2]; done)) | (refine awp_cond ?_; simp [-cellOK, nw_cells, nw_fold, new_m, set_m, new_nx', k2]; refine ⟨?_, ?_⟩ <;> intro hc) | fail)
  by_cases k1 : k = 1
  · (try ((first | with_reducible refine dops_go ?_ | with_reducible refine OKv_go ?_ | with_reducible refine OKr_go ?_); simp [-cellOK, nw_cells, nw_fold, new_m, set_m, new_nx', k2, k1])); repeat' (first | refine awp_seq ?_ | refine awp_block ?_ | (refine awp_skip ?_; try simp) | (refine awp_exit ?_; try simp) | (refine awp_ret ?_; try simp) | (refine retP_same (by simp) ?_; simp) | (refine retP_no (by simp) (by simp [noIds]) (by repeat (first | assumption | exact Ext.refl _ | refine ext_new' ?_ | refine Ext.setF ?_ (by first | assumption | (simp [new_nx', St.set, fresh_none]; done) | exact ext_fresh (by assumption)))) ?_; simp [-cellOK, nw_cells, nw_fold, new_m, set_m, new_nx', k2, k1, new_m, set_m, new_nx']) | ((first | refine awp_reg ?_ | refine awp_drawT (fun _ => false) mixed (by decide +kernel) ?_ | refine awp_drawT isCallO mixed (by decide +kernel) ?_ | refine PCalls.use (h1) ?_ | refine Or.inl ⟨_, Or.inl (h1), ?_⟩); simp [-cellOK, nw_cells, nw_fold, new_m, set_m, new_nx', k2, k1]) | (refine guarded_split ?_ ?_ <;> (intro hg; simp only [hg]; simp [-cellOK, nw_cells, nw_fold, new_m, set_m, new_nx', k2, k1])) | (apply awp_cond_t; focus (simp [-cellOK, nw_cells, nw_fold, new_m, set_m, new_nx', k2, k1]; done)) | (apply awp_cond_f; focus (simp [-cellOK, nw_cells, nw_fold, new_m, set_m, new_nx', k2, k1]; done)) | (refine awp_cond ?_; simp [-cellOK, nw_cells, nw_fold, new_m, set_m, new_nx', k2, k1]; refine ⟨?_, ?_⟩ <;> intro hc) | fail)
  by_cases k0 : k = 0
  · (try ((first | with_reducible refine dops_go ?_ | with_reducible refine OKv_go ?_ | with_reducible refine OKr_go ?_); simp [-cellOK, nw_cells, nw_fold, new_m, set_m, new_nx', k2, k1, k0])); repeat' (first | refine awp_seq ?_ | refine awp_block ?_ | (refine awp_skip ?_; try simp) | (refine awp_exit ?_; try simp) | (refine awp_ret ?_; try simp) | (refine retP_same (by simp) ?_; simp) | (refine retP_no (by simp) (by simp [noIds]) (by repeat (first | assumption | exact Ext.refl _ | refine ext_new' ?_ | refine Ext.setF ?_ (by first | assumption | (simp [new_nx', St.set, fresh_none]; done) | exact ext_fresh (by assumption)))) ?_; simp [-cellOK, nw_cells, nw_fold, new_m, set_m, new_nx', k2, k1, k0, new_m, set_m, new_nx']) | ((first | refine awp_reg ?_ | refine awp_drawT (fun _ => false) mixed (by decide +kernel) ?_ | refine awp_drawT isCallO mixed (by decide +kernel) ?_ | refine PCalls.use (h1) ?_ | refine Or.inl ⟨_, Or.inl (h1), ?_⟩); simp [-cellOK, nw_cells, nw_fold, new_m, set_m, new_nx', k2, k1, k0]) | (refine guarded_split ?_ ?_ <;> (intro hg; simp only [hg]; simp [-cellOK, nw_cells, nw_fold, new_m, set_m, new_nx', k2, k1, k0])) | (apply awp_cond_t; focus (simp [-cellOK, nw_cells, nw_fold, new_m, set_m, new_nx', k2, k1, k0]; done)) | (apply awp_cond_f; focus (simp [-cellOK, nw_cells, nw_fold, new_m, set_m, new_nx', k2, k1, k0]; done)) | (refine awp_cond ?_; simp [-cellOK, nw_cells, nw_fold, new_m, set_m, new_nx', k2, k1, k0]; refine ⟨?_, ?_⟩ <;> intro hc) | fail)
  (try ((first | with_reducible refine dops_go ?_ | with_reducible refine OKv_go ?_ | with_reducible refine OKr_go ?_); simp [-cellOK, nw_cells, nw_fold, new_m, set_m, new_nx', k2, k1, k0, ptAV])); repeat' (first | refine awp_seq ?_ | refine awp_block ?_ | (refine awp_skip ?_; try simp) | (refine awp_exit ?_; try simp) | (refine awp_ret ?_; try simp) | (refine retP_same (by simp) ?_; simp) | (refine retP_no (by simp) (by simp [noIds]) (by repeat (first | assumption | exact Ext.refl _ | refine ext_new' ?_ | refine Ext.setF ?_ (by first | assumption | (simp [new_nx', St.set, fresh_none]; done) | exact ext_fresh (by assumption)))) ?_; simp [-cellOK, nw_cells, nw_fold, new_m, set_m, new_nx', k2, k1, k0, ptAV, new_m, set_m, new_nx']) | ((first | refine awp_reg ?_ | refine awp_drawT (fun _ => false) mixed (by decide +kernel) ?_ | refine awp_drawT isCallO mixed (by decide +kernel) ?_ | refine PCalls.use (h1) ?_ | refine Or.inl ⟨_, Or.inl (h1), ?_⟩); simp [-cellOK, nw_cells, nw_fold, new_m, set_m, new_nx', k2, k1, k0, ptAV]) | (refine guarded_split ?_ ?_ <;> (intro hg; simp only [hg]; simp [-cellOK, nw_cells, nw_fold, new_m, set_m, new_nx', k2, k1, k0, ptAV])) | (apply awp_cond_t; focus (simp [-cellOK, nw_cells, nw_fold, new_m, set_m, new_nx', k2, k1, k0, ptAV]; done)) | (apply awp_cond_f; focus (simp [-cellOK, nw_cells, nw_fold, new_m, set_m, new_nx', k2, k1, k0, ptAV]; done)) | (refine awp_cond ?_; simp [-cellOK, nw_cells, nw_fold, new_m, set_m, new_nx', k2, k1, k0, ptAV]; refine ⟨?_, ?_⟩ <;> intro hc) | fail)
end Go.Proofs.YtanimmdlgmkmkaaGreat.Av


/- label: a rule's place by its ID; a list without one of its rules; a network of one's own whose rules may be written. -/
namespace Go.Proofs.YtanimmdlgmkmkaaGreat.Av
open Go
set_option linter.unusedSimpArgs false
set_option linter.unusedVariables false
set_option maxRecDepth 100000
set_option maxHeartbeats 4000000
set_option pp.maxSteps 600

theorem findCmp_calls (r : Ru) (id : Int) : PCalls Tryz.prog 139 [ruAV r, .raw (.int .i64 id)] (.raw (.int .i64 (cmpI r.id id))) := by
  have h := compare_calls r.id id
  refine pbody Tryz.func139 rfl (N := 9) rfl rfl (by simp) (by simp [noIds]) fun σ => ?_
  (try ((first | with_reducible refine dops_go ?_ | with_reducible refine OKv_go ?_ | with_reducible refine OKr_go ?_); simp [-cellOK, ru_cells])); repeat' (first | refine awp_seq ?_ | refine awp_block ?_ | (refine awp_skip ?_; try simp) | (refine awp_exit ?_; try simp) | (refine awp_ret ?_; try simp) | (refine retP_same (by simp) ?_; simp) | (refine retP_no (by simp) (by simp [noIds]) (by repeat (first | assumption | exact Ext.refl _ | refine ext_new' ?_ | refine Ext.setF ?_ (by first | assumption | (simp [new_nx', St.set, fresh_none]; done) | exact ext_fresh (by assumption)))) ?_; simp [-cellOK, ru_cells, new_m, set_m, new_nx']) | ((first | refine awp_reg ?_ | refine awp_drawT (fun _ => false) mixed (by decide +kernel) ?_ | refine awp_drawT isCallO mixed (by decide +kernel) ?_ | refine PCalls.use (h) ?_ | refine Or.inl ⟨_, Or.inl (h), ?_⟩); simp [-cellOK, ru_cells]) | (refine guarded_split ?_ ?_ <;> (intro hg; simp only [hg]; simp [-cellOK, ru_cells])) | (apply awp_cond_t; focus (simp [-cellOK, ru_cells]; done)) | (apply awp_cond_f; focus (simp [-cellOK, ru_cells]; done)) | (refine awp_cond ?_; simp [-cellOK, ru_cells]; refine ⟨?_, ?_⟩ <;> intro hc) | fail)
theorem fdiv2 (i j : Nat) : ((i : Int) + j).fdiv 2 = ((i + j) / 2 : Nat) := by
  rw [Int.fdiv_eq_ediv_of_nonneg _ (by omega)]; omega
/-- Where what is searched begins. -/
def firstGe (c : Ru → Int) (z : List Ru) : Nat := z.findIdx fun r => decide (0 ≤ c r)
theorem ruSearch_calls (g : FuncId) (c : Ru → Int) (z : List Ru) (fz : Bool) (a : Int) (hl : z.length < 2 ^ 60)
    (hg : ∀ r ∈ z, PCalls Tryz.prog g [ruAV r, .raw (.int .i64 a)] (.raw (.int .i64 (c r))))
    (hm : ∀ (i j : Nat) r s, i < j → z[i]? = some r → z[j]? = some s → c s < 0 → c r < 0) :
    PCalls Tryz.prog 138 [rulesAV z fz, .raw (.int .i64 a), .fn (.func g) [] []] (.tup [.raw (.int .i64 (firstGe c z)), .raw (.bool (match z[firstGe c z]? with | some r => decide (c r = 0) | none => false))]) := by
  refine pbody Tryz.func138 rfl (N := 49) rfl rfl (by simp) (by simp [noIds]) fun σ => ?_
  (try (first | (with_reducible refine dops_go ?_; simp [rulesAV]) | (with_reducible refine OKv_go ?_; simp [rulesAV]) | (with_reducible refine OKr_go ?_; simp [rulesAV]))); repeat' (first | refine awp_seq ?_ | refine awp_block ?_ | (refine awp_skip ?_; try simp) | (refine awp_exit ?_; try simp) | (refine awp_ret ?_; try simp) | (refine retP_same (by simp) ?_; simp) | (refine retP_flat (by simp) (by simp) (by simp (maxDischargeDepth := 30) [rulesAV]) ?_; simp) | (refine awp_reg ?_; simp [rulesAV]) | (refine awp_drawT (fun _ => false) mixed (by decide +kernel) ?_; simp [rulesAV]) | (refine guarded_split ?_ ?_ <;> (intro hg; simp only [hg]; simp [rulesAV])) | (apply awp_cond_t; focus (simp [rulesAV]; done)) | (apply awp_cond_f; focus (simp [rulesAV]; done)) | (refine awp_cond ?_; simp [rulesAV]; refine ⟨?_, ?_⟩ <;> intro hc))
  refine awp_loop (fun n A τ => τ = σ ∧ A 0 = rulesAV z fz ∧ A 1 = .raw (.int .i64 a) ∧ A 2 = .fn (.func g) [] [] ∧ A 8 = .raw (.int .i64 z.length) ∧ ∃ i j : Nat, A 9 = .raw (.int .i64 i) ∧ A 10 = .raw (.int .i64 j) ∧ i ≤ j ∧ j ≤ z.length ∧ n = j - i ∧
    (∀ k r, k < i → z[k]? = some r → c r < 0) ∧ (∀ k r, j ≤ k → z[k]? = some r → 0 ≤ c r)) z.length ?_ ?_
  · simp [rulesAV]
    refine ⟨0, by simp, z.length, by simp, by omega, by omega, by omega, fun k r h => by omega, fun k r h hk => ?_⟩
    have := (List.getElem?_eq_some_iff.1 hk).1; omega
  rintro n A τ ⟨rfl, a0, a1, a2, a8, i, j, a9, a10, hij, hj, rfl, hlo, hhi⟩
  by_cases hlt : i < j
  · have hh : (i + j) / 2 < z.length := by omega
    have hx : z[(i + j) / 2]? = some z[(i + j) / 2] := List.getElem?_eq_getElem hh
    have w1 : IntKind.i64.wrap ((i : Int) + j) = (i : Int) + j := wrap64 (by omega) (by omega)
    have w2 : IntKind.u64.wrap ((i : Int) + j) = (i : Int) + j := wrapU64 (by omega) (by omega)
    have w3 := fdiv2 i j
    have w4 : IntKind.i64.wrap (((i + j) / 2 : Nat) : Int) = (((i + j) / 2 : Nat) : Int) := wrap64 (by omega) (by omega)
    have w5 : IntKind.i64.wrap ((((i + j) / 2 : Nat) : Int) + 1) = ((((i + j) / 2 : Nat) : Int) + 1) := wrap64 (by omega) (by omega)
    generalize hk : (i + j) / 2 = k at *
    (try (first | (with_reducible refine dops_go ?_; simp [a0, a1, a2, a8, a9, a10, rulesAV, hlt, hx, w1, w2, w3, w4, w5, IntKind.bits, ru_cells, ru_fold]) | (with_reducible refine OKv_go ?_; simp [a0, a1, a2, a8, a9, a10, rulesAV, hlt, hx, w1, w2, w3, w4, w5, IntKind.bits, ru_cells, ru_fold]) | (with_reducible refine OKr_go ?_; simp [a0, a1, a2, a8, a9, a10, rulesAV, hlt, hx, w1, w2, w3, w4, w5, IntKind.bits, ru_cells, ru_fold]))); repeat' (first | refine awp_seq ?_ | refine awp_block ?_ | (refine awp_skip ?_; try simp) | (refine awp_exit ?_; try simp) | (refine awp_ret ?_; try simp) | (refine retP_same (by simp) ?_; simp) | (refine retP_flat (by simp) (by simp) (by simp (maxDischargeDepth := 30) [a0, a1, a2, a8, a9, a10, rulesAV, hlt, hx, w1, w2, w3, w4, w5, IntKind.bits, ru_cells, ru_fold]) ?_; simp) | (refine awp_reg ?_; simp [a0, a1, a2, a8, a9, a10, rulesAV, hlt, hx, w1, w2, w3, w4, w5, IntKind.bits, ru_cells, ru_fold]) | (refine awp_drawT (fun _ => false) mixed (by decide +kernel) ?_; simp [a0, a1, a2, a8, a9, a10, rulesAV, hlt, hx, w1, w2, w3, w4, w5, IntKind.bits, ru_cells, ru_fold]) | (refine guarded_split ?_ ?_ <;> (intro hg; simp only [hg]; simp [a0, a1, a2, a8, a9, a10, rulesAV, hlt, hx, w1, w2, w3, w4, w5, IntKind.bits, ru_cells, ru_fold])) | (apply awp_cond_t; focus (simp [a0, a1, a2, a8, a9, a10, rulesAV, hlt, hx, w1, w2, w3, w4, w5, IntKind.bits, ru_cells, ru_fold]; done)) | (apply awp_cond_f; focus (simp [a0, a1, a2, a8, a9, a10, rulesAV, hlt, hx, w1, w2, w3, w4, w5, IntKind.bits, ru_cells, ru_fold]; done)) | (refine awp_cond ?_; simp [a0, a1, a2, a8, a9, a10, rulesAV, hlt, hx, w1, w2, w3, w4, w5, IntKind.bits, ru_cells, ru_fold]; refine ⟨?_, ?_⟩ <;> intro hc))
    refine PCalls.use (hg z[k] (List.getElem_mem _)) ?_
    (try (first | (with_reducible refine dops_go ?_; simp [a0, a1, a2, a8, a9, a10, rulesAV, hlt, hx, w1, w2, w3, w4, w5, IntKind.bits, ru_cells, ru_fold]) | (with_reducible refine OKv_go ?_; simp [a0, a1, a2, a8, a9, a10, rulesAV, hlt, hx, w1, w2, w3, w4, w5, IntKind.bits, ru_cells, ru_fold]) | (with_reducible refine OKr_go ?_; simp [a0, a1, a2, a8, a9, a10, rulesAV, hlt, hx, w1, w2, w3, w4, w5, IntKind.bits, ru_cells, ru_fold]))); repeat' (first | refine awp_seq ?_ | refine awp_block ?_ | (refine awp_skip ?_; try simp) | (refine awp_exit ?_; try simp) | (refine awp_ret ?_; try simp) | (refine retP_same (by simp) ?_; simp) | (refine retP_flat (by simp) (by simp) (by simp (maxDischargeDepth := 30) [a0, a1, a2, a8, a9, a10, rulesAV, hlt, hx, w1, w2, w3, w4, w5, IntKind.bits, ru_cells, ru_fold]) ?_; simp) | (refine awp_reg ?_; simp [a0, a1, a2, a8, a9, a10, rulesAV, hlt, hx, w1, w2, w3, w4, w5, IntKind.bits, ru_cells, ru_fold]) | (refine awp_drawT (fun _ => false) mixed (by decide +kernel) ?_; simp [a0, a1, a2, a8, a9, a10, rulesAV, hlt, hx, w1, w2, w3, w4, w5, IntKind.bits, ru_cells, ru_fold]) | (refine guarded_split ?_ ?_ <;> (intro hg; simp only [hg]; simp [a0, a1, a2, a8, a9, a10, rulesAV, hlt, hx, w1, w2, w3, w4, w5, IntKind.bits, ru_cells, ru_fold])) | (apply awp_cond_t; focus (simp [a0, a1, a2, a8, a9, a10, rulesAV, hlt, hx, w1, w2, w3, w4, w5, IntKind.bits, ru_cells, ru_fold]; done)) | (apply awp_cond_f; focus (simp [a0, a1, a2, a8, a9, a10, rulesAV, hlt, hx, w1, w2, w3, w4, w5, IntKind.bits, ru_cells, ru_fold]; done)) | (refine awp_cond ?_; simp [a0, a1, a2, a8, a9, a10, rulesAV, hlt, hx, w1, w2, w3, w4, w5, IntKind.bits, ru_cells, ru_fold]; refine ⟨?_, ?_⟩ <;> intro hc))
    · refine ⟨j - (k + 1), by omega, k + 1, by simp, j, rfl, by omega, hj, rfl, fun l r h h2 => ?_, hhi⟩
      by_cases e : l = k
      · subst e
        rw [hx] at h2
        injection h2 with h2
        subst h2; exact hc
      · exact hm l k r z[k] (by omega) h2 hx hc
    · refine ⟨k - i, by omega, i, rfl, k, rfl, by omega, by omega, rfl, hlo, fun l r h h2 => ?_⟩
      by_cases e : l = k
      · subst e
        rw [hx] at h2
        injection h2 with h2
        subst h2; exact hc
      · exact Int.not_lt.1 fun h3 => absurd (hm k l z[k] r (by omega) hx h2 h3) (by omega)
  · have hij : i = j := by omega
    subst hij
    have hf : firstGe c z = i := by
      unfold firstGe
      by_cases hi : i < z.length
      · rw [List.findIdx_eq hi]
        refine ⟨by simpa using hhi i z[i] (Nat.le_refl _) (List.getElem?_eq_getElem hi), fun k hk => ?_⟩
        have := hlo k z[k] hk (List.getElem?_eq_getElem (by omega))
        simpa using this
      · have : i = z.length := by omega
        subst this
        rw [List.findIdx_eq_length]
        intro r hr
        obtain ⟨k, hk, rfl⟩ := List.mem_iff_getElem.1 hr
        have := hlo k z[k] hk (List.getElem?_eq_getElem hk)
        simpa using this
    rw [hf]
    by_cases hi : i < z.length
    · have hx : z[i]? = some z[i] := List.getElem?_eq_getElem hi
      (try (first | (with_reducible refine dops_go ?_; simp [a0, a1, a2, a8, a9, a10, rulesAV, hx, hi, ru_cells, ru_fold]) | (with_reducible refine OKv_go ?_; simp [a0, a1, a2, a8, a9, a10, rulesAV, hx, hi, ru_cells, ru_fold]) | (with_reducible refine OKr_go ?_; simp [a0, a1, a2, a8, a9, a10, rulesAV, hx, hi, ru_cells, ru_fold]))); repeat' (first | refine awp_seq ?_ | refine awp_block ?_ | (refine awp_skip ?_; try simp) | (refine awp_exit ?_; try simp) | (refine awp_ret ?_; try simp) | (refine retP_same (by simp) ?_; simp) | (refine retP_flat (by simp) (by simp) (by simp (maxDischargeDepth := 30) [a0, a1, a2, a8, a9, a10, rulesAV, hx, hi, ru_cells, ru_fold]) ?_; simp) | (refine awp_reg ?_; simp [a0, a1, a2, a8, a9, a10, rulesAV, hx, hi, ru_cells, ru_fold]) | (refine awp_drawT (fun _ => false) mixed (by decide +kernel) ?_; simp [a0, a1, a2, a8, a9, a10, rulesAV, hx, hi, ru_cells, ru_fold]) | (refine guarded_split ?_ ?_ <;> (intro hg; simp only [hg]; simp [a0, a1, a2, a8, a9, a10, rulesAV, hx, hi, ru_cells, ru_fold])) | (apply awp_cond_t; focus (simp [a0, a1, a2, a8, a9, a10, rulesAV, hx, hi, ru_cells, ru_fold]; done)) | (apply awp_cond_f; focus (simp [a0, a1, a2, a8, a9, a10, rulesAV, hx, hi, ru_cells, ru_fold]; done)) | (refine awp_cond ?_; simp [a0, a1, a2, a8, a9, a10, rulesAV, hx, hi, ru_cells, ru_fold]; refine ⟨?_, ?_⟩ <;> intro hc))
      refine PCalls.use (hg z[i] (List.getElem_mem _)) ?_
      (try (first | (with_reducible refine dops_go ?_; simp [a0, a1, a2, a8, a9, a10, rulesAV, hx, hi, ru_cells, ru_fold]) | (with_reducible refine OKv_go ?_; simp [a0, a1, a2, a8, a9, a10, rulesAV, hx, hi, ru_cells, ru_fold]) | (with_reducible refine OKr_go ?_; simp [a0, a1, a2, a8, a9, a10, rulesAV, hx, hi, ru_cells, ru_fold]))); repeat' (first | refine awp_seq ?_ | refine awp_block ?_ | (refine awp_skip ?_; try simp) | (refine awp_exit ?_; try simp) | (refine awp_ret ?_; try simp) | (refine retP_same (by simp) ?_; simp) | (refine retP_flat (by simp) (by simp) (by simp (maxDischargeDepth := 30) [a0, a1, a2, a8, a9, a10, rulesAV, hx, hi, ru_cells, ru_fold]) ?_; simp) | (refine awp_reg ?_; simp [a0, a1, a2, a8, a9, a10, rulesAV, hx, hi, ru_cells, ru_fold]) | (refine awp_drawT (fun _ => false) mixed (by decide +kernel) ?_; simp [a0, a1, a2, a8, a9, a10, rulesAV, hx, hi, ru_cells, ru_fold]) | (refine guarded_split ?_ ?_ <;> (intro hg; simp only [hg]; simp [a0, a1, a2, a8, a9, a10, rulesAV, hx, hi, ru_cells, ru_fold])) | (apply awp_cond_t; focus (simp [a0, a1, a2, a8, a9, a10, rulesAV, hx, hi, ru_cells, ru_fold]; done)) | (apply awp_cond_f; focus (simp [a0, a1, a2, a8, a9, a10, rulesAV, hx, hi, ru_cells, ru_fold]; done)) | (refine awp_cond ?_; simp [a0, a1, a2, a8, a9, a10, rulesAV, hx, hi, ru_cells, ru_fold]; refine ⟨?_, ?_⟩ <;> intro hc))
      rw [hx]
    · have hx : z[i]? = none := List.getElem?_eq_none (by omega)
      (try (first | (with_reducible refine dops_go ?_; simp [a0, a1, a2, a8, a9, a10, rulesAV, hx, hi, ru_cells, ru_fold]) | (with_reducible refine OKv_go ?_; simp [a0, a1, a2, a8, a9, a10, rulesAV, hx, hi, ru_cells, ru_fold]) | (with_reducible refine OKr_go ?_; simp [a0, a1, a2, a8, a9, a10, rulesAV, hx, hi, ru_cells, ru_fold]))); repeat' (first | refine awp_seq ?_ | refine awp_block ?_ | (refine awp_skip ?_; try simp) | (refine awp_exit ?_; try simp) | (refine awp_ret ?_; try simp) | (refine retP_same (by simp) ?_; simp) | (refine retP_flat (by simp) (by simp) (by simp (maxDischargeDepth := 30) [a0, a1, a2, a8, a9, a10, rulesAV, hx, hi, ru_cells, ru_fold]) ?_; simp) | (refine awp_reg ?_; simp [a0, a1, a2, a8, a9, a10, rulesAV, hx, hi, ru_cells, ru_fold]) | (refine awp_drawT (fun _ => false) mixed (by decide +kernel) ?_; simp [a0, a1, a2, a8, a9, a10, rulesAV, hx, hi, ru_cells, ru_fold]) | (refine guarded_split ?_ ?_ <;> (intro hg; simp only [hg]; simp [a0, a1, a2, a8, a9, a10, rulesAV, hx, hi, ru_cells, ru_fold])) | (apply awp_cond_t; focus (simp [a0, a1, a2, a8, a9, a10, rulesAV, hx, hi, ru_cells, ru_fold]; done)) | (apply awp_cond_f; focus (simp [a0, a1, a2, a8, a9, a10, rulesAV, hx, hi, ru_cells, ru_fold]; done)) | (refine awp_cond ?_; simp [a0, a1, a2, a8, a9, a10, rulesAV, hx, hi, ru_cells, ru_fold]; refine ⟨?_, ?_⟩ <;> intro hc))
      rw [hx]
theorem cmpI_neg {a b : Int} : cmpI a b < 0 ↔ a < b := by unfold cmpI; (repeat' split) <;> omega
theorem cmpI_zero {a b : Int} : cmpI a b = 0 ↔ a = b := by unfold cmpI; (repeat' split) <;> omega
/-- A rule's place by its ID. -/
def placeI (z : List Ru) (id : Int) : Nat := firstGe (fun r => cmpI r.id id) z
def hereI (z : List Ru) (id : Int) : Bool := match z[placeI z id]? with | some r => decide (r.id = id) | none => false
theorem find_calls (L : Lab) (id : Int) (hl : L.n.rules.length < 2 ^ 60) (hs : L.n.rules.Pairwise fun r s => r.id < s.id) :
    PCalls Tryz.prog 89 [labO (some L), .raw (.int .i64 id)] (.tup [.raw (.int .i64 (placeI L.n.rules id)), .raw (.bool (hereI L.n.rules id))]) := by
  have h := ruSearch_calls 139 (fun r => cmpI r.id id) L.n.rules false id hl (fun r _ => findCmp_calls r id) (fun i j r s hij hr hs' hc => by
    rw [cmpI_neg] at *
    obtain ⟨hi, rfl⟩ := List.getElem?_eq_some_iff.1 hr
    obtain ⟨hj, rfl⟩ := List.getElem?_eq_some_iff.1 hs'
    have := List.pairwise_iff_getElem.1 hs i j hi hj hij
    omega)
  have e : (match L.n.rules[firstGe (fun r => cmpI r.id id) L.n.rules]? with | some r => decide (cmpI r.id id = 0) | none => false) = hereI L.n.rules id := by
    unfold hereI placeI
    cases L.n.rules[firstGe (fun r => cmpI r.id id) L.n.rules]? with
    | none => rfl
    | some r => simp only [cmpI_zero]
  rw [e] at h
  refine pbody Tryz.func89 rfl (N := 15) rfl rfl (by simp) (by simp [noIds]) fun σ => ?_
  unfold placeI
  generalize firstGe (fun r => cmpI r.id id) L.n.rules = k at *
  generalize hereI L.n.rules id = b at *
  (try ((first | with_reducible refine dops_go ?_ | with_reducible refine OKv_go ?_ | with_reducible refine OKr_go ?_); simp [-cellOK, labO, labC])); repeat' (first | refine awp_seq ?_ | refine awp_block ?_ | (refine awp_skip ?_; try simp) | (refine awp_exit ?_; try simp) | (refine awp_ret ?_; try simp) | (refine retP_same (by simp) ?_; simp) | (refine retP_no (by simp) (by simp [noIds]) (by repeat (first | assumption | exact Ext.refl _ | refine ext_new' ?_ | refine Ext.setF ?_ (by first | assumption | (simp [new_nx', St.set, fresh_none]; done) | exact ext_fresh (by assumption)))) ?_; simp [-cellOK, labO, labC, new_m, set_m, new_nx']) | ((first | refine awp_reg ?_ | refine awp_drawT (fun _ => false) mixed (by decide +kernel) ?_ | refine awp_drawT isCallO mixed (by decide +kernel) ?_ | refine PCalls.use (h) ?_ | refine Or.inl ⟨_, Or.inl (h), ?_⟩); simp [-cellOK, labO, labC]) | (refine guarded_split ?_ ?_ <;> (intro hg; simp only [hg]; simp [-cellOK, labO, labC])) | (apply awp_cond_t; focus (simp [-cellOK, labO, labC]; done)) | (apply awp_cond_f; focus (simp [-cellOK, labO, labC]; done)) | (refine awp_cond ?_; simp [-cellOK, labO, labC]; refine ⟨?_, ?_⟩ <;> intro hc) | fail)

/-- append within a list's own room. -/
theorem okr_appendIn {P : Program} {τ : St} {slot : Nat} {t : TypeId} {n by_ len : Nat} {x : AV} {j : Id} {es ys : List AV} {k : AV → St → Prop} (hT : SlT P t n by_) (hm : τ.m j = some (.buf es)) (hj : j.sz = n)
    (hx : elemsOf τ.m x = some ys) (hxs : ys = [] ∨ szOf x = n) (hc : cellsOK (cellsL ys) = true) (hle : len + ys.length ≤ es.length) (hlt : len < es.length)
    (hk : k (.rs j 0 (len + ys.length)) (τ.set j (.buf (es.take len ++ ys ++ es.drop (len + ys.length))))) : OKr (opAppend P τ.m t (.rs j 0 len) x) (Res.go slot τ k) := by
  obtain ⟨e, z, h1, h2, h3, h4, h5, h6, h7⟩ := hT.ex
  unfold opAppend
  simp only [h1, h2, h3, h4, hx, hm]
  rw [if_pos ⟨hxs, h5, h6, h7, hc⟩, if_neg (by omega), if_pos ⟨trivial, hle, hj⟩]
  exact hk

def ru0 : Ru := ⟨0, 0, 0, 0, ⟨0, 0⟩, 0⟩
theorem ru0_fold : AV.agg [.raw (.int .i64 0), .raw (.int .i64 0), .raw (.int .i64 0), .raw (.int .i64 0), .raw (.int .u32 0), .raw (.int .u32 0), .raw (.int .i64 0)] = ruAV ru0 := rfl
/-- A list without one of its rules. -/
theorem ruDelete_calls {σ : St} {j : Id} {l : List Ru} {i : Nat} (hi : i < l.length) (hl : l.length < 2932031007403) (hj : j.sz = 7) (hm : σ.m j = some (.buf (l.map ruAV))) {K : AV → St → Prop}
    (hK : ∀ τ, τ.m j = some (.buf ((l.eraseIdx i ++ [ru0]).map ruAV)) → (∀ q, q ≠ j → τ.m q = σ.m q) → τ.nx = σ.nx → K (.rs j 0 (l.length - 1)) τ) :
    ACalls Tryz.prog 92 [.rs j 0 l.length, .raw (.int .i64 i), .raw (.int .i64 ((i + 1 : Nat) : Int))] σ K := by
  obtain ⟨m, hm1⟩ : ∃ m, l.length = m + 1 := ⟨l.length - 1, by omega⟩
  have hlen : (l.map ruAV).length = m + 1 := by simp [hm1]
  rw [hm1] at hi hl hK ⊢
  rw [List.eraseIdx_eq_take_drop_succ] at hK
  have e0 : m + 1 - 1 = m := rfl
  rw [e0] at hK
  refine abody Tryz.func92 rfl (N := 33) rfl rfl (by simp) ?_
  have n1 : ¬ ((i : Int) = ((i + 1 : Nat) : Int)) := by omega
  have n2 : (0 : Int) ≤ ((i + 1 : Nat) : Int) := by omega
  have n3 : (0 : Int) ≤ ((m + 1 : Nat) : Int) := by omega
  have n4 : i ≤ i + 1 := by omega
  have n5 : i + 1 ≤ m + 1 := by omega
  have n6 : i ≤ m + 1 := by omega
  have t1 : ((i + 1 : Nat) : Int).toNat = i + 1 := rfl
  have t2 : ((m + 1 : Nat) : Int).toNat = m + 1 := rfl
  have hys : (l.map ruAV).drop (i + 1) = (l.drop (i + 1)).map ruAV := by rw [List.map_drop]
  have htk : (l.map ruAV).take i = (l.take i).map ruAV := by rw [List.map_take]
  have hcut : elemsOf σ.m (cutRs j 0 (i + 1) (m + 1)) = some ((l.drop (i + 1)).map ruAV) := by
    unfold cutRs
    by_cases q : i + 1 < m + 1
    · rw [if_pos (.inr q)]
      have h2 : 0 + (i + 1) + (m + 1 - (i + 1)) ≤ (l.map ruAV).length := by omega
      simp only [elemsOf, hm]
      rw [if_pos h2, Nat.zero_add, hys, List.take_of_length_le (by simp; omega)]
    · rw [if_neg (by omega)]
      simp only [elemsOf]
      rw [List.drop_of_length_le (by omega)]; rfl
  have hcs : ((l.drop (i + 1)).map ruAV = [] ∨ szOf (cutRs j 0 (i + 1) (m + 1)) = 7) := by
    right
    unfold cutRs
    split <;> simp [szOf, hj]
  have hc0 : cutRs j 0 0 i = .rs j 0 i := by simp [cutRs]
  have hdl : ((l.drop (i + 1)).map ruAV).length = m - i := by simp; omega
  obtain ⟨xl, hlast⟩ : ∃ x : Ru, (l.map ruAV).drop (i + (m - i)) = [ruAV x] := by
    have : i + (m - i) = m := by omega
    exact ⟨l[m]'(by omega), by rw [this, List.drop_eq_getElem_cons (by omega), List.drop_of_length_le (by omega)]; simp⟩
  generalize hi1 : i + 1 = i1 at *
  generalize hmm : m + 1 = m1 at *
  refine awp_seq ?_
  (try (first | (with_reducible refine dops_go ?_; simp [n1, n2, n3, n4, n5, n6, t1, t2, hj, hc0, -opAppend]) | (with_reducible refine OKv_go ?_; simp [n1, n2, n3, n4, n5, n6, t1, t2, hj, hc0, -opAppend]) | (with_reducible refine OKr_go ?_; simp [n1, n2, n3, n4, n5, n6, t1, t2, hj, hc0, -opAppend]))); repeat' (first | refine awp_seq ?_ | refine awp_block ?_ | (refine awp_skip ?_; try simp) | (refine awp_exit ?_; try simp) | (refine awp_ret ?_; try simp) | (refine awp_reg ?_; simp [n1, n2, n3, n4, n5, n6, t1, t2, hj, hc0, -opAppend]) | (refine awp_drawT (fun _ => false) mixed (by decide +kernel) ?_; simp [n1, n2, n3, n4, n5, n6, t1, t2, hj, hc0, -opAppend]) | (refine guarded_split ?_ ?_ <;> (intro hg; simp only [hg]; simp [n1, n2, n3, n4, n5, n6, t1, t2, hj, hc0, -opAppend])) | (apply awp_cond_t; focus (simp [n1, n2, n3, n4, n5, n6, t1, t2, hj, hc0, -opAppend]; done)) | (apply awp_cond_f; focus (simp [n1, n2, n3, n4, n5, n6, t1, t2, hj, hc0, -opAppend]; done)) | (refine awp_cond ?_; simp [n1, n2, n3, n4, n5, n6, t1, t2, hj, hc0, -opAppend]; refine ⟨?_, ?_⟩ <;> intro hc))
  refine okr_appendIn slt26 hm hj hcut hcs (ok_ru _) (by rw [hdl]; omega) (by omega) ?_
  rw [hdl, htk, hlast]
  have e3 : i + (m - i) = m := by omega
  rw [e3]
  (try (first | (with_reducible refine dops_go ?_; simp) | (with_reducible refine OKv_go ?_; simp) | (with_reducible refine OKr_go ?_; simp)))
  have hms : ∀ x, (σ.set j x).m j = some x := fun x => set_hit hm
  have hle2 : m < m1 := by omega
  have hln : (List.map ruAV (l.take i) ++ List.map ruAV (l.drop i1) ++ [ruAV xl]).length = m1 := by simp; omega
  have ht : (List.map ruAV (l.take i) ++ List.map ruAV (l.drop i1) ++ [ruAV xl]).take m = List.map ruAV (l.take i) ++ List.map ruAV (l.drop i1) := by
    rw [List.take_left']; simp; omega
  have hd' : (List.map ruAV (l.take i) ++ List.map ruAV (l.drop i1) ++ [ruAV xl]).drop (m + 1) = [] := List.drop_of_length_le (by omega)
  have hd := hd'
  generalize List.map ruAV (l.take i) ++ List.map ruAV (l.drop i1) ++ [ruAV xl] = E at *
  have h01 : m1 - m = 0 + 1 := by omega
  refine awp_seq ?_
  refine awp_regX 4 rfl rfl ?_
  dsimp only [List.take, List.drop]
  simp
  refine sstep_sliceX (e := 73) (n := 7) (k1 := .i64) (k2 := .i64) (i := j) (off := 0) (len := m) (l := m) (h := m1) (es := E) (by simp) (by simp) hj (by omega) (by simp) (by simp) (by simp) (hms _) (by omega) hle2 ?_
  rw [h01]
  have hcl : opClear Tryz.prog (σ.set j (.buf E)).m 26 (.rs j m (0 + 1)) = some (.wrv j ((l.take i ++ l.drop i1 ++ [ru0]).map ruAV) (.tup [])) := by
    have h9 := hms (.buf E)
    generalize (σ.set j (.buf E)).m = mm at h9 ⊢
    simp only [List.map_append, ← ht]
    have hle : m + 1 ≤ E.length := by omega
    have hz : (ruAV ru0).cells.length = 7 := rfl
    have hz2 := ru_ok ru0
    unfold cellsOK at hz2
    simp [opClear, h9, hj, ru0_fold, hd, hle, hz]
    simpa using hz2
  (try (first | (with_reducible refine dops_go ?_; simp [hcl]) | (with_reducible refine OKv_go ?_; simp [hcl]) | (with_reducible refine OKr_go ?_; simp [hcl])))
  (try (first | (with_reducible refine dops_go ?_; simp) | (with_reducible refine OKv_go ?_; simp) | (with_reducible refine OKr_go ?_; simp))); repeat' (first | refine awp_seq ?_ | refine awp_block ?_ | (refine awp_skip ?_; try simp) | (refine awp_exit ?_; try simp) | (refine awp_ret ?_; try simp) | (refine awp_reg ?_; simp) | (refine awp_drawT (fun _ => false) mixed (by decide +kernel) ?_; simp) | (refine guarded_split ?_ ?_ <;> (intro hg; simp only [hg]; simp)) | (apply awp_cond_t; focus (simp; done)) | (apply awp_cond_f; focus (simp; done)) | (refine awp_cond ?_; simp; refine ⟨?_, ?_⟩ <;> intro hc))
  refine retK_of (x := .rs j 0 m) (.inr rfl) (by simp) (hK _ ?_ ?_ rfl)
  · rw [set_hit (hms _)]; simp
  · intro q hq; rw [set_ne hq, set_ne hq]
end Go.Proofs.YtanimmdlgmkmkaaGreat.Av


/- label: labels of a network that differs by a rule. -/
namespace Go.Proofs.YtanimmdlgmkmkaaGreat.Av
open Go
set_option linter.unusedSimpArgs false
set_option linter.unusedVariables false
set_option maxRecDepth 100000
set_option maxHeartbeats 4000000
set_option pp.maxSteps 600

theorem ruCloneM_calls (l : List Ru) (f : Bool) (hne : l ≠ []) (hl : l.length < 2932031007403) : MCalls Tryz.prog 129 [rulesAV l f] 7 (.buf (l.map ruAV)) fun i => .rs i 0 l.length := by
  have := mcalls_buf (P := Tryz.prog) (f := 129) (args := [rulesAV l f]) (n := 7) (es := l.map ruAV) (idsL_map (ru_ids _) l) fun σ => ruClone_calls l f hl fun v τ hO hE => by
    rcases hO with ⟨h, _⟩ | ⟨j, h1, h2, h3, h4⟩
    · exact absurd (List.map_eq_nil_iff.1 h) hne
    · exact ⟨j, h1, h2, h3, h4, hE⟩
  simpa using this
theorem ownO_calls (n : Nw) (f : Fl) (hn : NwOK n) (hne : n.rules ≠ []) {σ : St} {K : AV → St → Prop} (hK : ∀ v τ, OwnL σ τ 7 v (n.rules.map ruAV) → Ext σ τ → K (.agg [intsAV n.t.ports false, linksAV n.t.links false, v]) τ) :
    ACalls Tryz.prog 75 [nwAV n f] σ K := by
  have h1 := intClone_calls n.t.ports f.p hn.ports
  have h2 := lkClone_calls n.t.links f.l hn.links
  have h3 := ruCloneM_calls n.rules f.r hne hn.rules
  refine abody Tryz.func75 rfl (N := 16) rfl rfl (by simp) ?_
  have c1 : (intsAV n.t.ports false).cells = [intsAV n.t.ports false] := rfl
  have c2 : (linksAV n.t.links false).cells = [linksAV n.t.links false] := rfl
  (try ((first | with_reducible refine dops_go ?_ | with_reducible refine OKv_go ?_ | with_reducible refine OKr_go ?_); simp [-cellOK, nw_cells, c1, c2, new_m, set_m, new_nx'])); repeat' (first | refine awp_seq ?_ | refine awp_block ?_ | (refine awp_skip ?_; try simp) | (refine awp_exit ?_; try simp) | (refine awp_ret ?_; try simp) | ((first | refine awp_reg ?_ | refine awp_drawT (fun _ => false) mixed (by decide +kernel) ?_ | refine awp_drawT isCallO mixed (by decide +kernel) ?_ | refine PCalls.use (h1) ?_ | refine Or.inl ⟨_, Or.inl (h1), ?_⟩ | refine PCalls.use (h2) ?_ | refine Or.inl ⟨_, Or.inl (h2), ?_⟩); simp [-cellOK, nw_cells, c1, c2, new_m, set_m, new_nx']) | (refine guarded_split ?_ ?_ <;> (intro hg; simp only [hg]; simp [-cellOK, nw_cells, c1, c2, new_m, set_m, new_nx'])) | (apply awp_cond_t; focus (simp [-cellOK, nw_cells, c1, c2, new_m, set_m, new_nx']; done)) | (apply awp_cond_f; focus (simp [-cellOK, nw_cells, c1, c2, new_m, set_m, new_nx']; done)) | (refine awp_cond ?_; simp [-cellOK, nw_cells, c1, c2, new_m, set_m, new_nx']; refine ⟨?_, ?_⟩ <;> intro hc) | fail)
  refine .inr ⟨_, _, _, h3, ?_⟩
  (try ((first | with_reducible refine dops_go ?_ | with_reducible refine OKv_go ?_ | with_reducible refine OKr_go ?_); simp [-cellOK, nw_cells, c1, c2, new_m, set_m, new_nx'])); repeat' (first | refine awp_seq ?_ | refine awp_block ?_ | (refine awp_skip ?_; try simp) | (refine awp_exit ?_; try simp) | (refine awp_ret ?_; try simp) | ((first | refine awp_reg ?_ | refine awp_drawT (fun _ => false) mixed (by decide +kernel) ?_ | refine awp_drawT isCallO mixed (by decide +kernel) ?_); simp [-cellOK, nw_cells, c1, c2, new_m, set_m, new_nx']) | (refine guarded_split ?_ ?_ <;> (intro hg; simp only [hg]; simp [-cellOK, nw_cells, c1, c2, new_m, set_m, new_nx'])) | (apply awp_cond_t; focus (simp [-cellOK, nw_cells, c1, c2, new_m, set_m, new_nx']; done)) | (apply awp_cond_f; focus (simp [-cellOK, nw_cells, c1, c2, new_m, set_m, new_nx']; done)) | (refine awp_cond ?_; simp [-cellOK, nw_cells, c1, c2, new_m, set_m, new_nx']; refine ⟨?_, ?_⟩ <;> intro hc) | fail)
  refine retK_of (x := .agg [intsAV n.t.ports false, linksAV n.t.links false, .rs ⟨14, σ.nx 14, 7⟩ 0 n.rules.length]) (.inr rfl) (by simp [new_m, set_m, new_nx']) (hK _ _ (OwnL.of rfl (by simp [new_m, set_m, new_nx']) (fresh_none _ _ _) (by simp)) (by repeat (first | assumption | exact Ext.refl _ | refine ext_new' ?_ | refine Ext.setF ?_ (by first | assumption | (simp [new_nx', St.set, fresh_none]; done) | exact ext_fresh (by assumption)))))
/-- A row for other atoms. -/
def movedL (L : Lab) (T : Option Tab) (d : Nat) : List Int := (List.range (T.getD newTab).b.sz.toNat).map fun i : Nat => ((L.rows[d]?).bind fun r => r[(ofT L.t ((atomT T i).getD ⟨0, 0⟩).lo).toNat]?).getD 0
theorem moved_calls (L : Lab) (T : Option Tab) (d : Nat) (hz : (T.getD newTab).b.sz < 2 ^ 40) (hz2 : (L.t.getD newTab).b.sz < 2 ^ 40) {row : List Int} (hd : L.rows[d]? = some row)
    (ha : ∀ i : Nat, (i : Int) < (T.getD newTab).b.sz → 0 ≤ ((atomT T i).getD ⟨0, 0⟩).lo ∧ ((atomT T i).getD ⟨0, 0⟩).lo < 4294967296 ∧ 0 ≤ ofT L.t ((atomT T i).getD ⟨0, 0⟩).lo ∧ ofT L.t ((atomT T i).getD ⟨0, 0⟩).lo < row.length) :
    PCalls Tryz.prog 143 [labO (some L), tabO T, .raw (.int .i64 d)] (intsAV (movedL L T d) false) := by
  have hlen := tabLen_calls T
  have hof := fun a h0 h1 => tabOf_calls L.t a h0 h1 hz2
  refine pbody Tryz.func143 rfl (N := 43) rfl rfl (by simp) (by simp [noIds]) fun σ => ?_
  have hml : movedL L T d = (List.range (T.getD newTab).b.sz.toNat).map fun i : Nat => (row[(ofT L.t ((atomT T i).getD ⟨0, 0⟩).lo).toNat]?).getD 0 := by unfold movedL; rw [hd]; rfl
  rw [hml]
  have hat := fun i : Int => atom_calls T i hz
  generalize (T.getD newTab).b.sz = N at *
  obtain ⟨M, hM⟩ : ∃ M : Nat, N.toNat = M := ⟨_, rfl⟩
  rw [hM]
  refine awp_seq ?_
  (try ((first | with_reducible refine dops_go ?_ | with_reducible refine OKv_go ?_ | with_reducible refine OKr_go ?_); simp [-cellOK, labO])); repeat' (first | refine awp_seq ?_ | refine awp_block ?_ | (refine awp_skip ?_; try simp) | (refine awp_exit ?_; try simp) | (refine awp_ret ?_; try simp) | ((first | refine awp_reg ?_ | refine awp_drawT (fun _ => false) mixed (by decide +kernel) ?_ | refine awp_drawT isCallO mixed (by decide +kernel) ?_ | refine PCalls.use (hlen) ?_ | refine Or.inl ⟨_, Or.inl (hlen), ?_⟩); simp [-cellOK, labO]) | (refine guarded_split ?_ ?_ <;> (intro hg; simp only [hg]; simp [-cellOK, labO])) | (apply awp_cond_t; focus (simp [-cellOK, labO]; done)) | (apply awp_cond_f; focus (simp [-cellOK, labO]; done)) | (refine awp_cond ?_; simp [-cellOK, labO]; refine ⟨?_, ?_⟩ <;> intro hc) | fail)
  refine awp_loopH (fun n' B ρ => Ext σ ρ ∧ B 0 = labO (some L) ∧ B 1 = tabO T ∧ B 2 = .raw (.int .i64 d) ∧ B 12 = .raw (.int .i64 N) ∧ ∃ (i : Nat) (v : AV), B 13 = .raw (.int .i64 i) ∧ i ≤ M ∧ n' = M - i ∧ B 7 = v ∧ OwnL σ ρ 1 v (((List.range i).map fun i : Nat => (row[(ofT L.t ((atomT T i).getD ⟨0, 0⟩).lo).toNat]?).getD 0).map iAV)) M ?_ ?_
  · exact ⟨Ext.refl _, by simp [labO], by simp, by simp, by simp, 0, .sl 0 [] true, by simp, by omega, by omega, by simp, .inl ⟨by simp, rfl⟩⟩
  rintro n' B ρ ⟨hE, a0, a1, a2, a12, i, v, a13, hi, rfl, a7, hO⟩ I1 hI1
  by_cases hlt : (i : Int) < N
  · have w1 : IntKind.i64.wrap ((i : Int) + 1) = ((i + 1 : Nat) : Int) := by rw [wrap64 (by omega) (by omega)]; omega
    have hat := hat i
    obtain ⟨r, hr⟩ : ∃ r, (atomT T i).getD ⟨0, 0⟩ = r := ⟨_, rfl⟩
    obtain ⟨p1, p2, p3, p4⟩ := ha i hlt
    rw [hr] at hat p1 p2 p3 p4
    have hof := hof r.lo p1 p2
    obtain ⟨k, hk⟩ : ∃ k : Nat, ofT L.t r.lo = k := ⟨(ofT L.t r.lo).toNat, by omega⟩
    rw [hk] at hof p4
    have hkl : k < row.length := by omega
    obtain ⟨x, hx⟩ : ∃ x, row[k] = x := ⟨_, rfl⟩
    have hx' : row[k]? = some x := by rw [List.getElem?_eq_getElem hkl, hx]
    have hdl : d < L.rows.length := (List.getElem?_eq_some_iff.1 hd).1
    have hrd : L.rows[d] = row := (List.getElem?_eq_some_iff.1 hd).2
    generalize (atomT T i).isSome = bz at hat
    have f9 : σ.m ⟨9, ρ.nx 9, 2⟩ = none := ext_fresh hE
    (try ((first | with_reducible refine dops_go ?_ | with_reducible refine OKv_go ?_ | with_reducible refine OKr_go ?_); simp [-cellOK, a0, a1, a2, a7, a12, a13, hlt, hrd, hx', hx, hdl, hkl, labO, labC, inAV, intsAV, iAV, rg_cells, new_m, set_m, new_nx', -opAppend])); repeat' (first | refine awp_seq ?_ | refine awp_block ?_ | (refine awp_skip ?_; try simp) | (refine awp_exit ?_; try simp) | (refine awp_ret ?_; try simp) | ((first | refine awp_reg ?_ | refine awp_drawT (fun _ => false) mixed (by decide +kernel) ?_ | refine awp_drawT isCallO mixed (by decide +kernel) ?_ | refine PCalls.use (hat) ?_ | refine Or.inl ⟨_, Or.inl (hat), ?_⟩ | refine PCalls.use (hof) ?_ | refine Or.inl ⟨_, Or.inl (hof), ?_⟩); simp [-cellOK, a0, a1, a2, a7, a12, a13, hlt, hrd, hx', hx, hdl, hkl, labO, labC, inAV, intsAV, iAV, rg_cells, new_m, set_m, new_nx', -opAppend]) | (refine guarded_split ?_ ?_ <;> (intro hg; simp only [hg]; simp [-cellOK, a0, a1, a2, a7, a12, a13, hlt, hrd, hx', hx, hdl, hkl, labO, labC, inAV, intsAV, iAV, rg_cells, new_m, set_m, new_nx', -opAppend])) | (apply awp_cond_t; focus (simp [-cellOK, a0, a1, a2, a7, a12, a13, hlt, hrd, hx', hx, hdl, hkl, labO, labC, inAV, intsAV, iAV, rg_cells, new_m, set_m, new_nx', -opAppend]; done)) | (apply awp_cond_f; focus (simp [-cellOK, a0, a1, a2, a7, a12, a13, hlt, hrd, hx', hx, hdl, hkl, labO, labC, inAV, intsAV, iAV, rg_cells, new_m, set_m, new_nx', -opAppend]; done)) | (refine awp_cond ?_; simp [-cellOK, a0, a1, a2, a7, a12, a13, hlt, hrd, hx', hx, hdl, hkl, labO, labC, inAV, intsAV, iAV, rg_cells, new_m, set_m, new_nx', -opAppend]; refine ⟨?_, ?_⟩ <;> intro hc) | fail)
    refine okr_append slt22 (σ0 := σ) (hO.ext (by repeat (first | assumption | exact Ext.refl _ | refine ext_new' ?_ | refine Ext.setF ?_ (by first | assumption | (simp [new_nx', St.set, fresh_none]; done) | exact ext_fresh (by assumption))))) (by repeat (first | assumption | exact Ext.refl _ | refine ext_new' ?_ | refine Ext.setF ?_ (by first | assumption | (simp [new_nx', St.set, fresh_none]; done) | exact ext_fresh (by assumption)))) (ys := [iAV x]) (by simp [new_m, new_nx', iAV]) (.inr rfl) (by simp [iAV]) (by simp; omega) ?_
    intro v' τ' hO' hE' _ _
    (try ((first | with_reducible refine dops_go ?_ | with_reducible refine OKv_go ?_ | with_reducible refine OKr_go ?_); simp [-cellOK, a0, a1, a2, a7, a12, a13, w1])); repeat' (first | refine awp_seq ?_ | refine awp_block ?_ | (refine awp_skip ?_; try simp) | (refine awp_exit ?_; try simp) | (refine awp_ret ?_; try simp) | (refine retP_same (by simp) ?_; simp) | (refine retP_no (by simp) (by simp [noIds]) (by repeat (first | assumption | exact Ext.refl _ | refine ext_new' ?_ | refine Ext.setF ?_ (by first | assumption | (simp [new_nx', St.set, fresh_none]; done) | exact ext_fresh (by assumption)))) ?_; simp [-cellOK, a0, a1, a2, a7, a12, a13, w1, new_m, set_m, new_nx']) | ((first | refine awp_reg ?_ | refine awp_drawT (fun _ => false) mixed (by decide +kernel) ?_ | refine awp_drawT isCallO mixed (by decide +kernel) ?_); simp [-cellOK, a0, a1, a2, a7, a12, a13, w1]) | (refine guarded_split ?_ ?_ <;> (intro hg; simp only [hg]; simp [-cellOK, a0, a1, a2, a7, a12, a13, w1])) | (apply awp_cond_t; focus (simp [-cellOK, a0, a1, a2, a7, a12, a13, w1]; done)) | (apply awp_cond_f; focus (simp [-cellOK, a0, a1, a2, a7, a12, a13, w1]; done)) | (refine awp_cond ?_; simp [-cellOK, a0, a1, a2, a7, a12, a13, w1]; refine ⟨?_, ?_⟩ <;> intro hc) | fail)
    refine hI1 (M - (i + 1)) _ _ (by omega) ⟨hE', by simp [a0], by simp [a1], by simp [a2], by simp [a12], i + 1, v', by simp, by omega, rfl, by simp, ?_⟩
    rw [List.range_succ, List.map_append, List.map_append]
    simpa [hr, hk, hx'] using hO'
  · have : i = M := by omega
    subst this
    (try ((first | with_reducible refine dops_go ?_ | with_reducible refine OKv_go ?_ | with_reducible refine OKr_go ?_); simp [-cellOK, a0, a1, a2, a7, a12, a13, hlt])); repeat' (first | refine awp_seq ?_ | refine awp_block ?_ | (refine awp_skip ?_; try simp) | (refine awp_exit ?_; try simp) | (refine awp_ret ?_; try simp) | ((first | refine awp_reg ?_ | refine awp_drawT (fun _ => false) mixed (by decide +kernel) ?_ | refine awp_drawT isCallO mixed (by decide +kernel) ?_); simp [-cellOK, a0, a1, a2, a7, a12, a13, hlt]) | (refine guarded_split ?_ ?_ <;> (intro hg; simp only [hg]; simp [-cellOK, a0, a1, a2, a7, a12, a13, hlt])) | (apply awp_cond_t; focus (simp [-cellOK, a0, a1, a2, a7, a12, a13, hlt]; done)) | (apply awp_cond_f; focus (simp [-cellOK, a0, a1, a2, a7, a12, a13, hlt]; done)) | (refine awp_cond ?_; simp [-cellOK, a0, a1, a2, a7, a12, a13, hlt]; refine ⟨?_, ?_⟩ <;> intro hc) | fail)
    exact retP_own (v := v) (.inr rfl) (by simp) hO hE
end Go.Proofs.YtanimmdlgmkmkaaGreat.Av


/- label: labels of a network that differs by a rule; Delete. -/
namespace Go.Proofs.YtanimmdlgmkmkaaGreat.Av
open Go
set_option linter.unusedSimpArgs false
set_option linter.unusedVariables false
set_option maxRecDepth 100000
set_option maxHeartbeats 4000000
set_option pp.maxSteps 600

def withRow (L : Lab) (n : Nw) (T : Option Tab) (dev : Int) (d : Nat) : List Int := if (d : Int) = dev then rowL n T d else movedL L T d
def withLab (L : Lab) (n : Nw) (T : Option Tab) (dev : Int) : Lab := ⟨n, T, (List.range n.t.ports.length).map (withRow L n T dev)⟩
theorem withL_calls (L : Lab) (n : Nw) (T : Option Tab) (dev : Int) (hn : NwOK n) (hpos : 1 ≤ n.t.ports.length) (hp8 : n.t.ports.length ≤ 8) (hz : (T.getD newTab).b.sz < 2 ^ 40) (hz2 : (L.t.getD newTab).b.sz < 2 ^ 40)
    (hrows : ∀ d, d < n.t.ports.length → ∃ row, L.rows[d]? = some row ∧ ∀ i : Nat, (i : Int) < (T.getD newTab).b.sz → 0 ≤ ((atomT T i).getD ⟨0, 0⟩).lo ∧ ((atomT T i).getD ⟨0, 0⟩).lo < 4294967296 ∧ 0 ≤ ofT L.t ((atomT T i).getD ⟨0, 0⟩).lo ∧ ofT L.t ((atomT T i).getD ⟨0, 0⟩).lo < row.length) :
    PCalls Tryz.prog 91 [labO (some L), nwAV n flN, tabO T, .raw (.int .i64 dev)] (labO (some (withLab L n T dev))) := by
  refine pbody Tryz.func91 rfl (N := 53) rfl rfl (by simp) (by simp [noIds, labO_ids]) fun σ => ?_
  have c1 : (nwAV n flN).cells = [intsAV n.t.ports false, linksAV n.t.links false, rulesAV n.rules false] := rfl
  have f5 : σ.m ⟨5, σ.nx 5, 3⟩ = none := fresh_none _ _ _
  have f14 : σ.m ⟨14, σ.nx 14, 5⟩ = none := fresh_none _ _ _
  refine awp_seq ?_
  (try ((first | with_reducible refine dops_go ?_ | with_reducible refine OKv_go ?_ | with_reducible refine OKr_go ?_); simp [-cellOK, nw_cells, nw_fold, c1, new_m, set_m, new_nx'])); repeat' (first | refine awp_seq ?_ | refine awp_block ?_ | (refine awp_skip ?_; try simp) | (refine awp_exit ?_; try simp) | (refine awp_ret ?_; try simp) | ((first | refine awp_reg ?_ | refine awp_drawT (fun _ => false) mixed (by decide +kernel) ?_ | refine awp_drawT isCallO mixed (by decide +kernel) ?_); simp [-cellOK, nw_cells, nw_fold, c1, new_m, set_m, new_nx']) | (refine guarded_split ?_ ?_ <;> (intro hg; simp only [hg]; simp [-cellOK, nw_cells, nw_fold, c1, new_m, set_m, new_nx'])) | (apply awp_cond_t; focus (simp [-cellOK, nw_cells, nw_fold, c1, new_m, set_m, new_nx']; done)) | (apply awp_cond_f; focus (simp [-cellOK, nw_cells, nw_fold, c1, new_m, set_m, new_nx']; done)) | (refine awp_cond ?_; simp [-cellOK, nw_cells, nw_fold, c1, new_m, set_m, new_nx']; refine ⟨?_, ?_⟩ <;> intro hc) | fail)
  refine awp_freeze ⟨5, σ.nx 5, 3⟩ ?_
  generalize hτ : St.del _ _ = τ
  generalize hA : (fun t => giveUp _ _ _) = A
  have a0 : A 0 = labO (some L) := by rw [← hA]; simp [labO, giveUp]
  have a2 : A 2 = tabO T := by rw [← hA]; cases T <;> simp [tabO, tabP]
  have a3 : A 3 = .raw (.int .i64 dev) := by rw [← hA]; simp
  have a5 : A 5 = .pp (nwAV n flN).cells 0 := by rw [← hA, ← hτ]; simp [giveUp, St.new, St.del, nw_cells]
  have a9 : A 9 = .rp ⟨14, σ.nx 14, 5⟩ 0 0 := by rw [← hA, ← hτ]; simp [giveUp, St.new, St.del, St.set, new_nx']
  have a18 : A 18 = .raw (.int .i64 n.t.ports.length) := by rw [← hA]; simp [intsAV]
  have a19 : A 19 = .raw (.int .i64 0) := by rw [← hA]; simp
  have mj : τ.m ⟨14, σ.nx 14, 5⟩ = some (.buf [.agg [intsAV n.t.ports false, linksAV n.t.links false, rulesAV n.rules false, tabO T, .sl 0 [] true]]) := by rw [← hτ]; simp [St.new, St.del, St.set, new_m, set_m, new_nx', nw_cells]
  have hE : Ext σ τ := by
    rw [← hτ]
    refine ⟨fun i o h => ?_, fun s => ?_⟩
    · have q1 : i ≠ ⟨5, σ.nx 5, 3⟩ := fun e => by rw [e, f5] at h; cases h
      have q2 : i ≠ ⟨14, σ.nx 14, 5⟩ := fun e => by rw [e, f14] at h; cases h
      simp [St.del, St.new, St.set, q1, q2, h]
    · simp only [St.del, St.new, St.set]
      repeat' split
      all_goals omega
  clear hτ hA
  refine awp_loopH (fun n' B ρ => Ext σ ρ ∧ B 0 = labO (some L) ∧ B 2 = tabO T ∧ B 3 = .raw (.int .i64 dev) ∧ B 5 = .pp (nwAV n flN).cells 0 ∧ B 9 = .rp ⟨14, σ.nx 14, 5⟩ 0 0 ∧ B 18 = .raw (.int .i64 n.t.ports.length) ∧ ∃ (i : Nat) (v : AV), B 19 = .raw (.int .i64 i) ∧ i ≤ n.t.ports.length ∧ n' = n.t.ports.length - i ∧ ρ.m ⟨14, σ.nx 14, 5⟩ = some (.buf [.agg [intsAV n.t.ports false, linksAV n.t.links false, rulesAV n.rules false, tabO T, v]]) ∧ OwnL σ ρ 1 v (((List.range i).map (withRow L n T dev)).map inAV)) n.t.ports.length ?_ ?_
  · exact ⟨hE, a0, a2, a3, a5, a9, a18, 0, .sl 0 [] true, a19, by omega, by omega, mj, .inl ⟨by simp, rfl⟩⟩
  clear hE a0 a2 a3 a5 a9 a18 a19 mj
  rintro n' B ρ ⟨hE, a0, a2, a3, a5, a9, a18, i, v, a19, hi, rfl, mj, hO⟩ I2 hI2
  by_cases hlt : i < n.t.ports.length
  · have w1 : IntKind.i64.wrap ((i : Int) + 1) = ((i + 1 : Nat) : Int) := by rw [wrap64 (by omega) (by have := hn.ports; omega)]; omega
    have hfl : AV.agg [intsAV n.t.ports false, linksAV n.t.links false, rulesAV n.rules false] = nwAV n flN := rfl
    have hc1 : ∀ l, (intsAV l false).cells = [intsAV l false] := fun _ => rfl
    have hc2 : ∀ l, cellOK (intsAV l false) = true := fun _ => rfl
    have hdev : (((i : Int) = dev) = True ∧ PCalls Tryz.prog 78 [nwAV n flN, tabO T, .raw (.int .i64 i)] (intsAV (withRow L n T dev i) false)) ∨ (((i : Int) = dev) = False ∧ PCalls Tryz.prog 143 [labO (some L), tabO T, .raw (.int .i64 i)] (intsAV (withRow L n T dev i) false)) := by
      unfold withRow
      by_cases h : (i : Int) = dev
      · left
        rw [if_pos h]
        exact ⟨eq_true h, row_calls n flN T i hn hz⟩
      · right
        rw [if_neg h]
        obtain ⟨row, h1, h2⟩ := hrows i hlt
        exact ⟨eq_false h, moved_calls L T i hz hz2 h1 h2⟩
    obtain ⟨W, hW⟩ : ∃ W, withRow L n T dev i = W := ⟨_, rfl⟩
    rw [hW] at hdev
    rcases hdev with ⟨hd, hrow⟩ | ⟨hd, hrow⟩
    all_goals
      (try ((first | with_reducible refine dops_go ?_ | with_reducible refine OKv_go ?_ | with_reducible refine OKr_go ?_); simp [-cellOK, nw_cells, nw_fold, a0, a2, a3, a5, a9, a18, a19, hlt, hd, hfl, hc1, hc2, new_m, set_m, new_nx', mj, -opAppend])); repeat' (first | refine awp_seq ?_ | refine awp_block ?_ | (refine awp_skip ?_; try simp) | (refine awp_exit ?_; try simp) | (refine awp_ret ?_; try simp) | (refine retP_same (by simp) ?_; simp) | (refine retP_no (by simp) (by simp [noIds]) (by repeat (first | assumption | exact Ext.refl _ | refine ext_new' ?_ | refine Ext.setF ?_ (by first | assumption | (simp [new_nx', St.set, fresh_none]; done) | exact ext_fresh (by assumption)))) ?_; simp [-cellOK, nw_cells, nw_fold, a0, a2, a3, a5, a9, a18, a19, hlt, hd, hfl, hc1, hc2, new_m, set_m, new_nx', mj, -opAppend, new_m, set_m, new_nx']) | ((first | refine awp_reg ?_ | refine awp_drawT (fun _ => false) mixed (by decide +kernel) ?_ | refine awp_drawT isCallO mixed (by decide +kernel) ?_ | refine PCalls.use (hrow) ?_ | refine Or.inl ⟨_, Or.inl (hrow), ?_⟩); simp [-cellOK, nw_cells, nw_fold, a0, a2, a3, a5, a9, a18, a19, hlt, hd, hfl, hc1, hc2, new_m, set_m, new_nx', mj, -opAppend]) | (refine guarded_split ?_ ?_ <;> (intro hg; simp only [hg]; simp [-cellOK, nw_cells, nw_fold, a0, a2, a3, a5, a9, a18, a19, hlt, hd, hfl, hc1, hc2, new_m, set_m, new_nx', mj, -opAppend])) | (apply awp_cond_t; focus (simp [-cellOK, nw_cells, nw_fold, a0, a2, a3, a5, a9, a18, a19, hlt, hd, hfl, hc1, hc2, new_m, set_m, new_nx', mj, -opAppend]; done)) | (apply awp_cond_f; focus (simp [-cellOK, nw_cells, nw_fold, a0, a2, a3, a5, a9, a18, a19, hlt, hd, hfl, hc1, hc2, new_m, set_m, new_nx', mj, -opAppend]; done)) | (refine awp_cond ?_; simp [-cellOK, nw_cells, nw_fold, a0, a2, a3, a5, a9, a18, a19, hlt, hd, hfl, hc1, hc2, new_m, set_m, new_nx', mj, -opAppend]; refine ⟨?_, ?_⟩ <;> intro hc) | fail)
      refine okr_append slt119 (σ0 := σ) (hO.ext (by repeat (first | assumption | exact Ext.refl _ | refine ext_new' ?_ | refine Ext.setF ?_ (by first | assumption | (simp [new_nx', St.set, fresh_none]; done) | exact ext_fresh (by assumption))))) (by repeat (first | assumption | exact Ext.refl _ | refine ext_new' ?_ | refine Ext.setF ?_ (by first | assumption | (simp [new_nx', St.set, fresh_none]; done) | exact ext_fresh (by assumption)))) (ys := [inAV W]) (by simp [new_m, new_nx', inAV]) (.inr rfl) (by simp [inAV, intsAV, cellsL, cellsOK, cellOK, AV.cells]) (by simp; omega) ?_
      intro v' τ' hO' hE' hk hnx
      obtain ⟨kj, _⟩ := hk ⟨14, σ.nx 14, 5⟩ _ (new_up _ _ mj) (hO.ne_sz (by simp))
      clear hk
      have hv1 := hO'.cells
      have hv2 := hO'.cellOK
      (try ((first | with_reducible refine dops_go ?_ | with_reducible refine OKv_go ?_ | with_reducible refine OKr_go ?_); simp [-cellOK, a0, a2, a3, a5, a9, a18, a19, w1, kj, hv1, hv2, new_m, set_m, new_nx'])); repeat' (first | refine awp_seq ?_ | refine awp_block ?_ | (refine awp_skip ?_; try simp) | (refine awp_exit ?_; try simp) | (refine awp_ret ?_; try simp) | (refine retP_same (by simp) ?_; simp) | (refine retP_no (by simp) (by simp [noIds]) (by repeat (first | assumption | exact Ext.refl _ | refine ext_new' ?_ | refine Ext.setF ?_ (by first | assumption | (simp [new_nx', St.set, fresh_none]; done) | exact ext_fresh (by assumption)))) ?_; simp [-cellOK, a0, a2, a3, a5, a9, a18, a19, w1, kj, hv1, hv2, new_m, set_m, new_nx', new_m, set_m, new_nx']) | ((first | refine awp_reg ?_ | refine awp_drawT (fun _ => false) mixed (by decide +kernel) ?_ | refine awp_drawT isCallO mixed (by decide +kernel) ?_); simp [-cellOK, a0, a2, a3, a5, a9, a18, a19, w1, kj, hv1, hv2, new_m, set_m, new_nx']) | (refine guarded_split ?_ ?_ <;> (intro hg; simp only [hg]; simp [-cellOK, a0, a2, a3, a5, a9, a18, a19, w1, kj, hv1, hv2, new_m, set_m, new_nx'])) | (apply awp_cond_t; focus (simp [-cellOK, a0, a2, a3, a5, a9, a18, a19, w1, kj, hv1, hv2, new_m, set_m, new_nx']; done)) | (apply awp_cond_f; focus (simp [-cellOK, a0, a2, a3, a5, a9, a18, a19, w1, kj, hv1, hv2, new_m, set_m, new_nx']; done)) | (refine awp_cond ?_; simp [-cellOK, a0, a2, a3, a5, a9, a18, a19, w1, kj, hv1, hv2, new_m, set_m, new_nx']; refine ⟨?_, ?_⟩ <;> intro hc) | fail)
      refine hI2 (n.t.ports.length - (i + 1)) _ _ (by omega) ⟨Ext.setF hE' f14, by simp [a0], by simp [a2], by simp [a3], by simp [a5], by simp [a9], by simp [a18], i + 1, v', by simp, by omega, rfl, by simp [kj, set_m], ?_⟩
      rw [List.range_succ, List.map_append, List.map_append]
      simp only [List.map_cons, List.map_nil, hW]
      exact hO'.set (hO'.ne_sz (by simp))
  · have : i = n.t.ports.length := by omega
    subst this
    refine awp_freeze ⟨14, σ.nx 14, 5⟩ ?_
    rcases hO with ⟨hes, rfl⟩ | ⟨k, rfl, hk1, hk2, hk3⟩
    · exfalso
      have := congrArg List.length hes
      simp at this
      rw [this] at hpos
      simp at hpos
    · have hkj : k ≠ ⟨14, σ.nx 14, 5⟩ := fun e => by rw [e] at hk1; cases hk1
      refine awp_freezeD k ?_
      have g1 : ∀ (m m' : Mem) l b, giveUp m' m (intsAV l b) = intsAV l b := fun _ _ _ _ => rfl
      have g2 : ∀ (m m' : Mem) l b, giveUp m' m (linksAV l b) = linksAV l b := fun _ _ _ _ => rfl
      have g3 : ∀ (m m' : Mem) l b, giveUp m' m (rulesAV l b) = rulesAV l b := fun _ _ _ _ => rfl
      have g4 : ∀ (m m' : Mem), giveUp m' m (tabO T) = tabO T := fun _ _ => by cases T <;> rfl
      have f4 : giveUpD ((ρ.del ⟨14, σ.nx 14, 5⟩).del k).m (ρ.del ⟨14, σ.nx 14, 5⟩).m (giveUp (ρ.del ⟨14, σ.nx 14, 5⟩).m ρ.m (B 9)) = labO (some ⟨n, T, (List.range n.t.ports.length).map (withRow L n T dev)⟩) := by
        rw [a9, giveUp_rp_made (by simp [St.del]) mj rfl]
        simp only [giveUpD, AV.cells, List.map_cons, List.map_nil, labO, labC, g1, g2, g3, g4]
        rw [giveUp_rs_made (by simp [St.del]) (by rw [del_other hkj]; exact hk2) (by simp), hk1]
        simp
        exact List.take_of_length_le (by simp)
      generalize hπ : (ρ.del ⟨14, σ.nx 14, 5⟩).del k = π
      generalize hA : (fun t => giveUpD _ _ _) = A
      have b9 : A 9 = labO (some ⟨n, T, (List.range n.t.ports.length).map (withRow L n T dev)⟩) := by rw [← hA, ← hπ]; exact f4
      have b18 : A 18 = .raw (.int .i64 n.t.ports.length) := by rw [← hA]; simp [a18, giveUpD, giveUp]
      have b19 : A 19 = .raw (.int .i64 n.t.ports.length) := by rw [← hA]; simp [a19, giveUpD, giveUp]
      have hEp : Ext σ π := by
        rw [← hπ]
        refine ⟨fun i o h => ?_, hE.nx⟩
        rw [del_other (fun e => by rw [e, hk3] at h; cases h), del_other (fun e => by rw [e, f14] at h; cases h)]
        exact hE.m i o h
      clear hπ hA f4 hE a0 a2 a3 a5 a9 a18 a19 mj hI2
      unfold withLab
      generalize (⟨n, T, (List.range n.t.ports.length).map (withRow L n T dev)⟩ : Lab) = R at b9 ⊢
      (try ((first | with_reducible refine dops_go ?_ | with_reducible refine OKv_go ?_ | with_reducible refine OKr_go ?_); simp [-cellOK, b9, b18, b19])); repeat' (first | refine awp_seq ?_ | refine awp_block ?_ | (refine awp_skip ?_; try simp) | (refine awp_exit ?_; try simp) | (refine awp_ret ?_; try simp) | (refine retP_same (by simp) ?_; simp) | (refine retP_no (by simp) (by simp [noIds]) (by repeat (first | assumption | exact Ext.refl _ | refine ext_new' ?_ | refine Ext.setF ?_ (by first | assumption | (simp [new_nx', St.set, fresh_none]; done) | exact ext_fresh (by assumption)))) ?_; simp [-cellOK, b9, b18, b19, new_m, set_m, new_nx']) | ((first | refine awp_reg ?_ | refine awp_drawT (fun _ => false) mixed (by decide +kernel) ?_ | refine awp_drawT isCallO mixed (by decide +kernel) ?_); simp [-cellOK, b9, b18, b19]) | (refine guarded_split ?_ ?_ <;> (intro hg; simp only [hg]; simp [-cellOK, b9, b18, b19])) | (apply awp_cond_t; focus (simp [-cellOK, b9, b18, b19]; done)) | (apply awp_cond_f; focus (simp [-cellOK, b9, b18, b19]; done)) | (refine awp_cond ?_; simp [-cellOK, b9, b18, b19]; refine ⟨?_, ?_⟩ <;> intro hc) | fail)
end Go.Proofs.YtanimmdlgmkmkaaGreat.Av


/- label: all over an atom the same becomes of a packet (plain laws). -/
namespace Go.Proofs.YtanimmdlgmkmkaaGreat.Av
open Go
set_option linter.unusedSimpArgs false
set_option linter.unusedVariables false

theorem side_atom {L : List Rg} {i : Nat} {r : Rg} (hr : (atomsC (cutsL L))[i]? = some r) {a b : Int} (ha : r.lo ≤ a ∧ a ≤ r.hi) (hb : r.lo ≤ b ∧ b ≤ r.hi) (hb2 : a < 4294967296) (hb3 : b < 4294967296) : SameSide L a b := by
  have hs := (cutsL_cuts L).srt
  unfold SameSide
  generalize cutsL L = c at hr hs ⊢
  rw [atomsC_get] at hr
  cases hi : c[i]? with
  | none => rw [hi] at hr; cases hr
  | some x0 =>
    rw [hi] at hr
    simp only [Option.map_some, Option.some.injEq] at hr
    subst hr
    simp only at ha hb
    have hil := (List.getElem?_eq_some_iff.1 hi).1
    have hiv : c[i] = x0 := (List.getElem?_eq_some_iff.1 hi).2
    rw [List.pairwise_iff_getElem] at hs
    intro x hx
    obtain ⟨j, hj, rfl⟩ := List.getElem_of_mem hx
    by_cases hji : j ≤ i
    · have : c[j] ≤ c[i] := by
        rcases Nat.lt_or_ge j i with q | q
        · exact Int.le_of_lt (hs j i hj hil q)
        · have : j = i := by omega
          subst this; exact Int.le_refl _
      constructor <;> intro _ <;> omega
    · have hk : i + 1 < c.length := by omega
      have e : c[i + 1]? = some c[i + 1] := List.getElem?_eq_getElem hk
      rw [e] at ha hb
      simp only at ha hb
      have : c[i + 1] ≤ c[j] := by
        rcases Nat.lt_or_ge (i + 1) j with q | q
        · exact Int.le_of_lt (hs (i + 1) j hk hj q)
        · have : j = i + 1 := by omega
          subst this; exact Int.le_refl _
      constructor <;> intro _ <;> omega
end Go.Proofs.YtanimmdlgmkmkaaGreat.Av


/- label: labels that stand for a network (plain laws). -/
namespace Go.Proofs.YtanimmdlgmkmkaaGreat.Av
open Go
set_option linter.unusedSimpArgs false
set_option linter.unusedVariables false

theorem allFrom_iff {l : List Ru} {last : Int} : allFrom last l = true ↔ (∀ r ∈ l, ruleB r = true) ∧ (∀ r ∈ l, last < r.id) ∧ l.Pairwise fun r s => r.id < s.id := by
  induction l generalizing last with
  | nil => simp [allFrom]
  | cons x l ih =>
    simp only [allFrom, Bool.and_eq_true, decide_eq_true_eq, ih, List.forall_mem_cons, List.pairwise_cons]
    constructor
    · rintro ⟨⟨h1, h2⟩, h3, h4, h5⟩
      exact ⟨⟨h1, h3⟩, ⟨h2, fun r hr => by have := h4 r hr; omega⟩, h4, h5⟩
    · rintro ⟨⟨h1, h3⟩, ⟨h2, h6⟩, h4, h5⟩
      exact ⟨⟨h1, h2⟩, h3, h4, h5⟩
theorem right_srt {n : Nw} (h : rightN n = true) : n.rules.Pairwise fun r s => r.id < s.id := by
  unfold rightN allB at h
  simp only [Bool.and_eq_true] at h
  exact (allFrom_iff.1 h.2.1.1).2.2
theorem right_sub {n : Nw} {l : List Ru} (h : rightN n = true) (hs : l.Sublist n.rules) : rightN ⟨n.t, l⟩ = true := by
  unfold rightN allB fitsB at h ⊢
  simp only [Bool.and_eq_true, allFrom_iff, decide_eq_true_eq, Bool.not_eq_true', List.any_eq_false] at h ⊢
  obtain ⟨h1, ⟨⟨h2, h3, h4⟩, h5⟩, h6⟩ := h
  exact ⟨h1, ⟨⟨fun r hr => h2 r (hs.subset hr), fun r hr => h3 r (hs.subset hr), h4.sublist hs⟩, Nat.le_trans hs.length_le h5⟩, fun r hr => h6 r (hs.subset hr)⟩
theorem ok_sub {n : Nw} {l : List Ru} (h : NwOK n) (hs : l.Sublist n.rules) : NwOK ⟨n.t, l⟩ where
  rg := fun r hr => h.rg r (hs.subset hr)
  ports := h.ports
  links := h.links
  rules := Nat.lt_of_le_of_lt hs.length_le h.rules
  id := fun r hr => h.id r (hs.subset hr)

/-- What becomes at a device hangs on its rules alone. -/
theorem step_dev {t : Tp} {l m : List Ru} {d : Int} (h : l.filter (fun r => decide (r.dev = d)) = m.filter (fun r => decide (r.dev = d))) (a : Int) : stepF ⟨t, l⟩ d a = stepF ⟨t, m⟩ d a := by
  have key : ∀ (p : Ru → Bool), (∀ r, p r = true → r.dev = d) → l.filter p = m.filter p := fun p hp => by
    have e : ∀ k : List Ru, k.filter p = (k.filter fun r => decide (r.dev = d)).filter p := fun k => by
      rw [List.filter_filter]
      apply List.filter_congr
      intro r _
      cases hr : p r with
      | false => simp
      | true => simp [hp r hr]
    rw [e l, e m, h]
  have k1 := key (aclP d a) fun r hr => by
    unfold aclP takesB at hr
    simp only [Bool.and_eq_true, decide_eq_true_eq] at hr
    exact hr.2.1
  have k2 := key (fwdP d a) fun r hr => by
    unfold fwdP takesB at hr
    simp only [Bool.and_eq_true, decide_eq_true_eq] at hr
    exact hr.2.1
  have an : ∀ (p : Ru → Bool) (k : List Ru), k.any p = !(k.filter p).isEmpty := fun p k => by
    induction k with
    | nil => rfl
    | cons x k ih => by_cases hx : p x = true <;> simp [hx, ih]
  unfold stepF deniesB matchB matchR
  simp only [an, k1, k2]

def rgsN (n : Nw) : List Rg := n.rules.map (·.r)
/-- A device's labels, by the cuts of the rules' ranges. -/
def rowC (n : Nw) (d : Nat) : List Int := (atomsC (cutsL (rgsN n))).map fun r => atI n d r.lo
/-- Labels that stand for a network. -/
structure LabRep (L : Lab) (n : Nw) : Prop where
  net : L.n = n
  ok : NwOK n
  right : rightN n = true
  rep : TabRep (L.t.getD newTab) (rgsN n)
  rows : L.rows = (List.range n.t.ports.length).map (rowC n)

theorem atoms_at {R : List Rg} {i : Nat} (hi : i < (cutsL R).length) : ∃ q, (atomsC (cutsL R))[i]? = some q := ⟨_, List.getElem?_eq_getElem (by rw [atomsC_len]; exact hi)⟩
theorem rowL_rep {n : Nw} {T : Option Tab} (h : TabRep (T.getD newTab) (rgsN n)) (d : Nat) : rowL n T d = rowC n d := by
  apply List.ext_getElem?
  intro i
  unfold rowL rowC
  rw [rep_len h, List.getElem?_map, List.getElem?_map, Int.toNat_natCast]
  by_cases hi : i < (cutsL (rgsN n)).length
  · rw [List.getElem?_range hi, Option.map_some, rep_atom h, if_pos (by omega), Int.toNat_natCast]
    obtain ⟨q, hq⟩ := atoms_at hi
    rw [hq]; rfl
  · rw [List.getElem?_eq_none (by simp; omega), List.getElem?_eq_none (by rw [atomsC_len]; omega)]; rfl
/-- The atom in which an address lies. -/
theorem of_rep {T : Option Tab} {L : List Rg} (h : TabRep (T.getD newTab) L) {a : Int} (h0 : 0 ≤ a) (h1 : a < 4294967296) : ∃ (k : Nat) (r : Rg), ofT T a = k ∧ (atomsC (cutsL L))[k]? = some r ∧ r.lo ≤ a ∧ a ≤ r.hi := by
  have hc := cutsL_cuts L
  have hp := hc.pos h0
  obtain ⟨k, hk⟩ : ∃ k, (cutsL L).countP (fun y => decide (y ≤ a)) = k + 1 := ⟨_, (Nat.succ_pred_eq_of_pos hp).symm⟩
  have hle : k + 1 ≤ (cutsL L).length := by rw [← hk]; exact List.countP_le_length
  have hx : (cutsL L)[k]? = some (cutsL L)[k] := List.getElem?_eq_getElem (by omega)
  have hs := countP_srt hc.srt a
  refine ⟨k, _, by rw [rep_of h, hk]; omega, by rw [atomsC_get, hx]; rfl, ?_, ?_⟩
  · exact (hs k _ hx).2 (by omega)
  · simp only
    cases hy : (cutsL L)[k + 1]? with
    | none => simp only; omega
    | some y =>
      simp only
      have := (hs (k + 1) y hy)
      rw [hk] at this
      omega
theorem atom_in {n : Nw} (ho : NwOK n) {k : Nat} {r : Rg} (h : (atomsC (cutsL (rgsN n)))[k]? = some r) : 0 ≤ r.lo ∧ r.lo ≤ r.hi ∧ r.hi < 4294967296 := by
  have hc := cutsL_cuts (rgsN n)
  have hok : ∀ r ∈ rgsN n, RgOK r := fun r hr => by
    obtain ⟨x, hx, rfl⟩ := List.mem_map.1 hr
    exact ho.rg x hx
  rw [atomsC_get] at h
  have hrg : ∀ {x}, x ∈ cutsL (rgsN n) → 0 ≤ x ∧ x < 4294967296 := fun hx => hc.range hok hx
  have hs := hc.srt
  generalize cutsL (rgsN n) = c at h hrg hs
  cases hi : c[k]? with
  | none => rw [hi] at h; cases h
  | some x0 =>
    rw [hi] at h
    simp only [Option.map_some, Option.some.injEq] at h
    subst h
    have hil := (List.getElem?_eq_some_iff.1 hi).1
    have hiv : c[k] = x0 := (List.getElem?_eq_some_iff.1 hi).2
    have h0 := hrg (List.getElem_mem hil)
    rw [hiv] at h0
    by_cases hk : k + 1 < c.length
    · have e : c[k + 1]? = some c[k + 1] := List.getElem?_eq_getElem hk
      have h2 := hrg (List.getElem_mem hk)
      rw [List.pairwise_iff_getElem] at hs
      have h3 := hs k (k + 1) hil hk (by omega)
      simp only [e]
      refine ⟨?_, ?_, ?_⟩ <;> omega
    · have e : c[k + 1]? = none := List.getElem?_eq_none (by omega)
      simp only [e]
      refine ⟨?_, ?_, ?_⟩ <;> omega
theorem fares_in {n : Nw} {k : Nat} {r : Rg} (h : (atomsC (cutsL (rgsN n)))[k]? = some r) {a b : Int} (ha : r.lo ≤ a ∧ a ≤ r.hi) (hb : r.lo ≤ b ∧ b ≤ r.hi) (ha2 : a < 4294967296) (hb2 : b < 4294967296) (d : Int) : atI n d a = atI n d b := by
  have hs := side_atom h ha hb ha2 hb2
  unfold atI
  rw [step_same (fun x hx => List.mem_map.2 ⟨x, hx, rfl⟩) hs ha2 hb2 d]
theorem rows_get {L : Lab} {n : Nw} (h : LabRep L n) {d : Nat} (hd : d < n.t.ports.length) : L.rows[d]? = some (rowC n d) := by
  rw [h.rows, List.getElem?_map, List.getElem?_range hd]; rfl
theorem moved_ok {L : Lab} {n n' : Nw} (h : LabRep L n) {T : Option Tab} (hn : NwOK n') (hT : TabRep (T.getD newTab) (rgsN n')) {d : Nat} (i : Nat) (hi : (i : Int) < (T.getD newTab).b.sz) :
    0 ≤ ((atomT T i).getD ⟨0, 0⟩).lo ∧ ((atomT T i).getD ⟨0, 0⟩).lo < 4294967296 ∧ 0 ≤ ofT L.t ((atomT T i).getD ⟨0, 0⟩).lo ∧ ofT L.t ((atomT T i).getD ⟨0, 0⟩).lo < (rowC n d).length := by
  rw [rep_len hT] at hi
  obtain ⟨q, hx⟩ := atoms_at (R := rgsN n') (i := i) (by omega)
  rw [rep_atom hT, if_pos (by omega), Int.toNat_natCast, hx, Option.getD_some]
  obtain ⟨h1, h2, h3⟩ := atom_in hn hx
  obtain ⟨k, r, e1, e2, e3, e4⟩ := of_rep h.rep h1 (by omega)
  refine ⟨h1, by omega, by omega, ?_⟩
  rw [e1]
  have := (List.getElem?_eq_some_iff.1 e2).1
  unfold rowC
  rw [List.length_map]; omega
theorem movedL_rep {L : Lab} {n n' : Nw} (h : LabRep L n) {T : Option Tab} (hn : NwOK n') (hT : TabRep (T.getD newTab) (rgsN n')) {d : Nat} (hd : d < n.t.ports.length) (hs : ∀ a, atI n' d a = atI n d a) : movedL L T d = rowC n' d := by
  apply List.ext_getElem?
  intro i
  unfold movedL
  rw [rows_get h hd, rep_len hT, List.getElem?_map, Int.toNat_natCast]
  unfold rowC
  rw [List.getElem?_map]
  by_cases hi : i < (cutsL (rgsN n')).length
  · obtain ⟨q, hx⟩ := atoms_at hi
    rw [List.getElem?_range hi, Option.map_some, rep_atom hT, if_pos (by omega), Int.toNat_natCast, hx, Option.getD_some]
    obtain ⟨h1, h2, h3⟩ := atom_in hn hx
    obtain ⟨k, r, e1, e2, e3, e4⟩ := of_rep h.rep h1 (by omega)
    rw [e1, Int.toNat_natCast, Option.bind_some, List.getElem?_map, e2, Option.map_some, Option.map_some, Option.getD_some, hs, fares_in e2 ⟨Int.le_refl _, by omega⟩ ⟨e3, e4⟩ (by omega) (by omega)]
  · rw [List.getElem?_eq_none (by simp; omega), List.getElem?_eq_none (by rw [atomsC_len]; omega)]; rfl
/-- Labels of a network that differs by rules of one device. -/
theorem with_rep {L : Lab} {n n' : Nw} (h : LabRep L n) {T : Option Tab} {dev : Int} (ht : n'.t = n.t) (hn : NwOK n') (hr : rightN n' = true) (hT : TabRep (T.getD newTab) (rgsN n')) (hdev : ∀ d : Int, d ≠ dev → ∀ a, atI n' d a = atI n d a) : LabRep (withLab L n' T dev) n' where
  net := rfl
  ok := hn
  right := hr
  rep := hT
  rows := by
    show (List.range n'.t.ports.length).map (withRow L n' T dev) = _
    apply List.map_congr_left
    intro d hd
    rw [List.mem_range] at hd
    unfold withRow
    split
    · exact rowL_rep hT d
    · rename_i hne
      exact movedL_rep h hn hT (by rw [← ht]; exact hd) fun a => hdev d hne a
theorem rep_rules {n : Nw} (hn : NwOK n) (h : rightN n = true) : TabRep ((tabL n.rules).getD newTab) (rgsN n) := by
  have h1 := tabL_rep hn.rg n.rules.length (Nat.le_refl _)
  rw [List.take_length] at h1
  obtain ⟨hr, -⟩ := h1.get
  have hL : ((n.rules.map (·.r)).foldl stepL (some [])).getD [] = (n.rules.map (·.r)).reverse := by
    have h2 := right_rules h
    exact held_few (fun r hr => by obtain ⟨x, hx, rfl⟩ := List.mem_map.1 hr; exact rule_le (h2.1 x hx)) (by rw [List.length_map]; omega)
  rw [hL] at hr
  exact hr.perm (List.reverse_perm _)
theorem labOf_rep {n : Nw} (hn : NwOK n) (h : rightN n = true) : LabRep (labOf n) n where
  net := rfl
  ok := hn
  right := h
  rep := rep_rules hn h
  rows := by
    show (List.range n.t.ports.length).map (fun d : Nat => rowL n (tabL n.rules) d) = _
    apply List.map_congr_left
    intro d _
    exact rowL_rep (rep_rules hn h) d
end Go.Proofs.YtanimmdlgmkmkaaGreat.Av


/- label: Delete. -/
namespace Go.Proofs.YtanimmdlgmkmkaaGreat.Av
open Go
set_option linter.unusedSimpArgs false
set_option linter.unusedVariables false
set_option maxRecDepth 100000
set_option maxHeartbeats 4000000
set_option pp.maxSteps 600

def delN (n : Nw) (id : Int) : Nw := ⟨n.t, n.rules.eraseIdx (placeI n.rules id)⟩
def delR (n : Nw) (id : Int) : Ru := (n.rules[placeI n.rules id]?).getD ru0
def delLab (L : Lab) (n : Nw) (id : Int) : Lab := withLab L (delN n id) (dropT L.t (delR n id).r).1 (delR n id).dev
theorem here_lt {l : List Ru} {id : Int} (h : hereI l id = true) : placeI l id < l.length := by
  unfold hereI at h
  cases hx : l[placeI l id]? with
  | none => rw [hx] at h; cases h
  | some r => exact (List.getElem?_eq_some_iff.1 hx).1
theorem delR_get {n : Nw} {id : Int} (h : hereI n.rules id = true) : n.rules[placeI n.rules id]? = some (delR n id) := by
  unfold delR
  rw [List.getElem?_eq_getElem (here_lt h)]; rfl
theorem del_sub (n : Nw) (id : Int) : (delN n id).rules.Sublist n.rules := List.eraseIdx_sublist _ _
theorem del_perm {n : Nw} {id : Int} (h : hereI n.rules id = true) : (rgsN n).Perm ((delR n id).r :: rgsN (delN n id)) := by
  have h2 := delR_get h
  have hlt := here_lt h
  have h1 : n.rules = n.rules.take (placeI n.rules id) ++ delR n id :: n.rules.drop (placeI n.rules id + 1) := by
    conv => lhs; rw [← List.take_append_drop (placeI n.rules id) n.rules, List.drop_eq_getElem_cons hlt, (List.getElem?_eq_some_iff.1 h2).2]
  have h3 : n.rules.Perm (delR n id :: (delN n id).rules) := by
    unfold delN
    rw [List.eraseIdx_eq_take_drop_succ]
    conv => lhs; rw [h1]
    exact List.perm_middle
  exact h3.map (·.r)
/-- What the dropped range leaves. -/
theorem del_drop {L : Lab} {n : Nw} (h : LabRep L n) {id : Int} (hh : hereI n.rules id = true) :
    RgOK (delR n id).r ∧ cntT L.t (delR n id).r ≠ 0 ∧ WithOK (L.t.getD newTab) (delR n id).r (-1) ∧ (dropT L.t (delR n id).r).1 = some ((L.t.getD newTab).with_ (delR n id).r (-1)) ∧ TabRep ((dropT L.t (delR n id).r).1.getD newTab) (rgsN (delN n id)) := by
  have hm : delR n id ∈ n.rules := List.mem_of_getElem? (delR_get hh)
  have hok := h.ok.rg _ hm
  have hlen : (rgsN (delN n id)).length < 500 := by
    have := (right_rules h.right).2
    have := (del_sub n id).length_le
    unfold rgsN; rw [List.length_map]; omega
  obtain ⟨w1, w2⟩ := rep_drop (h.rep.perm (del_perm hh)) hlen
  have hc : cntT L.t (delR n id).r ≠ 0 := by
    unfold cntT
    rw [rep_count h.rep hok]
    have : 0 < (rgsN n).count (delR n id).r := List.count_pos_iff.2 (List.mem_map.2 ⟨_, hm, rfl⟩)
    omega
  have e : (dropT L.t (delR n id).r).1 = some ((L.t.getD newTab).with_ (delR n id).r (-1)) := by unfold dropT; rw [if_neg hc]
  exact ⟨hok, hc, w1, e, by rw [e]; exact w2⟩
theorem rep_size {T : Option Tab} {n : Nw} (h : TabRep (T.getD newTab) (rgsN n)) (hr : rightN n = true) : (T.getD newTab).b.sz < 2 ^ 40 := by
  rw [rep_len h]
  have hcc := cutsL_cuts (rgsN n)
  have hcl : (cutsL (rgsN n)).length ≤ 1 + 2 * (rgsN n).length := by
    have := nodup_le (m := 0 :: endsL (rgsN n)) (hcc.srt.imp fun h => by omega) fun x hx => by
      rw [List.mem_cons]; simp only [endsL, List.mem_flatMap]; exact (hcc.mem x).1 hx
    have := endsL_len (rgsN n)
    simp only [List.length_cons] at *
    omega
  have := (right_rules hr).2
  have e : (rgsN n).length = n.rules.length := by unfold rgsN; simp
  omega
theorem filter_erase {α : Type} {p : α → Bool} : ∀ {l : List α} {i : Nat} {x : α}, l[i]? = some x → p x = false → (l.eraseIdx i).filter p = l.filter p
  | [], _, _, h, _ => by simp at h
  | y :: l, 0, x, h, hp => by
    simp at h; subst h
    simp [hp]
  | y :: l, i + 1, x, h, hp => by
    simp at h
    rw [List.eraseIdx_cons_succ, List.filter_cons, List.filter_cons, filter_erase h hp]
theorem del_dev {n : Nw} {id : Int} (h : hereI n.rules id = true) (d : Int) (hd : d ≠ (delR n id).dev) (a : Int) : atI (delN n id) d a = atI n d a := by
  unfold atI delN
  rw [step_dev (filter_erase (delR_get h) (by simp; exact fun e => hd e.symm)) a]
theorem delLab_rep {L : Lab} {n : Nw} (h : LabRep L n) {id : Int} (hh : hereI n.rules id = true) : LabRep (delLab L n id) (delN n id) :=
  with_rep h rfl (ok_sub h.ok (del_sub n id)) (right_sub h.right (del_sub n id)) (del_drop h hh).2.2.2.2 (del_dev hh)

theorem del_none_calls {L : Lab} {n : Nw} (h : LabRep L n) (id : Int) (hh : hereI n.rules id = false) :
    PCalls Tryz.prog 39 [labO (some L), .raw (.int .i64 id)] (.tup [.raw (.pointer none), .raw (.int .i64 143)]) := by
  have hf := find_calls L id (by rw [h.net]; have := h.ok.rules; omega) (by rw [h.net]; exact right_srt h.right)
  rw [h.net, hh] at hf
  refine pbody Tryz.func39 rfl (N := 55) rfl rfl (by simp) (by simp [noIds]) fun σ => ?_
  (try ((first | with_reducible refine dops_go ?_ | with_reducible refine OKv_go ?_ | with_reducible refine OKr_go ?_); simp [-cellOK, labO, labC])); repeat' (first | refine awp_seq ?_ | refine awp_block ?_ | (refine awp_skip ?_; try simp) | (refine awp_exit ?_; try simp) | (refine awp_ret ?_; try simp) | (refine retP_same (by simp) ?_; simp) | (refine retP_no (by simp) (by simp [noIds]) (by repeat (first | assumption | exact Ext.refl _ | refine ext_new' ?_ | refine Ext.setF ?_ (by first | assumption | (simp [new_nx', St.set, fresh_none]; done) | exact ext_fresh (by assumption)))) ?_; simp [-cellOK, labO, labC, new_m, set_m, new_nx']) | ((first | refine awp_reg ?_ | refine awp_drawT (fun _ => false) mixed (by decide +kernel) ?_ | refine awp_drawT isCallO mixed (by decide +kernel) ?_ | refine PCalls.use (hf) ?_ | refine Or.inl ⟨_, Or.inl (hf), ?_⟩); simp [-cellOK, labO, labC]) | (refine guarded_split ?_ ?_ <;> (intro hg; simp only [hg]; simp [-cellOK, labO, labC])) | (apply awp_cond_t; focus (simp [-cellOK, labO, labC]; done)) | (apply awp_cond_f; focus (simp [-cellOK, labO, labC]; done)) | (refine awp_cond ?_; simp [-cellOK, labO, labC]; refine ⟨?_, ?_⟩ <;> intro hc) | fail)
theorem del_calls {L : Lab} {n : Nw} (h : LabRep L n) (id : Int) (hh : hereI n.rules id = true) :
    PCalls Tryz.prog 39 [labO (some L), .raw (.int .i64 id)] (.tup [labO (some (delLab L n id)), .raw (.int .i64 0)]) := by
  have hf := find_calls L id (by rw [h.net]; have := h.ok.rules; omega) (by rw [h.net]; exact right_srt h.right)
  rw [h.net, hh] at hf
  obtain ⟨q1, q2, q3, q4, q5⟩ := del_drop h hh
  have hlt := here_lt hh
  have hx := delR_get hh
  have hrep := delLab_rep h hh
  obtain ⟨hpos, hp8⟩ := right_few h.right
  have hz2 := rep_size h.rep h.right
  have hz := rep_size q5 hrep.right
  have hdrop := tdrop_calls L.t (delR n id).r q1 fun _ => q3
  have hwith := withL_calls L (delN n id) (dropT L.t (delR n id).r).1 (delR n id).dev hrep.ok hpos hp8 hz hz2 fun d hd => ⟨_, rows_get h hd, fun i hi => moved_ok h hrep.ok q5 i hi⟩
  have hlen40 := (right_rules h.right).2
  have hLn := h.net
  have hok := h.ok
  have hne : n.rules ≠ [] := fun e => by rw [e] at hlt; simp at hlt
  have hkind : (dropT L.t (delR n id).r).2 = 0 := by unfold dropT; rw [if_neg q2]
  rw [hkind] at hdrop
  have hll : labO (some (delLab L n id)) = labO (some (withLab L (delN n id) (dropT L.t (delR n id).r).1 (delR n id).dev)) := rfl
  rw [hll]
  have hdn : delN n id = ⟨n.t, n.rules.eraseIdx (placeI n.rules id)⟩ := rfl
  have hids := labO_ids (fun _ => False) (some (withLab L (delN n id) (dropT L.t (delR n id).r).1 (delR n id).dev))
  generalize (dropT L.t (delR n id).r).1 = T' at *
  generalize withLab L (delN n id) T' (delR n id).dev = R at *
  generalize delR n id = r at *
  generalize placeI n.rules id = p at *
  clear q1 q2 q3 q4 q5 hrep hz hz2 h hll hkind
  have hfl : AV.agg [intsAV L.n.t.ports false, linksAV L.n.t.links false, rulesAV L.n.rules false] = nwAV n flN := by rw [hLn]; rfl
  refine pbody Tryz.func39 rfl (N := 55) rfl rfl (by simp) (by simp [noIds, hids]) fun σ => ?_
  have f8 : σ.m ⟨8, σ.nx 8, 3⟩ = none := fresh_none _ _ _
  (try ((first | with_reducible refine dops_go ?_ | with_reducible refine OKv_go ?_ | with_reducible refine OKr_go ?_); simp [-cellOK, labO, labC, hfl])); repeat' (first | refine awp_seq ?_ | refine awp_block ?_ | (refine awp_skip ?_; try simp) | (refine awp_exit ?_; try simp) | (refine awp_ret ?_; try simp) | ((first | refine awp_reg ?_ | refine awp_drawT (fun _ => false) mixed (by decide +kernel) ?_ | refine awp_drawT isCallO mixed (by decide +kernel) ?_ | refine PCalls.use (hf) ?_ | refine Or.inl ⟨_, Or.inl (hf), ?_⟩); simp [-cellOK, labO, labC, hfl]) | (refine guarded_split ?_ ?_ <;> (intro hg; simp only [hg]; simp [-cellOK, labO, labC, hfl])) | (apply awp_cond_t; focus (simp [-cellOK, labO, labC, hfl]; done)) | (apply awp_cond_f; focus (simp [-cellOK, labO, labC, hfl]; done)) | (refine awp_cond ?_; simp [-cellOK, labO, labC, hfl]; refine ⟨?_, ?_⟩ <;> intro hc) | fail)
  refine ownO_calls n flN hok hne fun v τ hO hE => ?_
  rcases hO with ⟨e, _⟩ | ⟨j, rfl, hj, hm, hn⟩
  · exact absurd (List.map_eq_nil_iff.1 e) hne
  rw [List.length_map]
  have hxp : n.rules[p] = r := (List.getElem?_eq_some_iff.1 hx).2
  have w1 : IntKind.i64.wrap ((p : Int) + 1) = ((p + 1 : Nat) : Int) := by rw [wrap64 (by omega) (by omega)]; omega
  have c1 : (intsAV n.t.ports false).cells = [intsAV n.t.ports false] := rfl
  have c2 : (linksAV n.t.links false).cells = [linksAV n.t.links false] := rfl
  have g8 : τ.m ⟨8, τ.nx 8, 3⟩ = none := fresh_none _ _ _
  have g9 : τ.m ⟨9, τ.nx 9, 7⟩ = none := fresh_none _ _ _
  have j8 : j ≠ ⟨8, τ.nx 8, 3⟩ := fun e => by rw [e, g8] at hm; cases hm
  have j9 : j ≠ ⟨9, τ.nx 9, 7⟩ := fun e => by rw [e, g9] at hm; cases hm
  (try ((first | with_reducible refine dops_go ?_ | with_reducible refine OKv_go ?_ | with_reducible refine OKr_go ?_); simp [-cellOK, labO, labC, new_m, set_m, new_nx', c1, c2, ru_cells, hm, hj, j8, j9, hlt, hxp, w1])); repeat' (first | refine awp_seq ?_ | refine awp_block ?_ | (refine awp_skip ?_; try simp) | (refine awp_exit ?_; try simp) | (refine awp_ret ?_; try simp) | ((first | refine awp_reg ?_ | refine awp_drawT (fun _ => false) mixed (by decide +kernel) ?_ | refine awp_drawT isCallO mixed (by decide +kernel) ?_); simp [-cellOK, labO, labC, new_m, set_m, new_nx', c1, c2, ru_cells, hm, hj, j8, j9, hlt, hxp, w1]) | (refine guarded_split ?_ ?_ <;> (intro hg; simp only [hg]; simp [-cellOK, labO, labC, new_m, set_m, new_nx', c1, c2, ru_cells, hm, hj, j8, j9, hlt, hxp, w1])) | (apply awp_cond_t; focus (simp [-cellOK, labO, labC, new_m, set_m, new_nx', c1, c2, ru_cells, hm, hj, j8, j9, hlt, hxp, w1]; done)) | (apply awp_cond_f; focus (simp [-cellOK, labO, labC, new_m, set_m, new_nx', c1, c2, ru_cells, hm, hj, j8, j9, hlt, hxp, w1]; done)) | (refine awp_cond ?_; simp [-cellOK, labO, labC, new_m, set_m, new_nx', c1, c2, ru_cells, hm, hj, j8, j9, hlt, hxp, w1]; refine ⟨?_, ?_⟩ <;> intro hc) | fail)
  refine ruDelete_calls (l := n.rules) (i := p) hlt (by omega) hj (by simp [new_m, set_m, new_nx', hm, j8, j9]) fun τ2 m1 m2 m3 => ?_
  have e8 : τ2.m ⟨8, τ.nx 8, 3⟩ = some (.buf [.agg [intsAV n.t.ports false, linksAV n.t.links false, .rs j 0 n.rules.length]]) := by
    rw [m2 _ (Ne.symm j8)]; simp [new_m, set_m, new_nx']
  have e9 : τ2.m ⟨9, τ.nx 9, 7⟩ = some (.buf [ruAV r]) := by
    rw [m2 _ (Ne.symm j9)]; simp [new_m, set_m, new_nx']; rfl
  have hE2 : Ext σ τ2 := by
    refine ⟨fun i o h => ?_, fun s => ?_⟩
    · have q1 : i ≠ j := fun e => by rw [e, hn] at h; cases h
      have h' := hE.m i o h
      have q8 : i ≠ ⟨8, τ.nx 8, 3⟩ := fun e => by rw [e, g8] at h'; cases h'
      have q9 : i ≠ ⟨9, τ.nx 9, 7⟩ := fun e => by rw [e, g9] at h'; cases h'
      rw [m2 i q1]; simp [new_m, set_m, new_nx', q8, q9, h']
    · have := hE.nx s
      rw [m3]
      simp only [St.set, St.new]
      repeat' split
      all_goals omega
  have s8 : σ.m ⟨8, τ.nx 8, 3⟩ = none := by
    cases h : σ.m ⟨8, τ.nx 8, 3⟩ with
    | none => rfl
    | some o => rw [hE.m _ _ h] at g8; cases g8
  have s9 : σ.m ⟨9, τ.nx 9, 7⟩ = none := by
    cases h : σ.m ⟨9, τ.nx 9, 7⟩ with
    | none => rfl
    | some o => rw [hE.m _ _ h] at g9; cases g9
  have i89 : (⟨8, τ.nx 8, 3⟩ : Id) ≠ ⟨9, τ.nx 9, 7⟩ := by simp
  clear m2 m3 hE g8 g9 f8 hm
  generalize (⟨8, τ.nx 8, 3⟩ : Id) = i8 at *
  generalize (⟨9, τ.nx 9, 7⟩ : Id) = i9 at *
  (try (first | (with_reducible refine dops_go ?_; simp [labO, labC, e8, e9]) | (with_reducible refine OKv_go ?_; simp [labO, labC, e8, e9]) | (with_reducible refine OKr_go ?_; simp [labO, labC, e8, e9])))
  generalize hπ : τ2.set i8 _ = π
  have p8 : π.m i8 = some (.buf [.agg [intsAV n.t.ports false, linksAV n.t.links false, .rs j 0 (n.rules.length - 1)]]) := by rw [← hπ, set_hit e8]
  have p9 : π.m i9 = some (.buf [ruAV r]) := by rw [← hπ, set_ne (Ne.symm i89)]; exact e9
  have pj : π.m j = some (.buf ((n.rules.eraseIdx p ++ [ru0]).map ruAV)) := by rw [← hπ, set_ne j8]; exact m1
  have hE3 : Ext σ π := by rw [← hπ]; exact Ext.setF hE2 s8
  clear hπ e8 e9 m1 hE2
  generalize hA : put 55 _ _ _ = A
  have a0 : A 0 = labO (some L) := by rw [← hA]; simp [labO, labC]
  have a8 : A 8 = .rp i8 0 0 := by rw [← hA]; simp
  have a9 : A 9 = .rp i9 0 0 := by rw [← hA]; simp
  clear hA
  refine awp_freeze i8 ?_
  refine awp_freezeD j ?_
  refine awp_freeze i9 ?_
  have g1 : ∀ (m m' : Mem) l b, giveUp m' m (intsAV l b) = intsAV l b := fun _ _ _ _ => rfl
  have g2 : ∀ (m m' : Mem) l b, giveUp m' m (linksAV l b) = linksAV l b := fun _ _ _ _ => rfl
  have fin : ((π.del i8).del j).m i9 = some (.buf [ruAV r]) := by rw [del_other (Ne.symm j9), del_other (Ne.symm i89)]; exact p9
  have b8 : giveUp (((π.del i8).del j).del i9).m ((π.del i8).del j).m (giveUpD ((π.del i8).del j).m (π.del i8).m (giveUp (π.del i8).m π.m (A 8))) = .pp (nwAV (delN n id) flN).cells 0 := by
    rw [a8, giveUp_rp_made (by simp [St.del]) p8 rfl]
    simp only [giveUpD, AV.cells, List.map_cons, List.map_nil, g1, g2]
    rw [giveUp_rs_made (by simp [St.del]) (by rw [del_other j8]; exact pj) (by simp [List.length_eraseIdx_of_lt hlt]), hj]
    simp only [giveUp, hdn, nw_cells, rulesAV, flN, List.drop_zero]
    congr 4
    rw [← List.map_take, List.take_left' (List.length_eraseIdx_of_lt hlt)]
    rfl
  have b9 : giveUp (((π.del i8).del j).del i9).m ((π.del i8).del j).m (giveUpD ((π.del i8).del j).m (π.del i8).m (giveUp (π.del i8).m π.m (A 9))) = .pp (ruAV r).cells 0 := by
    rw [a9, giveUp_rp_ne (Ne.symm i89)]
    simp only [giveUpD]
    rw [giveUp_rp_ne (Ne.symm j9), giveUp_rp_made (by simp [St.del]) fin rfl]
  have b0 : giveUp (((π.del i8).del j).del i9).m ((π.del i8).del j).m (giveUpD ((π.del i8).del j).m (π.del i8).m (giveUp (π.del i8).m π.m (A 0))) = labO (some L) := by
    rw [a0]
    simp [labO, labC, giveUp, giveUpD, intsAV, linksAV, rulesAV]
    cases L.t <;> rfl
  have hE4 : Ext σ (((π.del i8).del j).del i9) := by
    refine ⟨fun i o h => ?_, hE3.nx⟩
    rw [del_other (fun e => by rw [e, s9] at h; cases h), del_other (fun e => by rw [e, hn] at h; cases h), del_other (fun e => by rw [e, s8] at h; cases h)]
    exact hE3.m i o h
  generalize hA' : (fun t => giveUp _ _ _) = A'
  have c0 : A' 0 = labO (some L) := by rw [← hA']; exact b0
  have c8 : A' 8 = .pp (nwAV (delN n id) flN).cells 0 := by rw [← hA']; exact b8
  have c9 : A' 9 = .pp (ruAV r).cells 0 := by rw [← hA']; exact b9
  clear hA' b0 b8 b9 fin a0 a8 a9 p8 p9 pj hE3
  generalize ((π.del i8).del j).del i9 = ρ at *
  generalize delN n id = n' at *
  (try ((first | with_reducible refine dops_go ?_ | with_reducible refine OKv_go ?_ | with_reducible refine OKr_go ?_); simp [-cellOK, c0, c8, c9, labO, labC, nw_cells, nw_fold, ru_cells, rg_fold])); repeat' (first | refine awp_seq ?_ | refine awp_block ?_ | (refine awp_skip ?_; try simp) | (refine awp_exit ?_; try simp) | (refine awp_ret ?_; try simp) | (refine retP_same (by simp) ?_; simp) | (refine retP_no (by simp) (by simp [noIds]) (by repeat (first | assumption | exact Ext.refl _ | refine ext_new' ?_ | refine Ext.setF ?_ (by first | assumption | (simp [new_nx', St.set, fresh_none]; done) | exact ext_fresh (by assumption)))) ?_; simp [-cellOK, c0, c8, c9, labO, labC, nw_cells, nw_fold, ru_cells, rg_fold, new_m, set_m, new_nx']) | ((first | refine awp_reg ?_ | refine awp_drawT (fun _ => false) mixed (by decide +kernel) ?_ | refine awp_drawT isCallO mixed (by decide +kernel) ?_ | refine PCalls.use (hdrop) ?_ | refine Or.inl ⟨_, Or.inl (hdrop), ?_⟩ | refine PCalls.use (hwith) ?_ | refine Or.inl ⟨_, Or.inl (hwith), ?_⟩); simp [-cellOK, c0, c8, c9, labO, labC, nw_cells, nw_fold, ru_cells, rg_fold]) | (refine guarded_split ?_ ?_ <;> (intro hg; simp only [hg]; simp [-cellOK, c0, c8, c9, labO, labC, nw_cells, nw_fold, ru_cells, rg_fold])) | (apply awp_cond_t; focus (simp [-cellOK, c0, c8, c9, labO, labC, nw_cells, nw_fold, ru_cells, rg_fold]; done)) | (apply awp_cond_f; focus (simp [-cellOK, c0, c8, c9, labO, labC, nw_cells, nw_fold, ru_cells, rg_fold]; done)) | (refine awp_cond ?_; simp [-cellOK, c0, c8, c9, labO, labC, nw_cells, nw_fold, ru_cells, rg_fold]; refine ⟨?_, ?_⟩ <;> intro hc) | fail)
end Go.Proofs.YtanimmdlgmkmkaaGreat.Av


/- label: a rule more, and one less: plain laws. -/
namespace Go.Proofs.YtanimmdlgmkmkaaGreat.Av
open Go
set_option linter.unusedSimpArgs false
set_option linter.unusedVariables false

/-- Rules in order. -/
def Srt (l : List Ru) : Prop := l.Pairwise fun r s => r.id < s.id
theorem place_lo {l : List Ru} {id : Int} {k : Nat} {r : Ru} (hk : l[k]? = some r) (h : k < placeI l id) : r.id < id := by
  obtain ⟨hl, rfl⟩ := List.getElem?_eq_some_iff.1 hk
  have := List.not_of_lt_findIdx (p := fun r : Ru => decide (0 ≤ cmpI r.id id)) (xs := l) (i := k) h
  simp only [decide_eq_true_eq, Int.not_le, decide_eq_false_iff_not] at this
  exact cmpI_neg.1 this
theorem place_le (l : List Ru) (id : Int) : placeI l id ≤ l.length := List.findIdx_le_length
theorem place_at {l : List Ru} {id : Int} {r : Ru} (hk : l[placeI l id]? = some r) : id ≤ r.id := by
  obtain ⟨hl, rfl⟩ := List.getElem?_eq_some_iff.1 hk
  have := List.findIdx_getElem (p := fun r : Ru => decide (0 ≤ cmpI r.id id)) (xs := l) (w := hl)
  simp only [decide_eq_true_eq] at this
  refine Int.not_lt.1 fun h => ?_
  have h2 := cmpI_neg.2 h
  have h3 : l[placeI l id] = l[List.findIdx (fun r : Ru => decide (0 ≤ cmpI r.id id)) l]'hl := rfl
  rw [h3] at h2
  omega
theorem place_of {l : List Ru} {id : Int} {p : Nat} (hp : p ≤ l.length) (h1 : ∀ k r, k < p → l[k]? = some r → r.id < id) (h2 : ∀ r, l[p]? = some r → id ≤ r.id) : placeI l id = p := by
  rcases Nat.lt_trichotomy (placeI l id) p with h | h | h
  · have hx : l[placeI l id]? = some (l[placeI l id]'(by omega)) := List.getElem?_eq_getElem (by omega)
    have a := h1 _ _ h hx
    have b := place_at hx
    omega
  · exact h
  · have hx : l[p]? = some (l[p]'(by have := place_le l id; omega)) := List.getElem?_eq_getElem (by have := place_le l id; omega)
    have a := place_lo hx h
    have b := h2 _ hx
    omega
theorem here_at {l : List Ru} {id : Int} (h : hereI l id = false) {r : Ru} (hk : l[placeI l id]? = some r) : id < r.id := by
  have := place_at hk
  unfold hereI at h
  rw [hk] at h
  simp only [decide_eq_false_iff_not] at h
  omega
theorem place_hi {l : List Ru} (hs : Srt l) {id : Int} (h : hereI l id = false) {k : Nat} {r : Ru} (hk : l[k]? = some r) (hp : placeI l id ≤ k) : id < r.id := by
  obtain ⟨hl, hr⟩ := List.getElem?_eq_some_iff.1 hk
  have hx : l[placeI l id]? = some (l[placeI l id]'(by omega)) := List.getElem?_eq_getElem (by omega)
  have a := here_at h hx
  rcases Nat.eq_or_lt_of_le hp with e | e
  · subst e; rw [hx] at hk; injection hk with hk; rw [← hk]; exact a
  · have := List.pairwise_iff_getElem.1 hs _ _ (by omega) hl e
    rw [hr] at this; omega

/-- A list with a rule more, in its place. -/
def insL (l : List Ru) (r : Ru) : List Ru := l.take (placeI l r.id) ++ r :: l.drop (placeI l r.id)
theorem ins_perm (l : List Ru) (r : Ru) : (insL l r).Perm (r :: l) := by
  have : (insL l r).Perm (r :: (l.take (placeI l r.id) ++ l.drop (placeI l r.id))) := List.perm_middle
  rwa [List.take_append_drop] at this
theorem ins_len (l : List Ru) (r : Ru) : (insL l r).length = l.length + 1 := by rw [(ins_perm l r).length_eq]; rfl
theorem ins_mem {l : List Ru} {r x : Ru} : x ∈ insL l r ↔ x = r ∨ x ∈ l := by rw [(ins_perm l r).mem_iff, List.mem_cons]
theorem ins_at (l : List Ru) (r : Ru) : (insL l r)[placeI l r.id]? = some r := by
  unfold insL
  have := place_le l r.id
  rw [List.getElem?_append_right (by rw [List.length_take]; omega), List.length_take]
  rw [show placeI l r.id - min (placeI l r.id) l.length = 0 by omega]; rfl
theorem ins_place (l : List Ru) (r : Ru) : placeI (insL l r) r.id = placeI l r.id := by
  have hp := place_le l r.id
  refine place_of (by rw [ins_len]; omega) (fun k x hk hx => ?_) fun x hx => ?_
  · unfold insL at hx
    rw [List.getElem?_append_left (by rw [List.length_take]; omega), List.getElem?_take_of_lt hk] at hx
    exact place_lo hx hk
  · rw [ins_at] at hx; injection hx with hx; rw [hx]; exact Int.le_refl _
theorem ins_here (l : List Ru) (r : Ru) : hereI (insL l r) r.id = true := by
  unfold hereI
  rw [ins_place, ins_at]; simp
theorem ins_erase (l : List Ru) (r : Ru) : (insL l r).eraseIdx (placeI l r.id) = l := by
  have hp := place_le l r.id
  unfold insL
  rw [List.eraseIdx_append_of_length_le (by rw [List.length_take]; omega), List.length_take, show placeI l r.id - min (placeI l r.id) l.length = 0 by omega]
  simp
theorem ins_filter {l : List Ru} {r : Ru} {q : Ru → Bool} (h : q r = false) : (insL l r).filter q = l.filter q := by
  unfold insL
  rw [List.filter_append, List.filter_cons, h, if_neg (by simp), ← List.filter_append, List.take_append_drop]
/-- A rule that is taken out, and put in again. -/
theorem del_ins {l : List Ru} (hs : Srt l) {id : Int} {x : Ru} (hx : l[placeI l id]? = some x) (hid : x.id = id) : insL (l.eraseIdx (placeI l id)) x = l := by
  obtain ⟨hl, hv⟩ := List.getElem?_eq_some_iff.1 hx
  have hle : (l.eraseIdx (placeI l id)).length = l.length - 1 := List.length_eraseIdx_of_lt hl
  have hpl : placeI (l.eraseIdx (placeI l id)) x.id = placeI l id := by
    refine place_of (by omega) (fun k r hk hr => ?_) fun r hr => ?_
    · rw [List.getElem?_eraseIdx_of_lt hk] at hr
      have := place_lo hr hk
      omega
    · rw [List.getElem?_eraseIdx_of_ge (Nat.le_refl _)] at hr
      obtain ⟨h1, h2⟩ := List.getElem?_eq_some_iff.1 hr
      have := List.pairwise_iff_getElem.1 hs _ _ hl h1 (by omega)
      rw [hv, h2] at this; omega
  unfold insL
  rw [hpl, List.eraseIdx_eq_take_drop_succ]
  rw [List.take_left' (by rw [List.length_take]; omega), List.drop_left' (by rw [List.length_take]; omega), ← hv, ← List.drop_eq_getElem_cons hl, List.take_append_drop]

structure RuOK (r : Ru) : Prop where
  rg : RgOK r.r
  id : -9223372036854775808 ≤ r.id ∧ r.id < 9223372036854775808
def insN (n : Nw) (r : Ru) : Nw := ⟨n.t, insL n.rules r⟩
def insLab (L : Lab) (n : Nw) (r : Ru) : Lab := withLab L (insN n r) (addT L.t r.r).1 r.dev
theorem ins_ok {n : Nw} (h : NwOK n) (hl : n.rules.length ≤ 40) {r : Ru} (hr : RuOK r) : NwOK (insN n r) where
  rg := fun x hx => by rcases ins_mem.1 hx with rfl | hx <;> first | exact hr.rg | exact h.rg x hx
  ports := h.ports
  links := h.links
  rules := by show (insL n.rules r).length < _; rw [ins_len]; omega
  id := fun x hx => by rcases ins_mem.1 hx with rfl | hx <;> first | exact hr.id | exact h.id x hx
theorem ins_rep {L : Lab} {n : Nw} (h : LabRep L n) {r : Ru} (hr : RuOK r) (hR : rightN (insN n r) = true) :
    r.r.lo ≤ r.r.hi ∧ WithOK (L.t.getD newTab) r.r 1 ∧ (addT L.t r.r).1 = some ((L.t.getD newTab).with_ r.r 1) ∧ TabRep ((addT L.t r.r).1.getD newTab) (rgsN (insN n r)) := by
  have hrr := right_rules hR
  have hle : r.r.lo ≤ r.r.hi := rule_le (hrr.1 r (ins_mem.2 (.inl rfl)))
  have h40 := (right_rules h.right).2
  obtain ⟨w1, w2⟩ := rep_add h.rep hr.rg (by unfold rgsN; rw [List.length_map]; omega)
  have hn := h.rep.n
  have hl : (rgsN n).length = n.rules.length := by unfold rgsN; simp
  have e : (addT L.t r.r).1 = some ((L.t.getD newTab).with_ r.r 1) := by
    unfold addT
    rw [if_neg (by omega), if_neg (by omega)]
  refine ⟨hle, w1, e, ?_⟩
  rw [e]
  have hp : (r.r :: rgsN n).Perm (rgsN (insN n r)) := ((ins_perm n.rules r).map fun x : Ru => x.r).symm
  exact w2.perm hp
theorem insLab_rep {L : Lab} {n : Nw} (h : LabRep L n) {r : Ru} (hr : RuOK r) (hR : rightN (insN n r) = true) : LabRep (insLab L n r) (insN n r) :=
  with_rep h rfl (ins_ok h.ok (right_rules h.right).2 hr) hR (ins_rep h hr hR).2.2.2 fun d hd a => by
    unfold atI
    rw [show insN n r = ⟨n.t, insL n.rules r⟩ from rfl, step_dev (ins_filter (by simp; exact fun e => hd e.symm)) a]
theorem ins_del (n : Nw) (r : Ru) : delN (insN n r) r.id = n := by
  unfold delN insN
  simp only
  rw [ins_place, ins_erase]
theorem del_insN {n : Nw} (hs : Srt n.rules) {id : Int} (h : hereI n.rules id = true) : insN (delN n id) (delR n id) = n ∧ (delR n id).id = id := by
  have hx := delR_get h
  have hid : (delR n id).id = id := by
    unfold hereI at h
    rw [hx] at h
    simpa using h
  refine ⟨?_, hid⟩
  unfold insN delN
  simp only
  rw [del_ins hs hx hid]
theorem del_not {n : Nw} (hs : Srt n.rules) {id : Int} (h : hereI n.rules id = true) : hereI (delN n id).rules id = false := by
  obtain ⟨e, hid⟩ := del_insN hs h
  have hx := delR_get h
  obtain ⟨hl, hv⟩ := List.getElem?_eq_some_iff.1 hx
  unfold hereI
  cases hq : (delN n id).rules[placeI (delN n id).rules id]? with
  | none => rfl
  | some q =>
    have hm : q ∈ (delN n id).rules := List.mem_of_getElem? hq
    have hne : q.id ≠ id := fun he => by
      unfold delN at hm
      simp only [List.mem_eraseIdx_iff_getElem] at hm
      obtain ⟨j, hj, hji, rfl⟩ := hm
      rcases Nat.lt_trichotomy j (placeI n.rules id) with h1 | h1 | h1
      · have := List.pairwise_iff_getElem.1 hs _ _ hj hl h1
        rw [hv] at this; omega
      · exact hji h1
      · have := List.pairwise_iff_getElem.1 hs _ _ hl hj h1
        rw [hv] at this; omega
    simpa using hne
end Go.Proofs.YtanimmdlgmkmkaaGreat.Av


namespace Go.Proofs.YtanimmdlgmkmkaaGreat.Av.Zn
open Go
set_option linter.unusedSimpArgs false
set_option linter.unusedVariables false
set_option maxRecDepth 100000

attribute [ext] Rg
def zAV (z : List Rg) (full : Bool) : AV := .sl 2 (z.map rgAV) full

end Go.Proofs.YtanimmdlgmkmkaaGreat.Av.Zn


/- Zones: the functions that only look. -/
namespace Go.Proofs.YtanimmdlgmkmkaaGreat.Av.Zn
open Go
set_option linter.unusedSimpArgs false
set_option linter.unusedVariables false
set_option maxRecDepth 100000
set_option pp.maxSteps 300

/-- The bounds of a range's ends. -/
def _root_.Go.Proofs.YtanimmdlgmkmkaaGreat.Av.Rg.In (r : Rg) : Prop := 0 ≤ r.lo ∧ r.lo < 4294967296 ∧ 0 ≤ r.hi ∧ r.hi < 4294967296
def InZ (z : List Rg) : Prop := ∀ r ∈ z, r.In
def okAt (z : List Rg) (i : Nat) : Bool :=
  match z[i]? with
  | some r => decide (r.lo ≤ r.hi) && (i == 0 || match z[i - 1]? with | some p => decide (p.hi + 1 < r.lo) | none => true)
  | none => true
def rightB (z : List Rg) : Bool := (List.range z.length).all (okAt z)
end Go.Proofs.YtanimmdlgmkmkaaGreat.Av.Zn


/- Zones: more functions that only look. -/
namespace Go.Proofs.YtanimmdlgmkmkaaGreat.Av.Zn
open Go
set_option linter.unusedSimpArgs false
set_option linter.unusedVariables false
set_option maxRecDepth 100000
set_option pp.maxSteps 300

def lastHi (z : List Rg) (i : Nat) : Int := match i with | 0 => -2 | k + 1 => match z[k]? with | some r => r.hi | none => -2

def leastA (z : List Rg) : AV := match z with | [] => .tup [.raw (.int .u32 0), .raw (.bool false)] | r :: _ => .tup [.raw (.int .u32 r.lo), .raw (.bool true)]
def hasB (z : List Rg) (a : Int) : Bool := z.any fun r => decide (r.lo ≤ a) && decide (a ≤ r.hi)
def countZ (z : List Rg) : Int := (z.map fun r => r.hi - r.lo + 1).sum
end Go.Proofs.YtanimmdlgmkmkaaGreat.Av.Zn


/- Zones: searching. -/
namespace Go.Proofs.YtanimmdlgmkmkaaGreat.Av.Zn
open Go
set_option linter.unusedSimpArgs false
set_option linter.unusedVariables false
set_option maxRecDepth 100000
set_option pp.maxSteps 300

def cmpI (a b : Int) : Int := if a < b then -1 else if b < a then 1 else 0
/-- Where what is searched begins. -/
def firstGe (c : Rg → Int) (z : List Rg) : Nat := z.findIdx fun r => decide (0 ≤ c r)
end Go.Proofs.YtanimmdlgmkmkaaGreat.Av.Zn


/- Iterators: collecting what one yields. -/
namespace Go.Proofs.YtanimmdlgmkmkaaGreat.Av.Zn
open Go
set_option linter.unusedSimpArgs false
set_option linter.unusedVariables false
set_option maxRecDepth 100000
set_option pp.maxSteps 300

/-- All objects but i are as they were. -/
structure But (i : Id) (σ τ : St) : Prop where
  m : ∀ l o, l ≠ i → σ.m l = some o → τ.m l = some o
  nx : ∀ s, σ.nx s ≤ τ.nx s

end Go.Proofs.YtanimmdlgmkmkaaGreat.Av.Zn


namespace Go.Proofs.YtanimmdlgmkmkaaGreat.Av.Zn
open Go
set_option linter.unusedSimpArgs false
set_option linter.unusedVariables false
set_option maxRecDepth 100000

end Go.Proofs.YtanimmdlgmkmkaaGreat.Av.Zn


/- Zones in plain Lean: a right zone is known by what it has; joining cuts; merging; both; not. -/
namespace Go.Proofs.YtanimmdlgmkmkaaGreat.Av.Zn
set_option linter.unusedSimpArgs false
set_option linter.unusedVariables false

def MZ (z : List Rg) (a : Int) : Prop := ∃ r ∈ z, r.lo ≤ a ∧ a ≤ r.hi
theorem mz_nil {a : Int} : ¬ MZ [] a := fun ⟨_, h, _⟩ => by cases h
theorem mz_cons {r : Rg} {z : List Rg} {a : Int} : MZ (r :: z) a ↔ (r.lo ≤ a ∧ a ≤ r.hi) ∨ MZ z a := by
  constructor
  · rintro ⟨s, h, k⟩
    rcases List.mem_cons.1 h with rfl | h
    · exact .inl k
    · exact .inr ⟨s, h, k⟩
  · rintro (h | ⟨s, h, k⟩)
    · exact ⟨r, by simp, h⟩
    · exact ⟨s, by simp [h], k⟩
/-- Right, beginning above b + 1. -/
def RZ : Int → List Rg → Prop
  | _, [] => True
  | b, r :: z => b < r.lo ∧ r.lo ≤ r.hi ∧ RZ (r.hi + 1) z
theorem RZ.gt : ∀ {z : List Rg} {b a : Int}, RZ b z → MZ z a → b < a
  | [], _, _, _, h => absurd h mz_nil
  | r :: z, b, a, k, h => by
    rcases mz_cons.1 h with h | h
    · have := k.1; omega
    · have := RZ.gt k.2.2 h; have := k.1; have := k.2.1; omega
theorem RZ.ext : ∀ {x y : List Rg} {b c : Int}, RZ b x → RZ c y → (∀ a, MZ x a ↔ MZ y a) → x = y
  | [], [], _, _, _, _, _ => rfl
  | [], s :: y, _, _, _, k, h => absurd ((h s.lo).2 (mz_cons.2 (.inl ⟨Int.le_refl _, k.2.1⟩))) mz_nil
  | r :: x, [], _, _, k, _, h => absurd ((h r.lo).1 (mz_cons.2 (.inl ⟨Int.le_refl _, k.2.1⟩))) mz_nil
  | r :: x, s :: y, b, c, k, l, h => by
    obtain ⟨k1, k2, k3⟩ := k
    obtain ⟨l1, l2, l3⟩ := l
    have gx : ∀ {a}, MZ x a → r.hi + 1 < a := fun h => RZ.gt k3 h
    have gy : ∀ {a}, MZ y a → s.hi + 1 < a := fun h => RZ.gt l3 h
    have hlo : r.lo = s.lo := by
      have h1 := (h r.lo).1 (mz_cons.2 (.inl ⟨Int.le_refl _, k2⟩))
      have h2 := (h s.lo).2 (mz_cons.2 (.inl ⟨Int.le_refl _, l2⟩))
      rcases mz_cons.1 h1 with h1 | h1 <;> rcases mz_cons.1 h2 with h2 | h2
      · omega
      · have := gx h2; omega
      · have := gy h1; omega
      · have := gx h2; have := gy h1; omega
    have hhi : r.hi = s.hi := by
      rcases Int.lt_trichotomy r.hi s.hi with hl | hl | hl
      · have h1 := (h (r.hi + 1)).2 (mz_cons.2 (.inl ⟨by omega, by omega⟩))
        rcases mz_cons.1 h1 with h1 | h1
        · omega
        · have := gx h1; omega
      · exact hl
      · have h1 := (h (s.hi + 1)).1 (mz_cons.2 (.inl ⟨by omega, by omega⟩))
        rcases mz_cons.1 h1 with h1 | h1
        · omega
        · have := gy h1; omega
    have he : r = s := Rg.ext hlo hhi
    subst he
    congr 1
    refine RZ.ext k3 l3 fun a => ⟨fun ha => ?_, fun ha => ?_⟩
    · rcases mz_cons.1 ((h a).1 (mz_cons.2 (.inr ha))) with h1 | h1
      · have := gx ha; omega
      · exact h1
    · rcases mz_cons.1 ((h a).2 (mz_cons.2 (.inr ha))) with h1 | h1
      · have := gy ha; omega
      · exact h1

theorem RZ.at : ∀ {z : List Rg} {b : Int}, RZ b z → ∀ i r, z[i]? = some r → b < r.lo ∧ r.lo ≤ r.hi ∧ ∀ s, z[i + 1]? = some s → r.hi + 1 < s.lo
  | [], _, _, _, _, h => by simp at h
  | r :: z, b, k, 0, s, h => by
    simp at h; subst h
    refine ⟨k.1, k.2.1, fun s hs => ?_⟩
    cases z with
    | nil => simp at hs
    | cons t z => simp at hs; subst hs; exact k.2.2.1
  | r :: z, b, k, i + 1, s, h => by
    have := RZ.at k.2.2 i s (by simpa using h)
    refine ⟨by have := k.1; have := k.2.1; omega, this.2.1, fun t ht => this.2.2 t (by simpa using ht)⟩
/-! ### Merging what is sorted -/
def mg : Rg → List Rg → List Rg
  | r, [] => [r]
  | r, x :: l => if x.lo ≤ r.hi + 1 then mg ⟨r.lo, max r.hi x.hi⟩ l else r :: mg x l
def mergeZ : List Rg → List Rg
  | [] => []
  | r :: l => mg r l
/-! ### Both, and not -/
def andZ : List Rg → List Rg → List Rg
  | r :: x, s :: y => (if max r.lo s.lo ≤ min r.hi s.hi then [⟨max r.lo s.lo, min r.hi s.hi⟩] else []) ++ if r.hi < s.hi then andZ x (s :: y) else andZ (r :: x) y
  | _, _ => []
termination_by x y => x.length + y.length
def notZ : Int → List Rg → List Rg
  | b, [] => if b ≤ 4294967295 then [⟨b, 4294967295⟩] else []
  | b, r :: z => (if b < r.lo then [⟨b, r.lo - 1⟩] else []) ++ notZ (r.hi + 1) z
end Go.Proofs.YtanimmdlgmkmkaaGreat.Av.Zn


/- label: the live question. -/
namespace Go.Proofs.YtanimmdlgmkmkaaGreat.Av
open Go
set_option linter.unusedSimpArgs false
set_option linter.unusedVariables false
set_option maxRecDepth 100000
set_option maxHeartbeats 4000000
set_option pp.maxSteps 600

theorem netN_right : rightN netN = true := by decide +kernel
theorem netN_here : hereI netN.rules 5 = true := by decide +kernel
theorem net_at1 : atLab (labOf netN) 2 1 = some (-3) := by decide +kernel
theorem net_at2 : atLab (delLab (labOf netN) netN 5) 2 1 = some (-1) := by decide +kernel
theorem net_atom : atomT (labOf netN).t 1 = some ⟨20, 24⟩ := by decide +kernel
theorem net_len1 : ((labOf netN).t.getD newTab).b.sz = 7 := by decide +kernel
theorem net_len2 : ((delLab (labOf netN) netN 5).t.getD newTab).b.sz = 5 := by decide +kernel
theorem rows_small {L : Lab} {n : Nw} (h : LabRep L n) : L.rows.length < 2 ^ 60 ∧ ∀ r ∈ L.rows, r.length < 2 ^ 60 := by
  have h1 := (right_few h.right).2
  have h2 := rep_size h.rep h.right
  rw [rep_len h.rep] at h2
  refine ⟨by rw [h.rows]; simp; omega, fun r hr => ?_⟩
  rw [h.rows] at hr
  obtain ⟨d, -, rfl⟩ := List.mem_map.1 hr
  unfold rowC
  rw [List.length_map, atomsC_len]; omega
theorem alive10_calls : PCalls Tryz.prog 23 [] (.raw (.bool true)) := by
  have hn := net_calls
  have r1 := labOf_rep netN_ok netN_right
  have r2 := delLab_rep r1 netN_here
  have hof := of_calls netN flN netN_ok
  have e0 : ofL netN = (some (labOf netN), 0) := by unfold ofL; rw [netN_right]; rfl
  rw [e0] at hof
  have hd := del_calls r1 5 netN_here
  have ha1 := labAt_calls (labOf netN) 2 1 (rows_small r1).1 (rows_small r1).2
  have ha2 := labAt_calls (delLab (labOf netN) netN 5) 2 1 (rows_small r2).1 (rows_small r2).2
  have hat := labAtom_calls (some (labOf netN)) 1 fun M h => by injection h with h; rw [← h, net_len1]; decide
  have hl1 := labAtoms_calls (some (labOf netN))
  have hl2 := labAtoms_calls (some (delLab (labOf netN) netN 5))
  rw [net_at1] at ha1
  rw [net_at2] at ha2
  simp only [Option.bind_some, net_atom, Option.getD_some, Option.isSome_some] at ha1 ha2 hat
  simp only [net_len1] at hl1
  simp only [net_len2] at hl2
  have hrg : rgAV ⟨20, 24⟩ = .agg [.raw (.int .u32 20), .raw (.int .u32 24)] := rfl
  rw [hrg] at hat
  have hids1 := labO_ids (fun _ => False) (some (labOf netN))
  have hids2 := labO_ids (fun _ => False) (some (delLab (labOf netN) netN 5))
  obtain ⟨L, hL⟩ : ∃ L, labOf netN = L := ⟨_, rfl⟩
  obtain ⟨M, hM⟩ : ∃ M, delLab (labOf netN) netN 5 = M := ⟨_, rfl⟩
  rw [hM] at hd ha2 hl2 hids2
  rw [hL] at hof hd ha1 hat hl1 hids1
  obtain ⟨cL, hcL⟩ : ∃ c, labC L = c := ⟨_, rfl⟩
  have e1 : labO (some L) = .pp cL 0 := by rw [← hcL]; rfl
  rw [e1] at hof hd ha1 hat hl1 hids1
  clear r1 r2 e0 hL hM e1 hcL
  generalize netN = N at hn hof
  refine pbody Tryz.func23 rfl (N := 76) rfl rfl (by simp) (by simp [noIds]) fun σ => ?_
  (try ((first | with_reducible refine dops_go ?_ | with_reducible refine OKv_go ?_ | with_reducible refine OKr_go ?_); simp [-cellOK, nw_cells, nw_fold, new_m, set_m, new_nx'])); repeat' (first | refine awp_seq ?_ | refine awp_block ?_ | (refine awp_skip ?_; try simp) | (refine awp_exit ?_; try simp) | (refine awp_ret ?_; try simp) | (refine retP_same (by simp) ?_; simp) | (refine retP_no (by simp) (by simp [noIds]) (by repeat (first | assumption | exact Ext.refl _ | refine ext_new' ?_ | refine Ext.setF ?_ (by first | assumption | (simp [new_nx', St.set, fresh_none]; done) | exact ext_fresh (by assumption)))) ?_; simp [-cellOK, nw_cells, nw_fold, new_m, set_m, new_nx', new_m, set_m, new_nx']) | ((first | refine awp_reg ?_ | refine awp_drawT (fun _ => false) mixed (by decide +kernel) ?_ | refine awp_drawT isCallO mixed (by decide +kernel) ?_ | refine PCalls.use (hn) ?_ | refine Or.inl ⟨_, Or.inl (hn), ?_⟩ | refine PCalls.use (hof) ?_ | refine Or.inl ⟨_, Or.inl (hof), ?_⟩ | refine PCalls.use (hd) ?_ | refine Or.inl ⟨_, Or.inl (hd), ?_⟩ | refine PCalls.use (ha1) ?_ | refine Or.inl ⟨_, Or.inl (ha1), ?_⟩ | refine PCalls.use (ha2) ?_ | refine Or.inl ⟨_, Or.inl (ha2), ?_⟩ | refine PCalls.use (hat) ?_ | refine Or.inl ⟨_, Or.inl (hat), ?_⟩ | refine PCalls.use (hl1) ?_ | refine Or.inl ⟨_, Or.inl (hl1), ?_⟩ | refine PCalls.use (hl2) ?_ | refine Or.inl ⟨_, Or.inl (hl2), ?_⟩); simp [-cellOK, nw_cells, nw_fold, new_m, set_m, new_nx']) | (refine guarded_split ?_ ?_ <;> (intro hg; simp only [hg]; simp [-cellOK, nw_cells, nw_fold, new_m, set_m, new_nx'])) | (apply awp_cond_t; focus (simp [-cellOK, nw_cells, nw_fold, new_m, set_m, new_nx']; done)) | (apply awp_cond_f; focus (simp [-cellOK, nw_cells, nw_fold, new_m, set_m, new_nx']; done)) | (refine awp_cond ?_; simp [-cellOK, nw_cells, nw_fold, new_m, set_m, new_nx']; refine ⟨?_, ?_⟩ <;> intro hc) | fail)
end Go.Proofs.YtanimmdlgmkmkaaGreat.Av


/- label: the network of labels; no labels; the law LabelNil walked. -/
namespace Go.Proofs.YtanimmdlgmkmkaaGreat.Av
open Go
set_option linter.unusedSimpArgs false
set_option linter.unusedVariables false
set_option maxRecDepth 100000
set_option maxHeartbeats 4000000
set_option pp.maxSteps 600

def nw0AV : AV := .agg [.sl 0 [] true, .sl 0 [] true, .sl 0 [] true]
theorem labNet_calls (L : Lab) (hn : NwOK L.n) : PCalls Tryz.prog 79 [labO (some L)] (nwAV L.n flN) := by
  have h := own_calls L.n flN hn
  have hfl : AV.agg [intsAV L.n.t.ports false, linksAV L.n.t.links false, rulesAV L.n.rules false] = nwAV L.n flN := rfl
  have hnp : setPart (AV.agg [.sl 0 [] true, .sl 0 [] true, .sl 0 [] true]) 0 [intsAV L.n.t.ports flN.p, linksAV L.n.t.links flN.l, rulesAV L.n.rules flN.r] = nwAV L.n flN := rfl
  refine pbody Tryz.func79 rfl (N := 11) rfl rfl (by simp) (by simp [noIds]) fun σ => ?_
  (try ((first | with_reducible refine dops_go ?_ | with_reducible refine OKv_go ?_ | with_reducible refine OKr_go ?_); simp [-cellOK, labO, labC, hfl, nw_cells, nw_fold, hnp, new_m, set_m, new_nx'])); repeat' (first | refine awp_seq ?_ | refine awp_block ?_ | (refine awp_skip ?_; try simp) | (refine awp_exit ?_; try simp) | (refine awp_ret ?_; try simp) | (refine retP_same (by simp) ?_; simp) | (refine retP_no (by simp) (by simp [noIds]) (by repeat (first | assumption | exact Ext.refl _ | refine ext_new' ?_ | refine Ext.setF ?_ (by first | assumption | (simp [new_nx', St.set, fresh_none]; done) | exact ext_fresh (by assumption)))) ?_; simp [-cellOK, labO, labC, hfl, nw_cells, nw_fold, hnp, new_m, set_m, new_nx', new_m, set_m, new_nx']) | ((first | refine awp_reg ?_ | refine awp_drawT (fun _ => false) mixed (by decide +kernel) ?_ | refine awp_drawT isCallO mixed (by decide +kernel) ?_ | refine PCalls.use (h) ?_ | refine Or.inl ⟨_, Or.inl (h), ?_⟩); simp [-cellOK, labO, labC, hfl, nw_cells, nw_fold, hnp, new_m, set_m, new_nx']) | (refine guarded_split ?_ ?_ <;> (intro hg; simp only [hg]; simp [-cellOK, labO, labC, hfl, nw_cells, nw_fold, hnp, new_m, set_m, new_nx'])) | (apply awp_cond_t; focus (simp [-cellOK, labO, labC, hfl, nw_cells, nw_fold, hnp, new_m, set_m, new_nx']; done)) | (apply awp_cond_f; focus (simp [-cellOK, labO, labC, hfl, nw_cells, nw_fold, hnp, new_m, set_m, new_nx']; done)) | (refine awp_cond ?_; simp [-cellOK, labO, labC, hfl, nw_cells, nw_fold, hnp, new_m, set_m, new_nx']; refine ⟨?_, ?_⟩ <;> intro hc) | fail)
end Go.Proofs.YtanimmdlgmkmkaaGreat.Av

