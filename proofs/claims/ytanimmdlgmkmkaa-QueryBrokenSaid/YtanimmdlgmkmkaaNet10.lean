/- The queries' laws: the program walked, and plain laws of what it computes. Part 10 of 13: AvN18, AvN19, AvN20, AvN21, AvN32, AvN23, AvN24, AvN16, AvN31, AvN33, AvNG, AvN36. -/
import Derived.Test.YtanimmdlgmkmkaaNet6
import Derived.Test.YtanimmdlgmkmkaaNet7
import Derived.Test.YtanimmdlgmkmkaaNet8
import Derived.Test.YtanimmdlgmkmkaaNet9

/- Networks: the document's step. -/
namespace Go.Proofs.Ytanimmdlgmkmkaa.Av
open Go
set_option linter.unusedSimpArgs false
set_option linter.unusedVariables false
set_option maxRecDepth 100000
set_option maxHeartbeats 2000000
set_option pp.maxSteps 600

/-- The step as the document says it. -/
def refStepF (n : Nw) (d a : Int) : Int × Pt :=
  if refDeniesB n.rules d a = true then (2, ⟨0, 0⟩) else if n.rules.any (refP d a false) = false then (0, ⟨0, 0⟩) else if (minR (n.rules.filter (refP d a false))).kind = 1 then (1, ⟨0, 0⟩)
  else if (refNextL n.t.links ⟨d, (minR (n.rules.filter (refP d a false))).port⟩).isSome = true then (4, ⟨d, (minR (n.rules.filter (refP d a false))).port⟩) else (3, ⟨d, (minR (n.rules.filter (refP d a false))).port⟩)
theorem refStep_calls (n : Nw) (f : Fl) (d a : Int) (hl : n.t.links.length < 2 ^ 60) (hl2 : n.rules.length < 2932031007403) :
    PCalls Try.prog 53 [nwAV n f, .raw (.int .i64 d), .raw (.int .u32 a)] (.tup [.raw (.int .i64 (refStepF n d a).1), ptAV (refStepF n d a).2]) := by
  have hd := refDenies_calls n.rules f.r d a hl2
  have hm := refMatch_calls n.rules f.r d a hl2
  have hn := fun p => refNext_calls n.t f p hl
  unfold refStepF
  obtain ⟨b1, h1⟩ : ∃ b, refDeniesB n.rules d a = b := ⟨_, rfl⟩
  obtain ⟨b2, h2⟩ : ∃ b, n.rules.any (refP d a false) = b := ⟨_, rfl⟩
  obtain ⟨r, hr⟩ : ∃ r, minR (n.rules.filter (refP d a false)) = r := ⟨_, rfl⟩
  rw [h1] at hd
  rw [h2, hr] at hm
  rw [h1, h2, hr]
  clear h1 h2 hr
  have hn := hn ⟨d, r.port⟩
  obtain ⟨b3, h3⟩ : ∃ b, (refNextL n.t.links ⟨d, r.port⟩).isSome = b := ⟨_, rfl⟩
  obtain ⟨q, hq⟩ : ∃ q, (refNextL n.t.links ⟨d, r.port⟩).getD ⟨0, 0⟩ = q := ⟨_, rfl⟩
  rw [h3, hq] at hn
  rw [h3]
  refine pbody Try.func53 rfl (N := 50) rfl rfl (by simp) (by simp [noIds, ptAV]) fun σ => ?_
  have ho1 : cellOK (intsAV n.t.ports f.p) = true := rfl
  have ho2 : cellOK (linksAV n.t.links f.l) = true := rfl
  have ho3 : cellOK (rulesAV n.rules f.r) = true := rfl
  simp only [cellOK] at ho1 ho2 ho3
  have hpf : ∀ x y : Int, AV.agg [.raw (.int .i64 x), .raw (.int .i64 y)] = ptAV ⟨x, y⟩ := fun _ _ => rfl
  have hpc : ∀ q : Pt, (ptAV q).cells = [.raw (.int .i64 q.dev), .raw (.int .i64 q.port)] := fun q => rfl
  have hps : ∀ (q : Pt) (x y : Int), setPart (ptAV q) 0 [.raw (.int .i64 x), .raw (.int .i64 y)] = ptAV ⟨x, y⟩ := fun _ _ _ => rfl
  have f7 : σ.m ⟨7, σ.nx 7, 2⟩ = none := fresh_none _ _ _
  have hnf : AV.agg [intsAV n.t.ports f.p, linksAV n.t.links f.l] = tpAV n.t f := rfl
  (try (first | (with_reducible refine dops_go ?_; simp [nw_cells, ho1, ho2, ho3, hpf, hpc, hps]) | (with_reducible refine OKv_go ?_; simp [nw_cells, ho1, ho2, ho3, hpf, hpc, hps]) | (with_reducible refine OKr_go ?_; simp [nw_cells, ho1, ho2, ho3, hpf, hpc, hps]))); repeat' (first | refine awp_seq ?_ | refine awp_block ?_ | (refine awp_skip ?_; try simp) | (refine awp_exit ?_; try simp) | (refine awp_ret ?_; try simp) | (refine retP_same (by simp) ?_; simp) | (refine retP_flat (by simp) (by simp) (by simp (maxDischargeDepth := 30) [nw_cells, ho1, ho2, ho3, hpf, hpc, hps]) ?_; simp) | (refine awp_reg ?_; simp [nw_cells, ho1, ho2, ho3, hpf, hpc, hps]) | (refine awp_drawT (fun _ => false) mixed (by decide +kernel) ?_; simp [nw_cells, ho1, ho2, ho3, hpf, hpc, hps]) | (refine guarded_split ?_ ?_ <;> (intro hg; simp only [hg]; simp [nw_cells, ho1, ho2, ho3, hpf, hpc, hps])) | (apply awp_cond_t; focus (simp [nw_cells, ho1, ho2, ho3, hpf, hpc, hps]; done)) | (apply awp_cond_f; focus (simp [nw_cells, ho1, ho2, ho3, hpf, hpc, hps]; done)) | (refine awp_cond ?_; simp [nw_cells, ho1, ho2, ho3, hpf, hpc, hps]; refine ⟨?_, ?_⟩ <;> intro hc))
  refine PCalls.use hd ?_
  cases b1 with
  | true =>
    (try (first | (with_reducible refine dops_go ?_; simp [nw_cells, ho1, ho2, ho3, hpf, hpc, hps]) | (with_reducible refine OKv_go ?_; simp [nw_cells, ho1, ho2, ho3, hpf, hpc, hps]) | (with_reducible refine OKr_go ?_; simp [nw_cells, ho1, ho2, ho3, hpf, hpc, hps]))); repeat' (first | refine awp_seq ?_ | refine awp_block ?_ | (refine awp_skip ?_; try simp) | (refine awp_exit ?_; try simp) | (refine awp_ret ?_; try simp) | (refine awp_reg ?_; simp [nw_cells, ho1, ho2, ho3, hpf, hpc, hps]) | (refine awp_drawT (fun _ => false) mixed (by decide +kernel) ?_; simp [nw_cells, ho1, ho2, ho3, hpf, hpc, hps]) | (refine guarded_split ?_ ?_ <;> (intro hg; simp only [hg]; simp [nw_cells, ho1, ho2, ho3, hpf, hpc, hps])) | (apply awp_cond_t; focus (simp [nw_cells, ho1, ho2, ho3, hpf, hpc, hps]; done)) | (apply awp_cond_f; focus (simp [nw_cells, ho1, ho2, ho3, hpf, hpc, hps]; done)) | (refine awp_cond ?_; simp [nw_cells, ho1, ho2, ho3, hpf, hpc, hps]; refine ⟨?_, ?_⟩ <;> intro hc))
    refine retP_flat (.inr rfl) rfl (by repeat (first | exact Ext.refl _ | refine ext_new' ?_ | refine Ext.setF ?_ (by simp [new_nx', St.set, fresh_none]))) ?_
    simp [St.set, St.new, hpc, hpf, hps]
  | false =>
    (try (first | (with_reducible refine dops_go ?_; simp [nw_cells, ho1, ho2, ho3, hpf, hpc, hps]) | (with_reducible refine OKv_go ?_; simp [nw_cells, ho1, ho2, ho3, hpf, hpc, hps]) | (with_reducible refine OKr_go ?_; simp [nw_cells, ho1, ho2, ho3, hpf, hpc, hps]))); repeat' (first | refine awp_seq ?_ | refine awp_block ?_ | (refine awp_skip ?_; try simp) | (refine awp_exit ?_; try simp) | (refine awp_ret ?_; try simp) | (refine retP_same (by simp) ?_; simp) | (refine retP_flat (by simp) (by simp) (by simp (maxDischargeDepth := 30) [nw_cells, ho1, ho2, ho3, hpf, hpc, hps]) ?_; simp) | (refine awp_reg ?_; simp [nw_cells, ho1, ho2, ho3, hpf, hpc, hps]) | (refine awp_drawT (fun _ => false) mixed (by decide +kernel) ?_; simp [nw_cells, ho1, ho2, ho3, hpf, hpc, hps]) | (refine guarded_split ?_ ?_ <;> (intro hg; simp only [hg]; simp [nw_cells, ho1, ho2, ho3, hpf, hpc, hps])) | (apply awp_cond_t; focus (simp [nw_cells, ho1, ho2, ho3, hpf, hpc, hps]; done)) | (apply awp_cond_f; focus (simp [nw_cells, ho1, ho2, ho3, hpf, hpc, hps]; done)) | (refine awp_cond ?_; simp [nw_cells, ho1, ho2, ho3, hpf, hpc, hps]; refine ⟨?_, ?_⟩ <;> intro hc))
    refine PCalls.use hm ?_
    cases b2 with
    | false =>
      (try (first | (with_reducible refine dops_go ?_; simp [nw_cells, ho1, ho2, ho3, hpf, hpc, hps, ru_cells, ru_ok, ru_fold]) | (with_reducible refine OKv_go ?_; simp [nw_cells, ho1, ho2, ho3, hpf, hpc, hps, ru_cells, ru_ok, ru_fold]) | (with_reducible refine OKr_go ?_; simp [nw_cells, ho1, ho2, ho3, hpf, hpc, hps, ru_cells, ru_ok, ru_fold]))); repeat' (first | refine awp_seq ?_ | refine awp_block ?_ | (refine awp_skip ?_; try simp) | (refine awp_exit ?_; try simp) | (refine awp_ret ?_; try simp) | (refine awp_reg ?_; simp [nw_cells, ho1, ho2, ho3, hpf, hpc, hps, ru_cells, ru_ok, ru_fold]) | (refine awp_drawT (fun _ => false) mixed (by decide +kernel) ?_; simp [nw_cells, ho1, ho2, ho3, hpf, hpc, hps, ru_cells, ru_ok, ru_fold]) | (refine guarded_split ?_ ?_ <;> (intro hg; simp only [hg]; simp [nw_cells, ho1, ho2, ho3, hpf, hpc, hps, ru_cells, ru_ok, ru_fold])) | (apply awp_cond_t; focus (simp [nw_cells, ho1, ho2, ho3, hpf, hpc, hps, ru_cells, ru_ok, ru_fold]; done)) | (apply awp_cond_f; focus (simp [nw_cells, ho1, ho2, ho3, hpf, hpc, hps, ru_cells, ru_ok, ru_fold]; done)) | (refine awp_cond ?_; simp [nw_cells, ho1, ho2, ho3, hpf, hpc, hps, ru_cells, ru_ok, ru_fold]; refine ⟨?_, ?_⟩ <;> intro hc))
      refine retP_flat (.inr rfl) rfl (by repeat (first | exact Ext.refl _ | refine ext_new' ?_ | refine Ext.setF ?_ (by simp [new_nx', St.set, fresh_none]))) ?_
      simp [St.set, St.new, hpc, hpf, hps]
    | true =>
      by_cases hk : r.kind = 1
      · (try (first | (with_reducible refine dops_go ?_; simp [nw_cells, ho1, ho2, ho3, hpf, hpc, hps, ru_cells, ru_ok, ru_fold, hk]) | (with_reducible refine OKv_go ?_; simp [nw_cells, ho1, ho2, ho3, hpf, hpc, hps, ru_cells, ru_ok, ru_fold, hk]) | (with_reducible refine OKr_go ?_; simp [nw_cells, ho1, ho2, ho3, hpf, hpc, hps, ru_cells, ru_ok, ru_fold, hk]))); repeat' (first | refine awp_seq ?_ | refine awp_block ?_ | (refine awp_skip ?_; try simp) | (refine awp_exit ?_; try simp) | (refine awp_ret ?_; try simp) | (refine awp_reg ?_; simp [nw_cells, ho1, ho2, ho3, hpf, hpc, hps, ru_cells, ru_ok, ru_fold, hk]) | (refine awp_drawT (fun _ => false) mixed (by decide +kernel) ?_; simp [nw_cells, ho1, ho2, ho3, hpf, hpc, hps, ru_cells, ru_ok, ru_fold, hk]) | (refine guarded_split ?_ ?_ <;> (intro hg; simp only [hg]; simp [nw_cells, ho1, ho2, ho3, hpf, hpc, hps, ru_cells, ru_ok, ru_fold, hk])) | (apply awp_cond_t; focus (simp [nw_cells, ho1, ho2, ho3, hpf, hpc, hps, ru_cells, ru_ok, ru_fold, hk]; done)) | (apply awp_cond_f; focus (simp [nw_cells, ho1, ho2, ho3, hpf, hpc, hps, ru_cells, ru_ok, ru_fold, hk]; done)) | (refine awp_cond ?_; simp [nw_cells, ho1, ho2, ho3, hpf, hpc, hps, ru_cells, ru_ok, ru_fold, hk]; refine ⟨?_, ?_⟩ <;> intro hc))
        refine retP_flat (.inr rfl) rfl (by repeat (first | exact Ext.refl _ | refine ext_new' ?_ | refine Ext.setF ?_ (by simp [new_nx', St.set, fresh_none]))) ?_
        simp [St.set, St.new, hpc, hpf, hps, hk]
      · (try (first | (with_reducible refine dops_go ?_; simp [nw_cells, ho1, ho2, ho3, hpf, hpc, hps, ru_cells, ru_ok, ru_fold, hk, hnf, new_m, set_m, new_nx']) | (with_reducible refine OKv_go ?_; simp [nw_cells, ho1, ho2, ho3, hpf, hpc, hps, ru_cells, ru_ok, ru_fold, hk, hnf, new_m, set_m, new_nx']) | (with_reducible refine OKr_go ?_; simp [nw_cells, ho1, ho2, ho3, hpf, hpc, hps, ru_cells, ru_ok, ru_fold, hk, hnf, new_m, set_m, new_nx']))); repeat' (first | refine awp_seq ?_ | refine awp_block ?_ | (refine awp_skip ?_; try simp) | (refine awp_exit ?_; try simp) | (refine awp_ret ?_; try simp) | (refine retP_same (by simp) ?_; simp) | (refine retP_flat (by simp) (by simp) (by simp (maxDischargeDepth := 30) [nw_cells, ho1, ho2, ho3, hpf, hpc, hps, ru_cells, ru_ok, ru_fold, hk, hnf, new_m, set_m, new_nx']) ?_; simp) | (refine awp_reg ?_; simp [nw_cells, ho1, ho2, ho3, hpf, hpc, hps, ru_cells, ru_ok, ru_fold, hk, hnf, new_m, set_m, new_nx']) | (refine awp_drawT (fun _ => false) mixed (by decide +kernel) ?_; simp [nw_cells, ho1, ho2, ho3, hpf, hpc, hps, ru_cells, ru_ok, ru_fold, hk, hnf, new_m, set_m, new_nx']) | (refine guarded_split ?_ ?_ <;> (intro hg; simp only [hg]; simp [nw_cells, ho1, ho2, ho3, hpf, hpc, hps, ru_cells, ru_ok, ru_fold, hk, hnf, new_m, set_m, new_nx'])) | (apply awp_cond_t; focus (simp [nw_cells, ho1, ho2, ho3, hpf, hpc, hps, ru_cells, ru_ok, ru_fold, hk, hnf, new_m, set_m, new_nx']; done)) | (apply awp_cond_f; focus (simp [nw_cells, ho1, ho2, ho3, hpf, hpc, hps, ru_cells, ru_ok, ru_fold, hk, hnf, new_m, set_m, new_nx']; done)) | (refine awp_cond ?_; simp [nw_cells, ho1, ho2, ho3, hpf, hpc, hps, ru_cells, ru_ok, ru_fold, hk, hnf, new_m, set_m, new_nx']; refine ⟨?_, ?_⟩ <;> intro hc))
        refine PCalls.use hn ?_
        cases b3 with
        | true =>
          (try (first | (with_reducible refine dops_go ?_; simp [nw_cells, ho1, ho2, ho3, hpf, hpc, hps, ru_cells, ru_ok, ru_fold, hk, hnf, new_m, set_m, new_nx']) | (with_reducible refine OKv_go ?_; simp [nw_cells, ho1, ho2, ho3, hpf, hpc, hps, ru_cells, ru_ok, ru_fold, hk, hnf, new_m, set_m, new_nx']) | (with_reducible refine OKr_go ?_; simp [nw_cells, ho1, ho2, ho3, hpf, hpc, hps, ru_cells, ru_ok, ru_fold, hk, hnf, new_m, set_m, new_nx']))); repeat' (first | refine awp_seq ?_ | refine awp_block ?_ | (refine awp_skip ?_; try simp) | (refine awp_exit ?_; try simp) | (refine awp_ret ?_; try simp) | (refine awp_reg ?_; simp [nw_cells, ho1, ho2, ho3, hpf, hpc, hps, ru_cells, ru_ok, ru_fold, hk, hnf, new_m, set_m, new_nx']) | (refine awp_drawT (fun _ => false) mixed (by decide +kernel) ?_; simp [nw_cells, ho1, ho2, ho3, hpf, hpc, hps, ru_cells, ru_ok, ru_fold, hk, hnf, new_m, set_m, new_nx']) | (refine guarded_split ?_ ?_ <;> (intro hg; simp only [hg]; simp [nw_cells, ho1, ho2, ho3, hpf, hpc, hps, ru_cells, ru_ok, ru_fold, hk, hnf, new_m, set_m, new_nx'])) | (apply awp_cond_t; focus (simp [nw_cells, ho1, ho2, ho3, hpf, hpc, hps, ru_cells, ru_ok, ru_fold, hk, hnf, new_m, set_m, new_nx']; done)) | (apply awp_cond_f; focus (simp [nw_cells, ho1, ho2, ho3, hpf, hpc, hps, ru_cells, ru_ok, ru_fold, hk, hnf, new_m, set_m, new_nx']; done)) | (refine awp_cond ?_; simp [nw_cells, ho1, ho2, ho3, hpf, hpc, hps, ru_cells, ru_ok, ru_fold, hk, hnf, new_m, set_m, new_nx']; refine ⟨?_, ?_⟩ <;> intro hc))
          refine retP_flat (.inr rfl) rfl (by repeat (first | exact Ext.refl _ | refine ext_new' ?_ | refine Ext.setF ?_ (by simp [new_nx', St.set, fresh_none]))) ?_
          simp [St.set, St.new, hpc, hpf, hps, hk]
        | false =>
          (try (first | (with_reducible refine dops_go ?_; simp [nw_cells, ho1, ho2, ho3, hpf, hpc, hps, ru_cells, ru_ok, ru_fold, hk, hnf, new_m, set_m, new_nx']) | (with_reducible refine OKv_go ?_; simp [nw_cells, ho1, ho2, ho3, hpf, hpc, hps, ru_cells, ru_ok, ru_fold, hk, hnf, new_m, set_m, new_nx']) | (with_reducible refine OKr_go ?_; simp [nw_cells, ho1, ho2, ho3, hpf, hpc, hps, ru_cells, ru_ok, ru_fold, hk, hnf, new_m, set_m, new_nx']))); repeat' (first | refine awp_seq ?_ | refine awp_block ?_ | (refine awp_skip ?_; try simp) | (refine awp_exit ?_; try simp) | (refine awp_ret ?_; try simp) | (refine awp_reg ?_; simp [nw_cells, ho1, ho2, ho3, hpf, hpc, hps, ru_cells, ru_ok, ru_fold, hk, hnf, new_m, set_m, new_nx']) | (refine awp_drawT (fun _ => false) mixed (by decide +kernel) ?_; simp [nw_cells, ho1, ho2, ho3, hpf, hpc, hps, ru_cells, ru_ok, ru_fold, hk, hnf, new_m, set_m, new_nx']) | (refine guarded_split ?_ ?_ <;> (intro hg; simp only [hg]; simp [nw_cells, ho1, ho2, ho3, hpf, hpc, hps, ru_cells, ru_ok, ru_fold, hk, hnf, new_m, set_m, new_nx'])) | (apply awp_cond_t; focus (simp [nw_cells, ho1, ho2, ho3, hpf, hpc, hps, ru_cells, ru_ok, ru_fold, hk, hnf, new_m, set_m, new_nx']; done)) | (apply awp_cond_f; focus (simp [nw_cells, ho1, ho2, ho3, hpf, hpc, hps, ru_cells, ru_ok, ru_fold, hk, hnf, new_m, set_m, new_nx']; done)) | (refine awp_cond ?_; simp [nw_cells, ho1, ho2, ho3, hpf, hpc, hps, ru_cells, ru_ok, ru_fold, hk, hnf, new_m, set_m, new_nx']; refine ⟨?_, ?_⟩ <;> intro hc))
          refine retP_flat (.inr rfl) rfl (by repeat (first | exact Ext.refl _ | refine ext_new' ?_ | refine Ext.setF ?_ (by simp [new_nx', St.set, fresh_none]))) ?_
          simp [St.set, St.new, hpc, hpf, hps, hk]
end Go.Proofs.Ytanimmdlgmkmkaa.Av


/- Networks, plain laws: the program's next port is the document's on right topologies. -/
namespace Go.Proofs.Ytanimmdlgmkmkaa.Av
open Go
set_option linter.unusedSimpArgs false
set_option linter.unusedVariables false
set_option maxRecDepth 100000

def lookF (m : List (Pt × Pt)) (p : Pt) : Option Pt := (m.find? fun e => decide (p = e.1)).map (·.2)
theorem lookF_upd (m : List (Pt × Pt)) (k v p : Pt) : lookF (upd m k v) p = if p = k then some v else lookF m p := by
  unfold lookF upd
  rw [List.find?_append, List.find?_filter]
  by_cases h : p = k
  · have : m.find? (fun a => decide (decide (k ≠ a.1) = true ∧ decide (p = a.1) = true)) = none := by
      rw [List.find?_eq_none]
      intro x hx
      subst h
      simp
    rw [this, if_pos h]
    simp [h]
  · have : (fun a : Pt × Pt => decide (decide (k ≠ a.1) = true ∧ decide (p = a.1) = true)) = fun a => decide (p = a.1) := by
      funext a
      by_cases h2 : p = a.1
      · have : k ≠ a.1 := fun q => h (h2.trans q.symm)
        simp [h2, this]
      · simp [h2]
    rw [this, if_neg h]
    simp [h]
/-- The ports of links, one after the other. -/
def flatP : List Lk → List Pt
  | [] => []
  | l :: ls => l.a :: l.b :: flatP ls
theorem refNext_none {ls : List Lk} {p : Pt} (h : p ∉ flatP ls) : refNextL ls p = none := by
  induction ls with
  | nil => rfl
  | cons l ls ih =>
    simp only [flatP, List.mem_cons, not_or] at h
    simp only [refNextL]
    rw [if_neg (fun q => h.1 q.symm), if_neg (fun q => h.2.1 q.symm)]
    exact ih h.2.2
theorem look_fold (ls : List Lk) (m : List (Pt × Pt)) (p : Pt) (h : (flatP ls).Nodup) :
    lookF (ls.foldl (fun m l => upd (upd m l.a l.b) l.b l.a) m) p = (refNextL ls p).or (lookF m p) := by
  induction ls generalizing m with
  | nil => simp [refNextL]
  | cons l ls ih =>
    simp only [flatP, List.nodup_cons, List.mem_cons, not_or] at h
    obtain ⟨⟨hab, ha⟩, hb, hn⟩ := h
    rw [List.foldl_cons, ih _ hn, lookF_upd, lookF_upd]
    simp only [refNextL]
    by_cases h1 : l.a = p
    · subst h1
      rw [refNext_none ha, if_neg hab]
      simp
    · by_cases h2 : l.b = p
      · subst h2
        rw [refNext_none hb]
        simp [h1]
      · have h1' : ¬ p = l.a := fun q => h1 q.symm
        have h2' : ¬ p = l.b := fun q => h2 q.symm
        simp [h1, h2, h1', h2']
theorem nextM_eq (t : Tp) (p : Pt) (h : (flatP t.links).Nodup) : nextM t p = refNextL t.links p := by
  have := look_fold t.links [] p h
  unfold lookF at this
  unfold nextM joinM
  rw [this]
  simp
end Go.Proofs.Ytanimmdlgmkmkaa.Av


/- Networks, plain laws: the map is full exactly if no port is joined twice. -/
namespace Go.Proofs.Ytanimmdlgmkmkaa.Av
open Go
set_option linter.unusedSimpArgs false
set_option linter.unusedVariables false
set_option maxRecDepth 100000

theorem upd_len (m : List (Pt × Pt)) (k v : Pt) : (upd m k v).length ≤ m.length + 1 ∧ ((upd m k v).length = m.length + 1 ↔ k ∉ m.map (·.1)) := by
  have hle : (m.filter fun e => decide (k ≠ e.1)).length ≤ m.length := List.length_filter_le _ _
  have hl : (upd m k v).length = (m.filter fun e => decide (k ≠ e.1)).length + 1 := by simp [upd]
  refine ⟨by omega, ?_⟩
  rw [hl]
  constructor
  · intro h hk
    obtain ⟨e, he, rfl⟩ := List.mem_map.1 hk
    have := List.length_filter_lt_length_iff_exists (p := fun x : Pt × Pt => decide (e.1 ≠ x.1)) (l := m) |>.2 ⟨e, he, by simp⟩
    omega
  · intro h
    have : (m.filter fun e => decide (k ≠ e.1)) = m := by
      rw [List.filter_eq_self]
      intro x hx
      simp only [decide_eq_true_eq]
      intro q
      exact h (q ▸ List.mem_map.2 ⟨x, hx, rfl⟩)
    rw [this]
theorem upd_keys (m : List (Pt × Pt)) (k v x : Pt) : x ∈ (upd m k v).map (·.1) ↔ x = k ∨ x ∈ m.map (·.1) := by
  simp only [upd, List.map_append, List.mem_append, List.map_cons, List.map_nil, List.mem_singleton]
  constructor
  · rintro (h | h)
    · obtain ⟨e, he, rfl⟩ := List.mem_map.1 h
      exact .inr (List.mem_map.2 ⟨e, (List.mem_filter.1 he).1, rfl⟩)
    · exact .inl h
  · rintro (h | h)
    · exact .inr h
    · by_cases q : x = k
      · exact .inr q
      · obtain ⟨e, he, rfl⟩ := List.mem_map.1 h
        exact .inl (List.mem_map.2 ⟨e, List.mem_filter.2 ⟨he, by simpa using fun r => q r.symm⟩, rfl⟩)
theorem fold_len (ls : List Lk) (m : List (Pt × Pt)) :
    (ls.foldl (fun m l => upd (upd m l.a l.b) l.b l.a) m).length ≤ m.length + 2 * ls.length ∧
    ((ls.foldl (fun m l => upd (upd m l.a l.b) l.b l.a) m).length = m.length + 2 * ls.length ↔ (flatP ls).Nodup ∧ ∀ p ∈ flatP ls, p ∉ m.map (·.1)) := by
  induction ls generalizing m with
  | nil => simp [flatP]
  | cons l ls ih =>
    obtain ⟨i1, i2⟩ := ih (upd (upd m l.a l.b) l.b l.a)
    obtain ⟨a1, a2⟩ := upd_len m l.a l.b
    obtain ⟨b1, b2⟩ := upd_len (upd m l.a l.b) l.b l.a
    rw [List.foldl_cons, List.length_cons]
    refine ⟨by omega, ?_⟩
    simp only [upd_keys, not_or] at b2 i2
    simp only [flatP, List.nodup_cons, List.mem_cons, not_or]
    constructor
    · intro h
      have h1 := a2.1 (by omega)
      have h2 := b2.1 (by omega)
      have h3 := i2.1 (by omega)
      refine ⟨⟨⟨fun q => h2.1 q.symm, fun q => (h3.2 _ q).2.1 rfl⟩, fun q => (h3.2 _ q).1 rfl, h3.1⟩, ?_⟩
      rintro p (rfl | rfl | hp)
      · exact h1
      · exact h2.2
      · exact (h3.2 _ hp).2.2
    · rintro ⟨⟨⟨hab, ha⟩, hb, hn⟩, hd⟩
      have e1 := a2.2 (hd _ (.inl rfl))
      have e2 := b2.2 ⟨fun q => hab q.symm, hd _ (.inr (.inl rfl))⟩
      have e3 := i2.2 ⟨hn, fun p hp => ⟨fun q => hb (q ▸ hp), fun q => ha (q ▸ hp), hd _ (.inr (.inr hp))⟩⟩
      omega
theorem joinM_full (ls : List Lk) : (joinM ls).length = 2 * ls.length ↔ (flatP ls).Nodup := by
  have := (fold_len ls []).2
  simpa [joinM] using this
end Go.Proofs.Ytanimmdlgmkmkaa.Av


/- Networks, plain laws: on right networks the program's step is the document's. -/
namespace Go.Proofs.Ytanimmdlgmkmkaa.Av
open Go
set_option linter.unusedSimpArgs false
set_option linter.unusedVariables false
set_option maxRecDepth 100000

theorem allFrom_mem {l : List Ru} {last : Int} (h : allFrom last l = true) : ∀ r ∈ l, ruleB r = true := by
  induction l generalizing last with
  | nil => simp
  | cons x l ih =>
    simp only [allFrom, Bool.and_eq_true] at h
    intro r hr
    rcases List.mem_cons.1 hr with rfl | hr
    · exact h.1.1
    · exact ih h.2 r hr
theorem allB_kind {l : List Ru} (h : allB l = true) : ∀ r ∈ l, 0 ≤ r.kind ∧ r.kind ≤ 3 := by
  intro r hr
  have := allFrom_mem (Bool.and_eq_true _ _ ▸ h : _ ∧ _).1 r hr
  simp only [ruleB, Bool.and_eq_true, decide_eq_true_eq] at this
  exact this.1.1.1.2
theorem any_congr' {l : List Ru} {p q : Ru → Bool} (h : ∀ r ∈ l, p r = q r) : l.any p = l.any q := by
  induction l with
  | nil => rfl
  | cons x l ih =>
    rw [List.any_cons, List.any_cons, h x (by simp), ih fun r hr => h r (List.mem_cons_of_mem _ hr)]
theorem filter_acl {l : List Ru} (h : allB l = true) (d a : Int) : l.filter (refP d a true) = l.filter (aclP d a) := List.filter_congr fun r hr => refP_acl (allB_kind h r hr) d a
theorem filter_fwd {l : List Ru} (h : allB l = true) (d a : Int) : l.filter (refP d a false) = l.filter (fwdP d a) := List.filter_congr fun r hr => refP_fwd (allB_kind h r hr) d a
theorem any_acl {l : List Ru} (h : allB l = true) (d a : Int) : l.any (refP d a true) = l.any (aclP d a) := any_congr' fun r hr => refP_acl (allB_kind h r hr) d a
theorem any_fwd {l : List Ru} (h : allB l = true) (d a : Int) : l.any (refP d a false) = l.any (fwdP d a) := any_congr' fun r hr => refP_fwd (allB_kind h r hr) d a
theorem rightT_nodup {t : Tp} (h : rightT t = true) : (flatP t.links).Nodup := by
  simp only [rightT, Bool.and_eq_true, decide_eq_true_eq] at h
  exact (joinM_full _).1 h.2.2.2.2.2
theorem step_eq {n : Nw} (h : rightN n = true) (d a : Int) : refStepF n d a = stepF n d a := by
  simp only [rightN, Bool.and_eq_true] at h
  obtain ⟨ht, hr, -⟩ := h
  unfold refStepF stepF refDeniesB deniesB matchB matchR
  rw [filter_acl hr, filter_fwd hr, any_acl hr, any_fwd hr, nextM_eq _ _ (rightT_nodup ht)]
end Go.Proofs.Ytanimmdlgmkmkaa.Av


/- Queries, the plain law: addresses between the same cuts fare alike; what a verdict tells. -/
namespace Go.Proofs.Ytanimmdlgmkmkaa.Av
set_option linter.unusedSimpArgs false
set_option linter.unusedVariables false

/-- Two addresses lie on the same side of all cuts. -/
def SameSide (L : List Rg) (a b : Int) : Prop := ∀ x ∈ cutsL L, (x ≤ a ↔ x ≤ b)
theorem side_in {L : List Rg} {a b : Int} (h : SameSide L a b) (ha : a < 4294967296) (hb : b < 4294967296) {r : Rg} (hr : r ∈ L) : (r.lo ≤ a ∧ a ≤ r.hi) ↔ (r.lo ≤ b ∧ b ≤ r.hi) := by
  have hm := (cutsL_cuts L).mem
  have h1 : r.lo ∈ cutsL L := (hm _).2 (.inr ⟨r, hr, by unfold endsR; split <;> simp⟩)
  have k1 := h _ h1
  by_cases q : r.hi < 4294967295
  · have h2 : r.hi + 1 ∈ cutsL L := (hm _).2 (.inr ⟨r, hr, by unfold endsR; rw [if_pos q]; simp⟩)
    have k2 := h _ h2
    constructor <;> rintro ⟨x, y⟩ <;> constructor <;> omega
  · constructor <;> rintro ⟨x, y⟩ <;> constructor <;> omega
theorem step_same {n : Nw} {L : List Rg} (hL : ∀ r ∈ n.rules, r.r ∈ L) {a b : Int} (h : SameSide L a b) (ha : a < 4294967296) (hb : b < 4294967296) (d : Int) : stepF n d a = stepF n d b := by
  have ht : ∀ r ∈ n.rules, takesB r d a = takesB r d b := fun r hr => by
    have := side_in h ha hb (hL r hr)
    unfold takesB
    rw [Bool.eq_iff_iff]
    simp only [Bool.and_eq_true, decide_eq_true_eq]
    rw [this]
  have h1 : ∀ r ∈ n.rules, aclP d a r = aclP d b r := fun r hr => by unfold aclP; rw [ht r hr]
  have h2 : ∀ r ∈ n.rules, fwdP d a r = fwdP d b r := fun r hr => by unfold fwdP; rw [ht r hr]
  have e1 : n.rules.any (aclP d a) = n.rules.any (aclP d b) := any_congr' h1
  have e2 : n.rules.any (fwdP d a) = n.rules.any (fwdP d b) := any_congr' h2
  have e3 : n.rules.filter (aclP d a) = n.rules.filter (aclP d b) := List.filter_congr h1
  have e4 : n.rules.filter (fwdP d a) = n.rules.filter (fwdP d b) := List.filter_congr h2
  unfold stepF deniesB matchB matchR
  rw [e1, e2, e3, e4]
theorem walk_same {n : Nw} {a b : Int} (h : ∀ d, stepF n d a = stepF n d b) : ∀ (f : Nat) (d : Int) (p : List Int), walkT n a f d p = walkT n b f d p
  | 0, d, p => rfl
  | f + 1, d, p => by
    simp only [walkT, h d]
    split
    · rfl
    · split
      · exact walk_same h f _ _
      · rfl
theorem trace_same {n : Nw} {L : List Rg} (hL : ∀ r ∈ n.rules, r.r ∈ L) {a b : Int} (h : SameSide L a b) (ha : a < 4294967296) (hb : b < 4294967296) (d : Int) : traceR n d a = traceR n d b := by
  unfold traceR traceF
  rw [walk_same fun d => step_same hL h ha hb d]

/-! ### Atoms and parts -/
theorem atom_side {c : List Int} (hc : c.Pairwise (· < ·)) {a : Rg} (ha : a ∈ atomsC c) {y z : Int} (hy : a.lo ≤ y ∧ y ≤ a.hi) (hz : a.lo ≤ z ∧ z ≤ a.hi) : ∀ x ∈ c, (x ≤ y ↔ x ≤ z) := by
  intro x hx
  obtain ⟨i, hi⟩ := List.mem_iff_getElem?.1 ha
  rw [atomsC_get] at hi
  cases hci : c[i]? with
  | none => rw [hci] at hi; cases hi
  | some ci =>
    rw [hci] at hi
    simp only [Option.map_some, Option.some.injEq] at hi
    subst hi
    simp only [] at hy hz
    obtain ⟨j, hj⟩ := List.mem_iff_getElem?.1 hx
    obtain ⟨hjl, hje⟩ := List.getElem?_eq_some_iff.1 hj
    obtain ⟨hil, hie⟩ := List.getElem?_eq_some_iff.1 hci
    by_cases hji : j ≤ i
    · have : x ≤ ci := by
        rcases Nat.lt_or_eq_of_le hji with h | h
        · have := List.pairwise_iff_getElem.1 hc j i hjl hil h
          omega
        · subst h; omega
      omega
    · have h1 : i + 1 < c.length := by omega
      have hn : c[i + 1]? = some c[i + 1] := List.getElem?_eq_getElem h1
      rw [hn] at hy hz
      simp only [] at hy hz
      have : c[i + 1] ≤ x := by
        rcases Nat.lt_or_eq_of_le (show i + 1 ≤ j by omega) with h | h
        · have := List.pairwise_iff_getElem.1 hc (i + 1) j h1 hjl h
          omega
        · subst h; omega
      omega
theorem atom_has {c : List Int} {L : List Rg} (h : Cuts c L) {x : Int} (h0 : 0 ≤ x) (h1 : x < 4294967296) : ∃ a ∈ atomsC c, a.lo ≤ x ∧ x ≤ a.hi := by
  obtain ⟨p, hp⟩ : ∃ p, c.countP (fun y => decide (y ≤ x)) = p + 1 := ⟨_, (Nat.succ_pred_eq_of_pos (h.pos h0)).symm⟩
  have hle : c.countP (fun y => decide (y ≤ x)) ≤ c.length := List.countP_le_length
  have hpl : p < c.length := by omega
  have hci : c[p]? = some c[p] := List.getElem?_eq_getElem hpl
  have hs := countP_srt h.srt x
  have k1 := (hs p _ hci).2 (by omega)
  have hg := atomsC_get c p
  rw [hci] at hg
  refine ⟨_, List.mem_of_getElem? hg, k1, ?_⟩
  simp only []
  cases hn : c[p + 1]? with
  | none => simp only []; omega
  | some y =>
    have := hs _ _ hn
    simp only []
    have : ¬ y ≤ x := fun hyx => by have := this.1 hyx; omega
    omega
theorem part_mem {c : List Int} {r p : Rg} (h : p ∈ cutC c r) : ∃ a ∈ atomsC c, a.lo ≤ p.lo ∧ p.hi ≤ a.hi ∧ r.lo ≤ p.lo ∧ p.hi ≤ r.hi ∧ p.lo ≤ p.hi := by
  unfold cutC at h
  obtain ⟨a, ha, hp⟩ := List.mem_filterMap.1 h
  unfold cutOne at hp
  split at hp
  · rename_i hle
    simp only [Option.some.injEq] at hp
    subst hp
    refine ⟨a, ha, ?_⟩
    simp only []
    omega
  · cases hp
theorem part_has {c : List Int} {L : List Rg} (h : Cuts c L) {r : Rg} {x : Int} (h0 : 0 ≤ x) (h1 : x < 4294967296) (hx : r.lo ≤ x ∧ x ≤ r.hi) : ∃ p ∈ cutC c r, p.lo ≤ x ∧ x ≤ p.hi := by
  obtain ⟨a, ha, k1, k2⟩ := atom_has h h0 h1
  refine ⟨⟨max a.lo r.lo, min a.hi r.hi⟩, ?_, by simp only []; omega⟩
  unfold cutC
  refine List.mem_filterMap.2 ⟨a, ha, ?_⟩
  unfold cutOne
  rw [if_pos (by omega)]
theorem atoms_srt : ∀ {c : List Int}, c.Pairwise (· < ·) → (atomsC c).Pairwise fun a b => a.hi < b.lo
  | [], _ => by simp [atomsC]
  | [x], _ => by simp [atomsC]
  | x :: y :: l, h => by
    obtain ⟨h1, h2⟩ := List.pairwise_cons.1 h
    simp only [atomsC]
    refine List.pairwise_cons.2 ⟨fun b hb => ?_, atoms_srt h2⟩
    have : ∀ (l : List Int) (y : Int), (y :: l).Pairwise (· < ·) → ∀ b ∈ atomsC (y :: l), y ≤ b.lo := by
      intro l
      induction l with
      | nil => intro y _ b hb; simp only [atomsC, List.mem_singleton] at hb; subst hb; simp
      | cons z l ih =>
        intro y hy b hb
        obtain ⟨g1, g2⟩ := List.pairwise_cons.1 hy
        simp only [atomsC, List.mem_cons] at hb
        rcases hb with rfl | hb
        · simp
        · have := ih z g2 b hb
          have := g1 z (by simp)
          omega
    have := this l y h2 b hb
    simp only []
    omega
theorem parts_srt {c : List Int} (h : c.Pairwise (· < ·)) (r : Rg) : (cutC c r).Pairwise fun a b => a.hi < b.lo := by
  unfold cutC
  refine List.Pairwise.filterMap (R := fun a b : Rg => a.hi < b.lo) (cutOne r) ?_ (atoms_srt h)
  intro a b hab p hp q hq
  unfold cutOne at hp hq
  split at hp
  · split at hq
    · simp only [Option.some.injEq] at hp hq
      subst hp; subst hq
      simp only []
      omega
    · cases hq
  · cases hp

/-! ### Searching -/
theorem seek_none {n m : Nw} {q : Qy} {d : Int} : ∀ {P : List Rg}, seek n m q d P = none ↔ ∀ p ∈ P, breaksQ q (traceR n d p.lo).1 (traceR m d p.lo).1 = false
  | [] => by simp [seek]
  | r :: rs => by
    simp only [seek]
    split
    · rename_i h; simp [h]
    · rename_i h
      have h : breaksQ q (traceR n d r.lo).1 (traceR m d r.lo).1 = false := by simpa using h
      rw [seek_none]
      simp [h]
theorem seek_some {n m : Nw} {q : Qy} {d : Int} {v : Vd} : ∀ {P : List Rg}, seek n m q d P = some v → ∃ p ∈ P, v = ⟨false, d, p.lo, (traceR n d p.lo).1⟩ ∧ breaksQ q (traceR n d p.lo).1 (traceR m d p.lo).1 = true
  | [], h => by simp [seek] at h
  | r :: rs, h => by
    simp only [seek] at h
    split at h
    · rename_i hb
      simp only [Option.some.injEq] at h
      exact ⟨r, by simp, h.symm, hb⟩
    · obtain ⟨p, hp, h1, h2⟩ := seek_some h
      exact ⟨p, by simp [hp], h1, h2⟩
theorem seek_first {n m : Nw} {q : Qy} {d : Int} {v : Vd} : ∀ {P : List Rg}, (P.Pairwise fun a b => a.hi < b.lo) → (∀ p ∈ P, p.lo ≤ p.hi) → seek n m q d P = some v → ∀ p ∈ P, breaksQ q (traceR n d p.lo).1 (traceR m d p.lo).1 = true → v.addr ≤ p.lo
  | [], _, _, _, p, hp, _ => by simp at hp
  | r :: rs, hs, hl, h, p, hp, hb => by
    obtain ⟨h1, h2⟩ := List.pairwise_cons.1 hs
    simp only [seek] at h
    split at h
    · simp only [Option.some.injEq] at h
      subst h
      rcases List.mem_cons.1 hp with rfl | hp
      · simp
      · have := h1 p hp
        have := hl r (by simp)
        simp only []
        omega
    · rename_i hn
      rcases List.mem_cons.1 hp with rfl | hp
      · exact absurd hb hn
      · exact seek_first h2 (fun p hp => hl p (by simp [hp])) h p hp hb
theorem seeks_none {n m : Nw} {q : Qy} {P : List Rg} : ∀ {S : List Int}, seeks n m q P S = none ↔ ∀ d ∈ S, ∀ p ∈ P, breaksQ q (traceR n d p.lo).1 (traceR m d p.lo).1 = false
  | [] => by simp [seeks]
  | d :: ds => by
    simp only [seeks]
    cases h : seek n m q d P with
    | none =>
      simp only []
      rw [seeks_none]
      have := seek_none.1 h
      simp only [List.mem_cons, forall_eq_or_imp]
      exact ⟨fun k => ⟨this, k⟩, fun k => k.2⟩
    | some v =>
      simp only [reduceCtorEq, false_iff]
      intro k
      have := seek_none.2 (k d (by simp))
      rw [h] at this; cases this
theorem seeks_some {n m : Nw} {q : Qy} {P : List Rg} {v : Vd} : ∀ {S : List Int}, seeks n m q P S = some v → ∃ d ∈ S, ∃ p ∈ P, v = ⟨false, d, p.lo, (traceR n d p.lo).1⟩ ∧ breaksQ q (traceR n d p.lo).1 (traceR m d p.lo).1 = true
  | [], h => by simp [seeks] at h
  | d :: ds, h => by
    simp only [seeks] at h
    cases hs : seek n m q d P with
    | none =>
      rw [hs] at h
      obtain ⟨d', hd, p, hp, h1, h2⟩ := seeks_some h
      exact ⟨d', by simp [hd], p, hp, h1, h2⟩
    | some w =>
      rw [hs] at h
      simp only [Option.some.injEq] at h
      subst h
      obtain ⟨p, hp, h1, h2⟩ := seek_some hs
      exact ⟨d, by simp, p, hp, h1, h2⟩
theorem seeks_first {n m : Nw} {q : Qy} {P : List Rg} {v : Vd} (hs : P.Pairwise fun a b => a.hi < b.lo) (hl : ∀ p ∈ P, p.lo ≤ p.hi) : ∀ {S : List Int}, S.Pairwise (· < ·) → seeks n m q P S = some v →
    ∀ d ∈ S, ∀ p ∈ P, breaksQ q (traceR n d p.lo).1 (traceR m d p.lo).1 = true → v.src < d ∨ v.src = d ∧ v.addr ≤ p.lo
  | [], _, _, d, hd, _, _, _ => by simp at hd
  | e :: S, hS, h, d, hd, p, hp, hb => by
    obtain ⟨h1, h2⟩ := List.pairwise_cons.1 hS
    simp only [seeks] at h
    cases hk : seek n m q e P with
    | none =>
      rw [hk] at h
      rcases List.mem_cons.1 hd with rfl | hd
      · have := seek_none.1 hk p hp
        rw [this] at hb; cases hb
      · exact seeks_first hs hl h2 h d hd p hp hb
    | some w =>
      rw [hk] at h
      simp only [Option.some.injEq] at h
      subst h
      obtain ⟨p', hp', e1, _⟩ := seek_some hk
      have hsrc : w.src = e := by rw [e1]
      rcases List.mem_cons.1 hd with rfl | hd
      · exact .inr ⟨hsrc, seek_first hs hl hk p hp hb⟩
      · have := h1 d hd
        exact .inl (by omega)
theorem range_srt (k : Nat) : ((List.range k).map fun i : Nat => (i : Int)).Pairwise (· < ·) := by
  rw [List.pairwise_map]
  exact List.pairwise_lt_range.imp fun h => by omega
theorem sources_srt (n : Nw) (q : Qy) : (sourcesQ n q).Pairwise (· < ·) := by
  unfold sourcesQ
  split
  · simp
  · exact range_srt _

/-! ### Right networks -/
theorem right_rules {n : Nw} (h : rightN n = true) : (∀ r ∈ n.rules, ruleB r = true) ∧ n.rules.length ≤ 40 := by
  unfold rightN at h
  simp only [Bool.and_eq_true] at h
  have h2 := h.2.1
  unfold allB at h2
  simp only [Bool.and_eq_true, decide_eq_true_eq] at h2
  exact ⟨allFrom_mem h2.1, h2.2⟩
theorem right_ports {n : Nw} (h : rightN n = true) : 1 ≤ n.t.ports.length := by
  unfold rightN rightT at h
  simp only [Bool.and_eq_true, Bool.not_eq_true', decide_eq_false_iff_not] at h
  have := h.1.1
  omega
theorem rule_le {r : Ru} (h : ruleB r = true) : r.r.lo ≤ r.r.hi := by
  unfold ruleB at h
  simp only [Bool.and_eq_true, decide_eq_true_eq] at h
  exact h.2
theorem rgs_le {l : List Nw} (h : ∀ n ∈ l, rightN n = true) : ∀ r ∈ rgsOf l, r.lo ≤ r.hi := by
  intro r hr
  unfold rgsOf at hr
  obtain ⟨n, hn, hr⟩ := List.mem_flatMap.1 hr
  obtain ⟨x, hx, rfl⟩ := List.mem_map.1 hr
  exact rule_le ((right_rules (h n hn)).1 x hx)
theorem held_right {l : List Nw} (h : ∀ n ∈ l, rightN n = true) (hl : l.length ≤ 12) : heldL (rgsOf l) = (rgsOf l).reverse := by
  refine held_few (rgs_le h) ?_
  have : ∀ l : List Nw, (∀ n ∈ l, rightN n = true) → (rgsOf l).length ≤ 40 * l.length := by
    intro l
    induction l with
    | nil => intro _; simp [rgsOf]
    | cons n l ih =>
      intro h
      have h1 := (right_rules (h n (by simp))).2
      have h2 := ih fun m hm => h m (by simp [hm])
      simp only [rgsOf, List.flatMap_cons, List.length_append, List.length_map, List.length_cons] at h2 ⊢
      omega
  have := this l h
  omega
theorem cuts_right {l : List Nw} (h : ∀ n ∈ l, rightN n = true) (hl : l.length ≤ 12) : cutsL (heldL (rgsOf l)) = cutsL (rgsOf l) := by
  rw [held_right h hl]; exact cutsL_perm (List.reverse_perm _)
theorem cutP_right {l : List Nw} (h : ∀ n ∈ l, rightN n = true) (hl : l.length ≤ 12) {r : Rg} (hr : r.lo ≤ r.hi) : cutP l r = cutC (cutsL (rgsOf l)) r := by
  unfold cutP
  rw [if_neg (by omega), cuts_right h hl]
theorem rgsOf_mem {l : List Nw} {n : Nw} (hn : n ∈ l) : ∀ r ∈ n.rules, r.r ∈ rgsOf l := fun r hr => List.mem_flatMap.2 ⟨n, hn, List.mem_map.2 ⟨r, hr, rfl⟩⟩
end Go.Proofs.Ytanimmdlgmkmkaa.Av


/- Networks: right topologies, by the document; the first two stretches. -/
namespace Go.Proofs.Ytanimmdlgmkmkaa.Av
open Go
set_option linter.unusedSimpArgs false
set_option linter.unusedVariables false
set_option maxRecDepth 100000
set_option pp.maxSteps 600

/-- The document's right topologies: few ports, all links' ports there, none joined twice. -/
def nodupB : List Pt → Bool
  | [] => true
  | p :: l => !l.contains p && nodupB l
theorem nodupB_iff (l : List Pt) : nodupB l = true ↔ l.Nodup := by
  induction l with
  | nil => simp [nodupB]
  | cons p l ih => simp [nodupB, ih]
def refRightT (t : Tp) : Bool := !decide (t.ports.length < 1) && (!decide (8 < t.ports.length) && (!decide (16 < t.links.length) && (t.ports.all (fun n => decide (1 ≤ n) && decide (n ≤ 4)) && ((flatP t.links).all (hasB t) && nodupB (flatP t.links)))))
theorem linkBad_any {t : Tp} (ls : List Lk) (hn : (flatP ls).Nodup) : ls.any (linkBad t) = !(flatP ls).all (hasB t) := by
  induction ls with
  | nil => rfl
  | cons l ls ih =>
    simp only [flatP, List.nodup_cons, List.mem_cons, not_or] at hn
    rw [List.any_cons, ih hn.2.2]
    simp only [flatP, List.all_cons, linkBad]
    have hab : decide (l.a = l.b) = false := by simpa using hn.1.1
    rw [hab]
    cases hasB t l.a <;> cases hasB t l.b <;> simp
theorem rightT_eq (t : Tp) : rightT t = refRightT t := by
  have h1 : decide (t.ports.length = 0) = decide (t.ports.length < 1) := by
    rw [Bool.eq_iff_iff]; simp
  have h2 : (!portsBad t) = t.ports.all (fun n => decide (1 ≤ n) && decide (n ≤ 4)) := by
    unfold portsBad
    induction t.ports with
    | nil => rfl
    | cons n l ih =>
      rw [List.any_cons, List.all_cons, ← ih, Bool.not_or]
      congr 1
      rw [Bool.eq_iff_iff]; simp
  unfold rightT refRightT
  rw [h1, h2]
  by_cases hn : (flatP t.links).Nodup
  · rw [decide_eq_true ((joinM_full _).2 hn), (nodupB_iff _).2 hn, linkBad_any _ hn, Bool.not_not]
  · have e1 : nodupB (flatP t.links) = false := by
      cases h : nodupB (flatP t.links) with
      | false => rfl
      | true => exact absurd ((nodupB_iff _).1 h) hn
    rw [decide_eq_false (fun h => hn ((joinM_full _).1 h)), e1]
    simp
end Go.Proofs.Ytanimmdlgmkmkaa.Av


/- Networks: ref topo.Right (begun). -/
namespace Go.Proofs.Ytanimmdlgmkmkaa.Av
open Go
set_option linter.unusedSimpArgs false
set_option linter.unusedVariables false
set_option maxRecDepth 100000
set_option maxHeartbeats 2000000
set_option pp.maxSteps 600

theorem refRight_calls (t : Tp) (f : Fl) (hl : t.ports.length < 2 ^ 60) (hl2 : t.links.length < 2 ^ 42) : PCalls Try.prog 80 [tpAV t f] (.raw (.bool (refRightT t))) := by
  refine pbody Try.func80 rfl (N := 96) rfl rfl (by simp) (by simp [noIds]) fun σ => ?_
  repeat (refine awp_seq ?_)
  refine awp_reg ?_
  have ho1 : cellOK (intsAV t.ports f.p) = true := rfl
  have ho2 : cellOK (linksAV t.links f.l) = true := rfl
  simp only [cellOK] at ho1 ho2
  simp [tp_cells, ho1, ho2]
  refine awp_freeze ⟨1, σ.nx 1, 2⟩ ?_
  generalize hτ : St.del _ _ = τ
  generalize hA : (fun t => giveUp _ _ _) = A
  have a1 : A 1 = .pp [intsAV t.ports f.p, linksAV t.links f.l] 0 := by rw [← hA, ← hτ]; simp [giveUp, St.new, St.del, tp_cells]
  have hE : Ext σ τ := by
    rw [← hτ]
    refine ⟨fun i o h => ?_, fun s => ?_⟩
    · rw [del_other (fun e => by rw [e, fresh_none] at h; cases h)]
      exact new_up _ _ h
    · exact St.new_le σ 1 2 (.buf [tpAV t f]) s
  clear hτ hA
  by_cases q1 : t.ports.length < 1
  · have q1' : (t.ports.length : Int) < 1 := by omega
    (try (first | (with_reducible refine dops_go ?_; simp [intsAV, linksAV, a1, hE, q1, q1']) | (with_reducible refine OKv_go ?_; simp [intsAV, linksAV, a1, hE, q1, q1']) | (with_reducible refine OKr_go ?_; simp [intsAV, linksAV, a1, hE, q1, q1']))); repeat' (first | refine awp_seq ?_ | refine awp_block ?_ | (refine awp_skip ?_; try simp) | (refine awp_exit ?_; try simp) | (refine awp_ret ?_; try simp) | (refine retP_same (by simp) ?_; simp) | (refine retP_flat (by simp) (by simp) (by simp (maxDischargeDepth := 30) [intsAV, linksAV, a1, hE, q1, q1']) ?_; simp) | (refine awp_reg ?_; simp [intsAV, linksAV, a1, hE, q1, q1']) | (refine awp_drawT (fun _ => false) mixed (by decide +kernel) ?_; simp [intsAV, linksAV, a1, hE, q1, q1']) | (refine guarded_split ?_ ?_ <;> (intro hg; simp only [hg]; simp [intsAV, linksAV, a1, hE, q1, q1'])) | (apply awp_cond_t; focus (simp [intsAV, linksAV, a1, hE, q1, q1']; done)) | (apply awp_cond_f; focus (simp [intsAV, linksAV, a1, hE, q1, q1']; done)) | (refine awp_cond ?_; simp [intsAV, linksAV, a1, hE, q1, q1']; refine ⟨?_, ?_⟩ <;> intro hc))
    all_goals simp [refRightT, q1]
  have q1' : ¬ (t.ports.length : Int) < 1 := by omega
  by_cases q2 : 8 < t.ports.length
  · have q2' : (8 : Int) < (t.ports.length : Int) := by omega
    (try (first | (with_reducible refine dops_go ?_; simp [intsAV, linksAV, a1, hE, q1, q1', q2, q2']) | (with_reducible refine OKv_go ?_; simp [intsAV, linksAV, a1, hE, q1, q1', q2, q2']) | (with_reducible refine OKr_go ?_; simp [intsAV, linksAV, a1, hE, q1, q1', q2, q2']))); repeat' (first | refine awp_seq ?_ | refine awp_block ?_ | (refine awp_skip ?_; try simp) | (refine awp_exit ?_; try simp) | (refine awp_ret ?_; try simp) | (refine retP_same (by simp) ?_; simp) | (refine retP_flat (by simp) (by simp) (by simp (maxDischargeDepth := 30) [intsAV, linksAV, a1, hE, q1, q1', q2, q2']) ?_; simp) | (refine awp_reg ?_; simp [intsAV, linksAV, a1, hE, q1, q1', q2, q2']) | (refine awp_drawT (fun _ => false) mixed (by decide +kernel) ?_; simp [intsAV, linksAV, a1, hE, q1, q1', q2, q2']) | (refine guarded_split ?_ ?_ <;> (intro hg; simp only [hg]; simp [intsAV, linksAV, a1, hE, q1, q1', q2, q2'])) | (apply awp_cond_t; focus (simp [intsAV, linksAV, a1, hE, q1, q1', q2, q2']; done)) | (apply awp_cond_f; focus (simp [intsAV, linksAV, a1, hE, q1, q1', q2, q2']; done)) | (refine awp_cond ?_; simp [intsAV, linksAV, a1, hE, q1, q1', q2, q2']; refine ⟨?_, ?_⟩ <;> intro hc))
    all_goals simp [refRightT, q2]
  have q2' : ¬ (8 : Int) < (t.ports.length : Int) := by omega
  by_cases q3 : 16 < t.links.length
  · have q3' : (16 : Int) < (t.links.length : Int) := by omega
    (try (first | (with_reducible refine dops_go ?_; simp [intsAV, linksAV, a1, hE, q1, q1', q2, q2', q3, q3']) | (with_reducible refine OKv_go ?_; simp [intsAV, linksAV, a1, hE, q1, q1', q2, q2', q3, q3']) | (with_reducible refine OKr_go ?_; simp [intsAV, linksAV, a1, hE, q1, q1', q2, q2', q3, q3']))); repeat' (first | refine awp_seq ?_ | refine awp_block ?_ | (refine awp_skip ?_; try simp) | (refine awp_exit ?_; try simp) | (refine awp_ret ?_; try simp) | (refine retP_same (by simp) ?_; simp) | (refine retP_flat (by simp) (by simp) (by simp (maxDischargeDepth := 30) [intsAV, linksAV, a1, hE, q1, q1', q2, q2', q3, q3']) ?_; simp) | (refine awp_reg ?_; simp [intsAV, linksAV, a1, hE, q1, q1', q2, q2', q3, q3']) | (refine awp_drawT (fun _ => false) mixed (by decide +kernel) ?_; simp [intsAV, linksAV, a1, hE, q1, q1', q2, q2', q3, q3']) | (refine guarded_split ?_ ?_ <;> (intro hg; simp only [hg]; simp [intsAV, linksAV, a1, hE, q1, q1', q2, q2', q3, q3'])) | (apply awp_cond_t; focus (simp [intsAV, linksAV, a1, hE, q1, q1', q2, q2', q3, q3']; done)) | (apply awp_cond_f; focus (simp [intsAV, linksAV, a1, hE, q1, q1', q2, q2', q3, q3']; done)) | (refine awp_cond ?_; simp [intsAV, linksAV, a1, hE, q1, q1', q2, q2', q3, q3']; refine ⟨?_, ?_⟩ <;> intro hc))
    all_goals simp [refRightT, q3]
  have q3' : ¬ (16 : Int) < (t.links.length : Int) := by omega
  (try (first | (with_reducible refine dops_go ?_; simp [intsAV, linksAV, a1, hE, q1, q1', q2, q2', q3, q3']) | (with_reducible refine OKv_go ?_; simp [intsAV, linksAV, a1, hE, q1, q1', q2, q2', q3, q3']) | (with_reducible refine OKr_go ?_; simp [intsAV, linksAV, a1, hE, q1, q1', q2, q2', q3, q3']))); repeat' (first | refine awp_seq ?_ | refine awp_block ?_ | (refine awp_skip ?_; try simp) | (refine awp_exit ?_; try simp) | (refine awp_ret ?_; try simp) | (refine retP_same (by simp) ?_; simp) | (refine retP_flat (by simp) (by simp) (by simp (maxDischargeDepth := 30) [intsAV, linksAV, a1, hE, q1, q1', q2, q2', q3, q3']) ?_; simp) | (refine awp_reg ?_; simp [intsAV, linksAV, a1, hE, q1, q1', q2, q2', q3, q3']) | (refine awp_drawT (fun _ => false) mixed (by decide +kernel) ?_; simp [intsAV, linksAV, a1, hE, q1, q1', q2, q2', q3, q3']) | (refine guarded_split ?_ ?_ <;> (intro hg; simp only [hg]; simp [intsAV, linksAV, a1, hE, q1, q1', q2, q2', q3, q3'])) | (apply awp_cond_t; focus (simp [intsAV, linksAV, a1, hE, q1, q1', q2, q2', q3, q3']; done)) | (apply awp_cond_f; focus (simp [intsAV, linksAV, a1, hE, q1, q1', q2, q2', q3, q3']; done)) | (refine awp_cond ?_; simp [intsAV, linksAV, a1, hE, q1, q1', q2, q2', q3, q3']; refine ⟨?_, ?_⟩ <;> intro hc))
  refine awp_loopH (fun n B ρ => Ext σ ρ ∧ B 1 = .pp [intsAV t.ports f.p, linksAV t.links f.l] 0 ∧ ∃ i : Nat, B 3 = .raw (.int .i64 i) ∧ i ≤ t.ports.length ∧ n = t.ports.length - i ∧ (t.ports.take i).all (fun n => decide (1 ≤ n) && decide (n ≤ 4)) = true) t.ports.length ?_ ?_
  · exact ⟨hE, by simp [a1], 0, by simp, by omega, by omega, by simp⟩
  clear hE a1
  rintro n B ρ ⟨hE, a1, i, a3, hi, rfl, hall⟩ I1 hI1
  by_cases hlt : i < t.ports.length
  · have hx : t.ports[i]? = some t.ports[i] := List.getElem?_eq_getElem hlt
    have w1 : IntKind.i64.wrap ((i : Int) + 1) = ((i + 1 : Nat) : Int) := by rw [wrap64 (by omega) (by omega)]; omega
    by_cases p1 : t.ports[i] < 1
    · have hf : t.ports.all (fun n => decide (1 ≤ n) && decide (n ≤ 4)) = false := by
        rw [List.all_eq_false]
        exact ⟨_, List.getElem_mem hlt, by simp; omega⟩
      (try (first | (with_reducible refine dops_go ?_; simp [intsAV, linksAV, iAV, a1, a3, hE, hlt, hx, w1, p1]) | (with_reducible refine OKv_go ?_; simp [intsAV, linksAV, iAV, a1, a3, hE, hlt, hx, w1, p1]) | (with_reducible refine OKr_go ?_; simp [intsAV, linksAV, iAV, a1, a3, hE, hlt, hx, w1, p1]))); repeat' (first | refine awp_seq ?_ | refine awp_block ?_ | (refine awp_skip ?_; try simp) | (refine awp_exit ?_; try simp) | (refine awp_ret ?_; try simp) | (refine retP_same (by simp) ?_; simp) | (refine retP_flat (by simp) (by simp) (by simp (maxDischargeDepth := 30) [intsAV, linksAV, iAV, a1, a3, hE, hlt, hx, w1, p1]) ?_; simp) | (refine awp_reg ?_; simp [intsAV, linksAV, iAV, a1, a3, hE, hlt, hx, w1, p1]) | (refine awp_drawT (fun _ => false) mixed (by decide +kernel) ?_; simp [intsAV, linksAV, iAV, a1, a3, hE, hlt, hx, w1, p1]) | (refine guarded_split ?_ ?_ <;> (intro hg; simp only [hg]; simp [intsAV, linksAV, iAV, a1, a3, hE, hlt, hx, w1, p1])) | (apply awp_cond_t; focus (simp [intsAV, linksAV, iAV, a1, a3, hE, hlt, hx, w1, p1]; done)) | (apply awp_cond_f; focus (simp [intsAV, linksAV, iAV, a1, a3, hE, hlt, hx, w1, p1]; done)) | (refine awp_cond ?_; simp [intsAV, linksAV, iAV, a1, a3, hE, hlt, hx, w1, p1]; refine ⟨?_, ?_⟩ <;> intro hc))
      all_goals simp [refRightT, hf]
    · by_cases p2 : 4 < t.ports[i]
      · have hf : t.ports.all (fun n => decide (1 ≤ n) && decide (n ≤ 4)) = false := by
          rw [List.all_eq_false]
          exact ⟨_, List.getElem_mem hlt, by simp; omega⟩
        (try (first | (with_reducible refine dops_go ?_; simp [intsAV, linksAV, iAV, a1, a3, hE, hlt, hx, w1, p1, p2]) | (with_reducible refine OKv_go ?_; simp [intsAV, linksAV, iAV, a1, a3, hE, hlt, hx, w1, p1, p2]) | (with_reducible refine OKr_go ?_; simp [intsAV, linksAV, iAV, a1, a3, hE, hlt, hx, w1, p1, p2]))); repeat' (first | refine awp_seq ?_ | refine awp_block ?_ | (refine awp_skip ?_; try simp) | (refine awp_exit ?_; try simp) | (refine awp_ret ?_; try simp) | (refine retP_same (by simp) ?_; simp) | (refine retP_flat (by simp) (by simp) (by simp (maxDischargeDepth := 30) [intsAV, linksAV, iAV, a1, a3, hE, hlt, hx, w1, p1, p2]) ?_; simp) | (refine awp_reg ?_; simp [intsAV, linksAV, iAV, a1, a3, hE, hlt, hx, w1, p1, p2]) | (refine awp_drawT (fun _ => false) mixed (by decide +kernel) ?_; simp [intsAV, linksAV, iAV, a1, a3, hE, hlt, hx, w1, p1, p2]) | (refine guarded_split ?_ ?_ <;> (intro hg; simp only [hg]; simp [intsAV, linksAV, iAV, a1, a3, hE, hlt, hx, w1, p1, p2])) | (apply awp_cond_t; focus (simp [intsAV, linksAV, iAV, a1, a3, hE, hlt, hx, w1, p1, p2]; done)) | (apply awp_cond_f; focus (simp [intsAV, linksAV, iAV, a1, a3, hE, hlt, hx, w1, p1, p2]; done)) | (refine awp_cond ?_; simp [intsAV, linksAV, iAV, a1, a3, hE, hlt, hx, w1, p1, p2]; refine ⟨?_, ?_⟩ <;> intro hc))
        all_goals simp [refRightT, hf]
      · have hp : (decide (1 ≤ t.ports[i]) && decide (t.ports[i] ≤ 4)) = true := by
          rw [Bool.and_eq_true, decide_eq_true_eq, decide_eq_true_eq]; exact ⟨by omega, by omega⟩
        have hall' : (t.ports.take (i + 1)).all (fun n => decide (1 ≤ n) && decide (n ≤ 4)) = true := by
          rw [List.take_add_one, hx, List.all_append, hall, Option.toList_some, List.all_cons, hp]; rfl
        (try (first | (with_reducible refine dops_go ?_; simp [intsAV, linksAV, iAV, a1, a3, hE, hlt, hx, w1, p1, p2]) | (with_reducible refine OKv_go ?_; simp [intsAV, linksAV, iAV, a1, a3, hE, hlt, hx, w1, p1, p2]) | (with_reducible refine OKr_go ?_; simp [intsAV, linksAV, iAV, a1, a3, hE, hlt, hx, w1, p1, p2]))); repeat' (first | refine awp_seq ?_ | refine awp_block ?_ | (refine awp_skip ?_; try simp) | (refine awp_exit ?_; try simp) | (refine awp_ret ?_; try simp) | (refine retP_same (by simp) ?_; simp) | (refine retP_flat (by simp) (by simp) (by simp (maxDischargeDepth := 30) [intsAV, linksAV, iAV, a1, a3, hE, hlt, hx, w1, p1, p2]) ?_; simp) | (refine awp_reg ?_; simp [intsAV, linksAV, iAV, a1, a3, hE, hlt, hx, w1, p1, p2]) | (refine awp_drawT (fun _ => false) mixed (by decide +kernel) ?_; simp [intsAV, linksAV, iAV, a1, a3, hE, hlt, hx, w1, p1, p2]) | (refine guarded_split ?_ ?_ <;> (intro hg; simp only [hg]; simp [intsAV, linksAV, iAV, a1, a3, hE, hlt, hx, w1, p1, p2])) | (apply awp_cond_t; focus (simp [intsAV, linksAV, iAV, a1, a3, hE, hlt, hx, w1, p1, p2]; done)) | (apply awp_cond_f; focus (simp [intsAV, linksAV, iAV, a1, a3, hE, hlt, hx, w1, p1, p2]; done)) | (refine awp_cond ?_; simp [intsAV, linksAV, iAV, a1, a3, hE, hlt, hx, w1, p1, p2]; refine ⟨?_, ?_⟩ <;> intro hc))
        exact hI1 (t.ports.length - (i + 1)) _ _ (by omega) ⟨hE, by simp [a1, intsAV, linksAV], i + 1, by simp, by omega, rfl, hall'⟩
  · have : i = t.ports.length := by omega
    subst this
    rw [List.take_length] at hall
    (try (first | (with_reducible refine dops_go ?_; simp [intsAV, linksAV, iAV, a1, a3, hE]) | (with_reducible refine OKv_go ?_; simp [intsAV, linksAV, iAV, a1, a3, hE]) | (with_reducible refine OKr_go ?_; simp [intsAV, linksAV, iAV, a1, a3, hE]))); repeat' (first | refine awp_seq ?_ | refine awp_block ?_ | (refine awp_skip ?_; try simp) | (refine awp_exit ?_; try simp) | (refine awp_ret ?_; try simp) | (refine retP_same (by simp) ?_; simp) | (refine retP_flat (by simp) (by simp) (by simp (maxDischargeDepth := 30) [intsAV, linksAV, iAV, a1, a3, hE]) ?_; simp) | (refine awp_reg ?_; simp [intsAV, linksAV, iAV, a1, a3, hE]) | (refine awp_drawT (fun _ => false) mixed (by decide +kernel) ?_; simp [intsAV, linksAV, iAV, a1, a3, hE]) | (refine guarded_split ?_ ?_ <;> (intro hg; simp only [hg]; simp [intsAV, linksAV, iAV, a1, a3, hE])) | (apply awp_cond_t; focus (simp [intsAV, linksAV, iAV, a1, a3, hE]; done)) | (apply awp_cond_f; focus (simp [intsAV, linksAV, iAV, a1, a3, hE]; done)) | (refine awp_cond ?_; simp [intsAV, linksAV, iAV, a1, a3, hE]; refine ⟨?_, ?_⟩ <;> intro hc))
    refine awp_loopH (fun n B ρ => Ext σ ρ ∧ B 1 = .pp [intsAV t.ports f.p, linksAV t.links f.l] 0 ∧ ∃ (k : Nat) (v : AV), B 4 = v ∧ OwnL σ ρ 2 v ((flatP (t.links.take k)).map ptAV) ∧ B 5 = .raw (.int .i64 k) ∧ k ≤ t.links.length ∧ n = t.links.length - k) t.links.length ?_ ?_
    · exact ⟨hE, by simp [a1, intsAV, linksAV], 0, _, rfl, .inl ⟨by simp [flatP], by simp⟩, by simp, by omega, by omega⟩
    clear hE a1 a3 hI1 I1
    rintro n B ρ ⟨hE, a1, k, v, a4, hO, a5, hk, rfl⟩ I1 hI1
    have hfl : ∀ L : List Lk, (flatP L).length = 2 * L.length := by
      intro L; induction L with
      | nil => rfl
      | cons l L ih => simp only [flatP, List.length_cons, ih]; omega
    by_cases hlt : k < t.links.length
    · have hx : t.links[k]? = some t.links[k] := List.getElem?_eq_getElem hlt
      have w1 : IntKind.i64.wrap ((k : Int) + 1) = ((k + 1 : Nat) : Int) := by rw [wrap64 (by omega) (by omega)]; omega
      have hfp : flatP (t.links.take (k + 1)) = flatP (t.links.take k) ++ [t.links[k].a, t.links[k].b] := by
        rw [List.take_add_one, hx]
        generalize t.links.take k = L
        induction L with
        | nil => rfl
        | cons l L ih => simp only [List.cons_append, flatP, ih]
      have fa : AV.agg [.raw (.int .i64 t.links[k].a.dev), .raw (.int .i64 t.links[k].a.port)] = ptAV t.links[k].a := rfl
      have fb : AV.agg [.raw (.int .i64 t.links[k].b.dev), .raw (.int .i64 t.links[k].b.port)] = ptAV t.links[k].b := rfl
      have hpc : ∀ q : Pt, (ptAV q).cells = [.raw (.int .i64 q.dev), .raw (.int .i64 q.port)] := fun q => rfl
      (try (first | (with_reducible refine dops_go ?_; simp [linksAV, intsAV, a1, a4, a5, hlt, hx, lk_cells', fa, fb, hpc, w1, -opAppend]) | (with_reducible refine OKv_go ?_; simp [linksAV, intsAV, a1, a4, a5, hlt, hx, lk_cells', fa, fb, hpc, w1, -opAppend]) | (with_reducible refine OKr_go ?_; simp [linksAV, intsAV, a1, a4, a5, hlt, hx, lk_cells', fa, fb, hpc, w1, -opAppend]))); repeat' (first | refine awp_seq ?_ | refine awp_block ?_ | (refine awp_skip ?_; try simp) | (refine awp_exit ?_; try simp) | (refine awp_ret ?_; try simp) | (refine retP_same (by simp) ?_; simp) | (refine retP_flat (by simp) (by simp) (by simp (maxDischargeDepth := 30) [linksAV, intsAV, a1, a4, a5, hlt, hx, lk_cells', fa, fb, hpc, w1, -opAppend]) ?_; simp) | (refine awp_reg ?_; simp [linksAV, intsAV, a1, a4, a5, hlt, hx, lk_cells', fa, fb, hpc, w1, -opAppend]) | (refine awp_drawT (fun _ => false) mixed (by decide +kernel) ?_; simp [linksAV, intsAV, a1, a4, a5, hlt, hx, lk_cells', fa, fb, hpc, w1, -opAppend]) | (refine guarded_split ?_ ?_ <;> (intro hg; simp only [hg]; simp [linksAV, intsAV, a1, a4, a5, hlt, hx, lk_cells', fa, fb, hpc, w1, -opAppend])) | (apply awp_cond_t; focus (simp [linksAV, intsAV, a1, a4, a5, hlt, hx, lk_cells', fa, fb, hpc, w1, -opAppend]; done)) | (apply awp_cond_f; focus (simp [linksAV, intsAV, a1, a4, a5, hlt, hx, lk_cells', fa, fb, hpc, w1, -opAppend]; done)) | (refine awp_cond ?_; simp [linksAV, intsAV, a1, a4, a5, hlt, hx, lk_cells', fa, fb, hpc, w1, -opAppend]; refine ⟨?_, ?_⟩ <;> intro hc))
      refine okr_append slt169 (hO.ext (Ext.new _ _ _ _)) (hE.trans (Ext.new _ _ _ _)) (ys := [ptAV t.links[k].a, ptAV t.links[k].b]) (by simp) (.inr rfl) (by simp [hpc]) (by simp [hfl, Nat.min_eq_left hk]; omega) ?_
      intro v' τ' hO' hE' _ _
      (try (first | (with_reducible refine dops_go ?_; simp [linksAV, intsAV, a1, a4, a5, w1]) | (with_reducible refine OKv_go ?_; simp [linksAV, intsAV, a1, a4, a5, w1]) | (with_reducible refine OKr_go ?_; simp [linksAV, intsAV, a1, a4, a5, w1]))); repeat' (first | refine awp_seq ?_ | refine awp_block ?_ | (refine awp_skip ?_; try simp) | (refine awp_exit ?_; try simp) | (refine awp_ret ?_; try simp) | (refine retP_same (by simp) ?_; simp) | (refine retP_flat (by simp) (by simp) (by simp (maxDischargeDepth := 30) [linksAV, intsAV, a1, a4, a5, w1]) ?_; simp) | (refine awp_reg ?_; simp [linksAV, intsAV, a1, a4, a5, w1]) | (refine awp_drawT (fun _ => false) mixed (by decide +kernel) ?_; simp [linksAV, intsAV, a1, a4, a5, w1]) | (refine guarded_split ?_ ?_ <;> (intro hg; simp only [hg]; simp [linksAV, intsAV, a1, a4, a5, w1])) | (apply awp_cond_t; focus (simp [linksAV, intsAV, a1, a4, a5, w1]; done)) | (apply awp_cond_f; focus (simp [linksAV, intsAV, a1, a4, a5, w1]; done)) | (refine awp_cond ?_; simp [linksAV, intsAV, a1, a4, a5, w1]; refine ⟨?_, ?_⟩ <;> intro hc))
      exact hI1 (t.links.length - (k + 1)) _ _ (by omega) ⟨hE', by simp [a1, intsAV, linksAV], k + 1, v', by simp, by rw [hfp]; simpa using hO', by simp, by omega, rfl⟩
    · have : k = t.links.length := by omega
      subst this
      rw [List.take_length] at hO
      have hFl := hfl t.links
      obtain ⟨F, hF⟩ : ∃ F, flatP t.links = F := ⟨_, rfl⟩
      have hres : refRightT t = (F.all (hasB t) && nodupB F) := by
        unfold refRightT
        rw [hF, hall, decide_eq_false q1, decide_eq_false q2, decide_eq_false q3]; rfl
      rw [hres]
      rw [hF] at hO hFl
      clear hres hI1 hall hfl
      have hpc : ∀ q : Pt, (ptAV q).cells = [.raw (.int .i64 q.dev), .raw (.int .i64 q.port)] := fun q => rfl
      have hpf : ∀ q : Pt, AV.agg [.raw (.int .i64 q.dev), .raw (.int .i64 q.port)] = ptAV q := fun q => rfl
      have htf : AV.agg [AV.sl 1 (t.ports.map iAV) f.p, AV.sl 4 (t.links.map lkAV) f.l] = tpAV t f := rfl
      have hbin : ∀ x y : Pt, opBin Try.prog .eql 41 (ptAV x) (ptAV y) = some (.raw (.bool (decide (x = y)))) := fun x y => by
        have e1 : opBin Try.prog .eql 41 (ptAV x) (ptAV y) = if Try.prog.eqGuardType Try.prog.depth 41 = false then (structEq Try.prog 4 41 (ptAV x) (ptAV y)).bind fun b => (nilBin .eql b).map .raw else none := rfl
        have := key_eq x y
        rw [e1, if_pos eqg41]
        rw [show structEq Try.prog 4 41 (ptAV x) (ptAV y) = some (decide (x = y)) from this]
        rfl
      (try (first | (with_reducible refine dops_go ?_; simp [linksAV, intsAV, a1, a4, a5]) | (with_reducible refine OKv_go ?_; simp [linksAV, intsAV, a1, a4, a5]) | (with_reducible refine OKr_go ?_; simp [linksAV, intsAV, a1, a4, a5]))); repeat' (first | refine awp_seq ?_ | refine awp_block ?_ | (refine awp_skip ?_; try simp) | (refine awp_exit ?_; try simp) | (refine awp_ret ?_; try simp) | (refine retP_same (by simp) ?_; simp) | (refine retP_flat (by simp) (by simp) (by simp (maxDischargeDepth := 30) [linksAV, intsAV, a1, a4, a5]) ?_; simp) | (refine awp_reg ?_; simp [linksAV, intsAV, a1, a4, a5]) | (refine awp_drawT (fun _ => false) mixed (by decide +kernel) ?_; simp [linksAV, intsAV, a1, a4, a5]) | (refine guarded_split ?_ ?_ <;> (intro hg; simp only [hg]; simp [linksAV, intsAV, a1, a4, a5])) | (apply awp_cond_t; focus (simp [linksAV, intsAV, a1, a4, a5]; done)) | (apply awp_cond_f; focus (simp [linksAV, intsAV, a1, a4, a5]; done)) | (refine awp_cond ?_; simp [linksAV, intsAV, a1, a4, a5]; refine ⟨?_, ?_⟩ <;> intro hc))
      refine awp_settle 4 (by simpa [a4] using hO) hE ?_
      intro A' τ' hE' e4 hf _ _ _ _
      have b1 : A' 1 = .pp [intsAV t.ports f.p, linksAV t.links f.l] 0 := by rw [hf 1 (by simp) (by simp [a1])]; simp [a1]
      have b6 : A' 6 = .raw (.int .i64 0) := by rw [hf 6 (by simp) (by simp)]; simp
      clear hf hE a1 a4 a5 hO
      refine awp_loopH (fun n B ρ => Ext σ ρ ∧ B 1 = .pp [intsAV t.ports f.p, linksAV t.links f.l] 0 ∧ B 4 = .sl 2 (F.map ptAV) false ∧ ∃ i : Nat, B 6 = .raw (.int .i64 i) ∧ i ≤ F.length ∧ n = F.length - i ∧ (F.take i).all (hasB t) = true ∧ (F.take i).Nodup) F.length ?_ ?_
      · exact ⟨hE', b1, e4, 0, by simp [b6], by omega, by omega, by simp, by simp⟩
      clear hE' b1 e4 b6
      rintro n B ρ ⟨hE, a1, a4, i, a6, hi, rfl, hal, hnd⟩ I1 hI1
      by_cases hlt : i < F.length
      · have hx : F[i]? = some F[i] := List.getElem?_eq_getElem hlt
        have w1 : IntKind.i64.wrap ((i : Int) + 1) = ((i + 1 : Nat) : Int) := by rw [wrap64 (by omega) (by omega)]; omega
        have hh := refHas_calls t f F[i] hl
        by_cases hb : hasB t F[i] = true
        · rw [hb] at hh
          (try (first | (with_reducible refine dops_go ?_; simp [-cellOK, linksAV, intsAV, a1, a4, a6, hlt, hx, hpc, htf]) | (with_reducible refine OKv_go ?_; simp [-cellOK, linksAV, intsAV, a1, a4, a6, hlt, hx, hpc, htf]) | (with_reducible refine OKr_go ?_; simp [-cellOK, linksAV, intsAV, a1, a4, a6, hlt, hx, hpc, htf]))); repeat' (first | refine awp_seq ?_ | refine awp_block ?_ | (refine awp_skip ?_; try simp) | (refine awp_exit ?_; try simp) | (refine awp_ret ?_; try simp) | (refine retP_same (by simp) ?_; simp) | (refine retP_no (by simp) (by simp [noIds]) (by repeat (first | assumption | exact Ext.refl _ | refine ext_new' ?_ | refine Ext.setF ?_ (by first | assumption | (simp [new_nx', St.set, fresh_none]; done) | exact ext_fresh (by assumption)))) ?_; simp [-cellOK, linksAV, intsAV, a1, a4, a6, hlt, hx, hpc, htf, new_m, set_m, new_nx']) | (refine awp_reg ?_; simp [-cellOK, linksAV, intsAV, a1, a4, a6, hlt, hx, hpc, htf]) | (refine awp_drawT (fun _ => false) mixed (by decide +kernel) ?_; simp [-cellOK, linksAV, intsAV, a1, a4, a6, hlt, hx, hpc, htf]) | (refine guarded_split ?_ ?_ <;> (intro hg; simp only [hg]; simp [-cellOK, linksAV, intsAV, a1, a4, a6, hlt, hx, hpc, htf])) | (apply awp_cond_t; focus (simp [-cellOK, linksAV, intsAV, a1, a4, a6, hlt, hx, hpc, htf]; done)) | (apply awp_cond_f; focus (simp [-cellOK, linksAV, intsAV, a1, a4, a6, hlt, hx, hpc, htf]; done)) | (refine awp_cond ?_; simp [-cellOK, linksAV, intsAV, a1, a4, a6, hlt, hx, hpc, htf]; refine ⟨?_, ?_⟩ <;> intro hc) | (refine awp_drawT isCallO mixed (by decide +kernel) ?_; simp [-cellOK, linksAV, intsAV, a1, a4, a6, hlt, hx, hpc, htf]) | (refine PCalls.use (hh) ?_; simp [-cellOK, linksAV, intsAV, a1, a4, a6, hlt, hx, hpc, htf]) | (refine Or.inl ⟨_, Or.inl (hh), ?_⟩; simp [-cellOK, linksAV, intsAV, a1, a4, a6, hlt, hx, hpc, htf]) | fail)
          refine awp_loopH (fun n B ρ => Ext σ ρ ∧ B 1 = .pp [intsAV t.ports f.p, linksAV t.links f.l] 0 ∧ B 4 = .sl 2 (F.map ptAV) false ∧ B 6 = .raw (.int .i64 i) ∧ ∃ k : Nat, B 8 = .raw (.int .i64 k) ∧ k ≤ i ∧ n = i - k ∧ ∀ j, (hj : j < k) → (hji : j < F.length) → F[j] ≠ F[i]) i ?_ ?_
          · exact ⟨by simp [hE], by simp [a1, linksAV, intsAV], by simp [a4], by simp [a6], 0, by simp, by omega, by omega, fun j hj => by omega⟩
          rintro n C τ ⟨hE, a1, a4, a6, k, a8, hk, rfl, hne⟩ J1 hJ1
          by_cases hki : k < i
          · have hkl : k < F.length := by omega
            have hx2 : F[k]? = some F[k] := List.getElem?_eq_getElem hkl
            have w2 : IntKind.i64.wrap ((k : Int) + 1) = ((k + 1 : Nat) : Int) := by rw [wrap64 (by omega) (by omega)]; omega
            by_cases he : F[k] = F[i]
            · have hnn : nodupB F = false := by
                cases h : nodupB F with
                | false => rfl
                | true =>
                  have := (nodupB_iff _).1 h
                  exact absurd he (List.pairwise_iff_getElem.1 this k i hkl hlt hki)
              have hd : decide (F[k] = F[i]) = true := decide_eq_true he
              rw [show (F.all (hasB t) && nodupB F) = false by rw [hnn, Bool.and_false]]
              (try (first | (with_reducible refine dops_go ?_; simp [-cellOK, linksAV, intsAV, hE, a1, a4, a6, a8, hlt, hx, hkl, hki, hx2, w2, hpc, hpf, -opBin, hbin, opBin_raw, hd]) | (with_reducible refine OKv_go ?_; simp [-cellOK, linksAV, intsAV, hE, a1, a4, a6, a8, hlt, hx, hkl, hki, hx2, w2, hpc, hpf, -opBin, hbin, opBin_raw, hd]) | (with_reducible refine OKr_go ?_; simp [-cellOK, linksAV, intsAV, hE, a1, a4, a6, a8, hlt, hx, hkl, hki, hx2, w2, hpc, hpf, -opBin, hbin, opBin_raw, hd]))); repeat' (first | refine awp_seq ?_ | refine awp_block ?_ | (refine awp_skip ?_; try simp) | (refine awp_exit ?_; try simp) | (refine awp_ret ?_; try simp) | (refine retP_same (by simp) ?_; simp) | (refine retP_no (by simp) (by simp [noIds]) (by repeat (first | assumption | exact Ext.refl _ | refine ext_new' ?_ | refine Ext.setF ?_ (by first | assumption | (simp [new_nx', St.set, fresh_none]; done) | exact ext_fresh (by assumption)))) ?_; simp [-cellOK, linksAV, intsAV, hE, a1, a4, a6, a8, hlt, hx, hkl, hki, hx2, w2, hpc, hpf, -opBin, hbin, opBin_raw, hd, new_m, set_m, new_nx']) | (refine awp_reg ?_; simp [-cellOK, linksAV, intsAV, hE, a1, a4, a6, a8, hlt, hx, hkl, hki, hx2, w2, hpc, hpf, -opBin, hbin, opBin_raw, hd]) | (refine awp_drawT (fun _ => false) mixed (by decide +kernel) ?_; simp [-cellOK, linksAV, intsAV, hE, a1, a4, a6, a8, hlt, hx, hkl, hki, hx2, w2, hpc, hpf, -opBin, hbin, opBin_raw, hd]) | (refine guarded_split ?_ ?_ <;> (intro hg; simp only [hg]; simp [-cellOK, linksAV, intsAV, hE, a1, a4, a6, a8, hlt, hx, hkl, hki, hx2, w2, hpc, hpf, -opBin, hbin, opBin_raw, hd])) | (apply awp_cond_t; focus (simp [-cellOK, linksAV, intsAV, hE, a1, a4, a6, a8, hlt, hx, hkl, hki, hx2, w2, hpc, hpf, -opBin, hbin, opBin_raw, hd]; done)) | (apply awp_cond_f; focus (simp [-cellOK, linksAV, intsAV, hE, a1, a4, a6, a8, hlt, hx, hkl, hki, hx2, w2, hpc, hpf, -opBin, hbin, opBin_raw, hd]; done)) | (refine awp_cond ?_; simp [-cellOK, linksAV, intsAV, hE, a1, a4, a6, a8, hlt, hx, hkl, hki, hx2, w2, hpc, hpf, -opBin, hbin, opBin_raw, hd]; refine ⟨?_, ?_⟩ <;> intro hc) | (refine awp_drawT isCallO mixed (by decide +kernel) ?_; simp [-cellOK, linksAV, intsAV, hE, a1, a4, a6, a8, hlt, hx, hkl, hki, hx2, w2, hpc, hpf, -opBin, hbin, opBin_raw, hd]) | (refine PCalls.use (hh) ?_; simp [-cellOK, linksAV, intsAV, hE, a1, a4, a6, a8, hlt, hx, hkl, hki, hx2, w2, hpc, hpf, -opBin, hbin, opBin_raw, hd]) | (refine Or.inl ⟨_, Or.inl (hh), ?_⟩; simp [-cellOK, linksAV, intsAV, hE, a1, a4, a6, a8, hlt, hx, hkl, hki, hx2, w2, hpc, hpf, -opBin, hbin, opBin_raw, hd]) | fail)
            · have hd : decide (F[k] = F[i]) = false := decide_eq_false he
              (try (first | (with_reducible refine dops_go ?_; simp [-cellOK, linksAV, intsAV, a1, a4, a6, a8, hlt, hx, hkl, hki, hx2, w2, hpc, hpf, -opBin, hbin, opBin_raw, hd]) | (with_reducible refine OKv_go ?_; simp [-cellOK, linksAV, intsAV, a1, a4, a6, a8, hlt, hx, hkl, hki, hx2, w2, hpc, hpf, -opBin, hbin, opBin_raw, hd]) | (with_reducible refine OKr_go ?_; simp [-cellOK, linksAV, intsAV, a1, a4, a6, a8, hlt, hx, hkl, hki, hx2, w2, hpc, hpf, -opBin, hbin, opBin_raw, hd]))); repeat' (first | refine awp_seq ?_ | refine awp_block ?_ | (refine awp_skip ?_; try simp) | (refine awp_exit ?_; try simp) | (refine awp_ret ?_; try simp) | (refine retP_same (by simp) ?_; simp) | (refine retP_no (by simp) (by simp [noIds]) (by repeat (first | assumption | exact Ext.refl _ | refine ext_new' ?_ | refine Ext.setF ?_ (by first | assumption | (simp [new_nx', St.set, fresh_none]; done) | exact ext_fresh (by assumption)))) ?_; simp [-cellOK, linksAV, intsAV, a1, a4, a6, a8, hlt, hx, hkl, hki, hx2, w2, hpc, hpf, -opBin, hbin, opBin_raw, hd, new_m, set_m, new_nx']) | (refine awp_reg ?_; simp [-cellOK, linksAV, intsAV, a1, a4, a6, a8, hlt, hx, hkl, hki, hx2, w2, hpc, hpf, -opBin, hbin, opBin_raw, hd]) | (refine awp_drawT (fun _ => false) mixed (by decide +kernel) ?_; simp [-cellOK, linksAV, intsAV, a1, a4, a6, a8, hlt, hx, hkl, hki, hx2, w2, hpc, hpf, -opBin, hbin, opBin_raw, hd]) | (refine guarded_split ?_ ?_ <;> (intro hg; simp only [hg]; simp [-cellOK, linksAV, intsAV, a1, a4, a6, a8, hlt, hx, hkl, hki, hx2, w2, hpc, hpf, -opBin, hbin, opBin_raw, hd])) | (apply awp_cond_t; focus (simp [-cellOK, linksAV, intsAV, a1, a4, a6, a8, hlt, hx, hkl, hki, hx2, w2, hpc, hpf, -opBin, hbin, opBin_raw, hd]; done)) | (apply awp_cond_f; focus (simp [-cellOK, linksAV, intsAV, a1, a4, a6, a8, hlt, hx, hkl, hki, hx2, w2, hpc, hpf, -opBin, hbin, opBin_raw, hd]; done)) | (refine awp_cond ?_; simp [-cellOK, linksAV, intsAV, a1, a4, a6, a8, hlt, hx, hkl, hki, hx2, w2, hpc, hpf, -opBin, hbin, opBin_raw, hd]; refine ⟨?_, ?_⟩ <;> intro hc) | (refine awp_drawT isCallO mixed (by decide +kernel) ?_; simp [-cellOK, linksAV, intsAV, a1, a4, a6, a8, hlt, hx, hkl, hki, hx2, w2, hpc, hpf, -opBin, hbin, opBin_raw, hd]) | (refine PCalls.use (hh) ?_; simp [-cellOK, linksAV, intsAV, a1, a4, a6, a8, hlt, hx, hkl, hki, hx2, w2, hpc, hpf, -opBin, hbin, opBin_raw, hd]) | (refine Or.inl ⟨_, Or.inl (hh), ?_⟩; simp [-cellOK, linksAV, intsAV, a1, a4, a6, a8, hlt, hx, hkl, hki, hx2, w2, hpc, hpf, -opBin, hbin, opBin_raw, hd]) | fail)
              exact hJ1 (i - (k + 1)) _ _ (by omega) ⟨hE, by simp [a1, linksAV, intsAV], by simp [a4], by simp [a6], k + 1, by simp, by omega, rfl, fun j hj hji => by
                by_cases e : j = k
                · subst e; exact he
                · exact hne j (by omega) hji⟩
          · have : k = i := by omega
            subst this
            (try (first | (with_reducible refine dops_go ?_; simp [-cellOK, linksAV, intsAV, a1, a4, a6, a8, w1]) | (with_reducible refine OKv_go ?_; simp [-cellOK, linksAV, intsAV, a1, a4, a6, a8, w1]) | (with_reducible refine OKr_go ?_; simp [-cellOK, linksAV, intsAV, a1, a4, a6, a8, w1]))); repeat' (first | refine awp_seq ?_ | refine awp_block ?_ | (refine awp_skip ?_; try simp) | (refine awp_exit ?_; try simp) | (refine awp_ret ?_; try simp) | (refine retP_same (by simp) ?_; simp) | (refine retP_no (by simp) (by simp [noIds]) (by repeat (first | assumption | exact Ext.refl _ | refine ext_new' ?_ | refine Ext.setF ?_ (by first | assumption | (simp [new_nx', St.set, fresh_none]; done) | exact ext_fresh (by assumption)))) ?_; simp [-cellOK, linksAV, intsAV, a1, a4, a6, a8, w1, new_m, set_m, new_nx']) | (refine awp_reg ?_; simp [-cellOK, linksAV, intsAV, a1, a4, a6, a8, w1]) | (refine awp_drawT (fun _ => false) mixed (by decide +kernel) ?_; simp [-cellOK, linksAV, intsAV, a1, a4, a6, a8, w1]) | (refine guarded_split ?_ ?_ <;> (intro hg; simp only [hg]; simp [-cellOK, linksAV, intsAV, a1, a4, a6, a8, w1])) | (apply awp_cond_t; focus (simp [-cellOK, linksAV, intsAV, a1, a4, a6, a8, w1]; done)) | (apply awp_cond_f; focus (simp [-cellOK, linksAV, intsAV, a1, a4, a6, a8, w1]; done)) | (refine awp_cond ?_; simp [-cellOK, linksAV, intsAV, a1, a4, a6, a8, w1]; refine ⟨?_, ?_⟩ <;> intro hc) | (refine awp_drawT isCallO mixed (by decide +kernel) ?_; simp [-cellOK, linksAV, intsAV, a1, a4, a6, a8, w1]) | (refine PCalls.use (hh) ?_; simp [-cellOK, linksAV, intsAV, a1, a4, a6, a8, w1]) | (refine Or.inl ⟨_, Or.inl (hh), ?_⟩; simp [-cellOK, linksAV, intsAV, a1, a4, a6, a8, w1]) | fail)
            refine hI1 (F.length - (k + 1)) _ _ (by omega) ⟨hE, by simp [a1, linksAV, intsAV], by simp [a4], k + 1, by simp, by omega, rfl, ?_, ?_⟩
            · rw [List.take_add_one, hx, List.all_append, hal, Option.toList_some, List.all_cons, hb]; rfl
            · rw [List.take_add_one, hx, List.nodup_append]
              refine ⟨hnd, by simp, fun a ha b hbm e => ?_⟩
              simp only [Option.toList_some, List.mem_singleton] at hbm
              subst hbm; subst e
              obtain ⟨j, hj, e2⟩ := List.mem_iff_getElem.1 ha
              simp only [List.length_take] at hj
              rw [List.getElem_take] at e2
              exact hne j (by omega) (by omega) e2
        · have hb' : hasB t F[i] = false := by simpa using hb
          rw [hb'] at hh
          have hF0 : F.all (hasB t) = false := by
            rw [List.all_eq_false]
            exact ⟨_, List.getElem_mem hlt, by simp [hb']⟩
          rw [show (F.all (hasB t) && nodupB F) = false by rw [hF0, Bool.false_and]]
          (try (first | (with_reducible refine dops_go ?_; simp [-cellOK, linksAV, intsAV, hE, a1, a4, a6, hlt, hx, hpc, hpf, htf]) | (with_reducible refine OKv_go ?_; simp [-cellOK, linksAV, intsAV, hE, a1, a4, a6, hlt, hx, hpc, hpf, htf]) | (with_reducible refine OKr_go ?_; simp [-cellOK, linksAV, intsAV, hE, a1, a4, a6, hlt, hx, hpc, hpf, htf]))); repeat' (first | refine awp_seq ?_ | refine awp_block ?_ | (refine awp_skip ?_; try simp) | (refine awp_exit ?_; try simp) | (refine awp_ret ?_; try simp) | (refine retP_same (by simp) ?_; simp) | (refine retP_no (by simp) (by simp [noIds]) (by repeat (first | assumption | exact Ext.refl _ | refine ext_new' ?_ | refine Ext.setF ?_ (by first | assumption | (simp [new_nx', St.set, fresh_none]; done) | exact ext_fresh (by assumption)))) ?_; simp [-cellOK, linksAV, intsAV, hE, a1, a4, a6, hlt, hx, hpc, hpf, htf, new_m, set_m, new_nx']) | (refine awp_reg ?_; simp [-cellOK, linksAV, intsAV, hE, a1, a4, a6, hlt, hx, hpc, hpf, htf]) | (refine awp_drawT (fun _ => false) mixed (by decide +kernel) ?_; simp [-cellOK, linksAV, intsAV, hE, a1, a4, a6, hlt, hx, hpc, hpf, htf]) | (refine guarded_split ?_ ?_ <;> (intro hg; simp only [hg]; simp [-cellOK, linksAV, intsAV, hE, a1, a4, a6, hlt, hx, hpc, hpf, htf])) | (apply awp_cond_t; focus (simp [-cellOK, linksAV, intsAV, hE, a1, a4, a6, hlt, hx, hpc, hpf, htf]; done)) | (apply awp_cond_f; focus (simp [-cellOK, linksAV, intsAV, hE, a1, a4, a6, hlt, hx, hpc, hpf, htf]; done)) | (refine awp_cond ?_; simp [-cellOK, linksAV, intsAV, hE, a1, a4, a6, hlt, hx, hpc, hpf, htf]; refine ⟨?_, ?_⟩ <;> intro hc) | (refine awp_drawT isCallO mixed (by decide +kernel) ?_; simp [-cellOK, linksAV, intsAV, hE, a1, a4, a6, hlt, hx, hpc, hpf, htf]) | (refine PCalls.use (hh) ?_; simp [-cellOK, linksAV, intsAV, hE, a1, a4, a6, hlt, hx, hpc, hpf, htf]) | (refine Or.inl ⟨_, Or.inl (hh), ?_⟩; simp [-cellOK, linksAV, intsAV, hE, a1, a4, a6, hlt, hx, hpc, hpf, htf]) | fail)
      · have : i = F.length := by omega
        subst this
        rw [List.take_length] at hal hnd
        have hnn := (nodupB_iff F).2 hnd
        rw [hal, hnn]
        (try (first | (with_reducible refine dops_go ?_; simp [-cellOK, linksAV, intsAV, hE, a1, a4, a6]) | (with_reducible refine OKv_go ?_; simp [-cellOK, linksAV, intsAV, hE, a1, a4, a6]) | (with_reducible refine OKr_go ?_; simp [-cellOK, linksAV, intsAV, hE, a1, a4, a6]))); repeat' (first | refine awp_seq ?_ | refine awp_block ?_ | (refine awp_skip ?_; try simp) | (refine awp_exit ?_; try simp) | (refine awp_ret ?_; try simp) | (refine retP_same (by simp) ?_; simp) | (refine retP_no (by simp) (by simp [noIds]) (by repeat (first | assumption | exact Ext.refl _ | refine ext_new' ?_ | refine Ext.setF ?_ (by first | assumption | (simp [new_nx', St.set, fresh_none]; done) | exact ext_fresh (by assumption)))) ?_; simp [-cellOK, linksAV, intsAV, hE, a1, a4, a6, new_m, set_m, new_nx']) | (refine awp_reg ?_; simp [-cellOK, linksAV, intsAV, hE, a1, a4, a6]) | (refine awp_drawT (fun _ => false) mixed (by decide +kernel) ?_; simp [-cellOK, linksAV, intsAV, hE, a1, a4, a6]) | (refine guarded_split ?_ ?_ <;> (intro hg; simp only [hg]; simp [-cellOK, linksAV, intsAV, hE, a1, a4, a6])) | (apply awp_cond_t; focus (simp [-cellOK, linksAV, intsAV, hE, a1, a4, a6]; done)) | (apply awp_cond_f; focus (simp [-cellOK, linksAV, intsAV, hE, a1, a4, a6]; done)) | (refine awp_cond ?_; simp [-cellOK, linksAV, intsAV, hE, a1, a4, a6]; refine ⟨?_, ?_⟩ <;> intro hc) | (refine awp_drawT isCallO mixed (by decide +kernel) ?_; simp [-cellOK, linksAV, intsAV, hE, a1, a4, a6]) | fail)
end Go.Proofs.Ytanimmdlgmkmkaa.Av


/- Networks: the document's right rules, all of them. -/
namespace Go.Proofs.Ytanimmdlgmkmkaa.Av
open Go
set_option linter.unusedSimpArgs false
set_option linter.unusedVariables false
set_option maxRecDepth 100000
set_option maxHeartbeats 2000000
set_option pp.maxSteps 300

/-- The ID ahead of the place i. -/
def idAt (l : List Ru) (i : Nat) : Int := match i with | 0 => 0 | k + 1 => match l[k]? with | some r => r.id | none => 0
theorem refAll_calls (l : List Ru) (f : Bool) (hl : l.length < 2932031007403) (hid : ∀ r ∈ l, -9223372036854775808 ≤ r.id ∧ r.id < 9223372036854775808) : PCalls Try.prog 81 [rulesAV l f] (.raw (.bool (allB l))) := by
  refine pbody Try.func81 rfl (N := 39) rfl rfl (by simp) (by simp [noIds]) fun σ => ?_
  (try (first | (with_reducible refine dops_go ?_; simp [rulesAV]) | (with_reducible refine OKv_go ?_; simp [rulesAV]) | (with_reducible refine OKr_go ?_; simp [rulesAV]))); repeat' (first | refine awp_seq ?_ | refine awp_block ?_ | (refine awp_skip ?_; try simp) | (refine awp_exit ?_; try simp) | (refine awp_ret ?_; try simp) | (refine retP_same (by simp) ?_; simp) | (refine retP_flat (by simp) (by simp) (by simp (maxDischargeDepth := 30) [rulesAV]) ?_; simp) | (refine awp_reg ?_; simp [rulesAV]) | (refine awp_drawT (fun _ => false) mixed (by decide +kernel) ?_; simp [rulesAV]) | (refine guarded_split ?_ ?_ <;> (intro hg; simp only [hg]; simp [rulesAV])) | (apply awp_cond_t; focus (simp [rulesAV]; done)) | (apply awp_cond_f; focus (simp [rulesAV]; done)) | (refine awp_cond ?_; simp [rulesAV]; refine ⟨?_, ?_⟩ <;> intro hc))
  refine awp_loopH (fun n A τ => τ = σ ∧ A 0 = rulesAV l f ∧ ∃ i : Nat, A 3 = .raw (.int .i64 i) ∧ i ≤ l.length ∧ n = l.length - i ∧ allFrom 0 l = allFrom (idAt l i) (l.drop i)) l.length ?_ ?_
  · exact ⟨rfl, by simp [rulesAV], 0, by simp, by omega, by omega, by simp [idAt]⟩
  rintro n A τ ⟨rfl, a0, i, a3, hi, rfl, hall⟩ I1 hI1
  by_cases hlt : i < l.length
  · have hx : l[i]? = some l[i] := List.getElem?_eq_getElem hlt
    have w1 : IntKind.i64.wrap ((i : Int) + 1) = ((i + 1 : Nat) : Int) := by rw [wrap64 (by omega) (by omega)]; omega
    have hd : l.drop i = l[i] :: l.drop (i + 1) := List.drop_eq_getElem_cons hlt
    rw [hd] at hall
    simp only [allFrom] at hall
    obtain ⟨b, hb⟩ : ∃ b, ruleB l[i] = b := ⟨_, rfl⟩
    have hr := hb ▸ refRuleRight_calls l[i] (hid _ (List.getElem_mem _)).1 (hid _ (List.getElem_mem _)).2
    rw [hb] at hall
    (try (first | (with_reducible refine dops_go ?_; simp [rulesAV, a0, a3, hlt, hx, ru_cells, ru_ok, ru_fold, w1]) | (with_reducible refine OKv_go ?_; simp [rulesAV, a0, a3, hlt, hx, ru_cells, ru_ok, ru_fold, w1]) | (with_reducible refine OKr_go ?_; simp [rulesAV, a0, a3, hlt, hx, ru_cells, ru_ok, ru_fold, w1]))); repeat' (first | refine awp_seq ?_ | refine awp_block ?_ | (refine awp_skip ?_; try simp) | (refine awp_exit ?_; try simp) | (refine awp_ret ?_; try simp) | (refine retP_same (by simp) ?_; simp) | (refine retP_flat (by simp) (by simp) (by simp (maxDischargeDepth := 30) [rulesAV, a0, a3, hlt, hx, ru_cells, ru_ok, ru_fold, w1]) ?_; simp) | (refine awp_reg ?_; simp [rulesAV, a0, a3, hlt, hx, ru_cells, ru_ok, ru_fold, w1]) | (refine awp_drawT (fun _ => false) mixed (by decide +kernel) ?_; simp [rulesAV, a0, a3, hlt, hx, ru_cells, ru_ok, ru_fold, w1]) | (refine guarded_split ?_ ?_ <;> (intro hg; simp only [hg]; simp [rulesAV, a0, a3, hlt, hx, ru_cells, ru_ok, ru_fold, w1])) | (apply awp_cond_t; focus (simp [rulesAV, a0, a3, hlt, hx, ru_cells, ru_ok, ru_fold, w1]; done)) | (apply awp_cond_f; focus (simp [rulesAV, a0, a3, hlt, hx, ru_cells, ru_ok, ru_fold, w1]; done)) | (refine awp_cond ?_; simp [rulesAV, a0, a3, hlt, hx, ru_cells, ru_ok, ru_fold, w1]; refine ⟨?_, ?_⟩ <;> intro hc))
    refine PCalls.use hr ?_
    cases b with
    | false =>
      (try (first | (with_reducible refine dops_go ?_; simp [rulesAV, a0, a3, hlt, hx, ru_cells, ru_ok, ru_fold, w1]) | (with_reducible refine OKv_go ?_; simp [rulesAV, a0, a3, hlt, hx, ru_cells, ru_ok, ru_fold, w1]) | (with_reducible refine OKr_go ?_; simp [rulesAV, a0, a3, hlt, hx, ru_cells, ru_ok, ru_fold, w1]))); repeat' (first | refine awp_seq ?_ | refine awp_block ?_ | (refine awp_skip ?_; try simp) | (refine awp_exit ?_; try simp) | (refine awp_ret ?_; try simp) | (refine retP_same (by simp) ?_; simp) | (refine retP_flat (by simp) (by simp) (by simp (maxDischargeDepth := 30) [rulesAV, a0, a3, hlt, hx, ru_cells, ru_ok, ru_fold, w1]) ?_; simp) | (refine awp_reg ?_; simp [rulesAV, a0, a3, hlt, hx, ru_cells, ru_ok, ru_fold, w1]) | (refine awp_drawT (fun _ => false) mixed (by decide +kernel) ?_; simp [rulesAV, a0, a3, hlt, hx, ru_cells, ru_ok, ru_fold, w1]) | (refine guarded_split ?_ ?_ <;> (intro hg; simp only [hg]; simp [rulesAV, a0, a3, hlt, hx, ru_cells, ru_ok, ru_fold, w1])) | (apply awp_cond_t; focus (simp [rulesAV, a0, a3, hlt, hx, ru_cells, ru_ok, ru_fold, w1]; done)) | (apply awp_cond_f; focus (simp [rulesAV, a0, a3, hlt, hx, ru_cells, ru_ok, ru_fold, w1]; done)) | (refine awp_cond ?_; simp [rulesAV, a0, a3, hlt, hx, ru_cells, ru_ok, ru_fold, w1]; refine ⟨?_, ?_⟩ <;> intro hc))
      all_goals simp [allB, hall]
    | true =>
      cases i with
      | zero =>
        have hpos : 1 ≤ l[0].id := by
          have := hb; unfold ruleB at this; simp at this; omega
        (try (first | (with_reducible refine dops_go ?_; simp [rulesAV, a0, a3, hlt, hx, ru_cells, ru_ok, ru_fold, w1]) | (with_reducible refine OKv_go ?_; simp [rulesAV, a0, a3, hlt, hx, ru_cells, ru_ok, ru_fold, w1]) | (with_reducible refine OKr_go ?_; simp [rulesAV, a0, a3, hlt, hx, ru_cells, ru_ok, ru_fold, w1]))); repeat' (first | refine awp_seq ?_ | refine awp_block ?_ | (refine awp_skip ?_; try simp) | (refine awp_exit ?_; try simp) | (refine awp_ret ?_; try simp) | (refine retP_same (by simp) ?_; simp) | (refine retP_flat (by simp) (by simp) (by simp (maxDischargeDepth := 30) [rulesAV, a0, a3, hlt, hx, ru_cells, ru_ok, ru_fold, w1]) ?_; simp) | (refine awp_reg ?_; simp [rulesAV, a0, a3, hlt, hx, ru_cells, ru_ok, ru_fold, w1]) | (refine awp_drawT (fun _ => false) mixed (by decide +kernel) ?_; simp [rulesAV, a0, a3, hlt, hx, ru_cells, ru_ok, ru_fold, w1]) | (refine guarded_split ?_ ?_ <;> (intro hg; simp only [hg]; simp [rulesAV, a0, a3, hlt, hx, ru_cells, ru_ok, ru_fold, w1])) | (apply awp_cond_t; focus (simp [rulesAV, a0, a3, hlt, hx, ru_cells, ru_ok, ru_fold, w1]; done)) | (apply awp_cond_f; focus (simp [rulesAV, a0, a3, hlt, hx, ru_cells, ru_ok, ru_fold, w1]; done)) | (refine awp_cond ?_; simp [rulesAV, a0, a3, hlt, hx, ru_cells, ru_ok, ru_fold, w1]; refine ⟨?_, ?_⟩ <;> intro hc))
        have w0 : IntKind.i64.wrap 1 = 1 := wrap64 (by omega) (by omega)
        have hx0 : l[0]? = some l[0] := hx
        have h0 : (0 : Int) < l[0].id := by omega
        have h1 : idAt l 1 = l[0].id := by simp [idAt, hx0]
        exact hI1 (l.length - 1) _ _ (by omega) ⟨rfl, by simp [a0, rulesAV], 1, by simp [w0], by omega, rfl, by rw [hall, h1]; simp [idAt, h0]⟩
      | succ k =>
        have hk : k < l.length := by omega
        have hxk : l[k]? = some l[k] := List.getElem?_eq_getElem hk
        have w2 : IntKind.i64.wrap (k : Int) = k := wrap64 (by omega) (by omega)
        have hp0 : (0 : Int) ≤ (k : Int) + 1 := by omega
        have htn : ((k : Int) + 1).toNat = k + 1 := by omega
        have w4 : IntKind.i64.wrap ((k : Int) + 1 + 1) = (k : Int) + 1 + 1 := wrap64 (by omega) (by omega)
        have w3 : IntKind.i64.wrap ((k : Int) + 1 - 1) = k := by rw [wrap64 (by omega) (by omega)]; omega
        have hidk : idAt l (k + 1) = l[k].id := by simp [idAt, hxk]
        rw [hidk] at hall
        have hpk : (0 : Int) < (k : Int) + 1 := by omega
        by_cases hle : l[k + 1].id ≤ l[k].id
        · have hnl : ¬ l[k].id < l[k + 1].id := by omega
          (try (first | (with_reducible refine dops_go ?_; simp [rulesAV, a0, a3, hlt, hx, hk, hxk, ru_cells, ru_ok, ru_fold, w1, w2, w3, w4, hp0, htn, hpk, hle]) | (with_reducible refine OKv_go ?_; simp [rulesAV, a0, a3, hlt, hx, hk, hxk, ru_cells, ru_ok, ru_fold, w1, w2, w3, w4, hp0, htn, hpk, hle]) | (with_reducible refine OKr_go ?_; simp [rulesAV, a0, a3, hlt, hx, hk, hxk, ru_cells, ru_ok, ru_fold, w1, w2, w3, w4, hp0, htn, hpk, hle]))); repeat' (first | refine awp_seq ?_ | refine awp_block ?_ | (refine awp_skip ?_; try simp) | (refine awp_exit ?_; try simp) | (refine awp_ret ?_; try simp) | (refine retP_same (by simp) ?_; simp) | (refine retP_flat (by simp) (by simp) (by simp (maxDischargeDepth := 30) [rulesAV, a0, a3, hlt, hx, hk, hxk, ru_cells, ru_ok, ru_fold, w1, w2, w3, w4, hp0, htn, hpk, hle]) ?_; simp) | (refine awp_reg ?_; simp [rulesAV, a0, a3, hlt, hx, hk, hxk, ru_cells, ru_ok, ru_fold, w1, w2, w3, w4, hp0, htn, hpk, hle]) | (refine awp_drawT (fun _ => false) mixed (by decide +kernel) ?_; simp [rulesAV, a0, a3, hlt, hx, hk, hxk, ru_cells, ru_ok, ru_fold, w1, w2, w3, w4, hp0, htn, hpk, hle]) | (refine guarded_split ?_ ?_ <;> (intro hg; simp only [hg]; simp [rulesAV, a0, a3, hlt, hx, hk, hxk, ru_cells, ru_ok, ru_fold, w1, w2, w3, w4, hp0, htn, hpk, hle])) | (apply awp_cond_t; focus (simp [rulesAV, a0, a3, hlt, hx, hk, hxk, ru_cells, ru_ok, ru_fold, w1, w2, w3, w4, hp0, htn, hpk, hle]; done)) | (apply awp_cond_f; focus (simp [rulesAV, a0, a3, hlt, hx, hk, hxk, ru_cells, ru_ok, ru_fold, w1, w2, w3, w4, hp0, htn, hpk, hle]; done)) | (refine awp_cond ?_; simp [rulesAV, a0, a3, hlt, hx, hk, hxk, ru_cells, ru_ok, ru_fold, w1, w2, w3, w4, hp0, htn, hpk, hle]; refine ⟨?_, ?_⟩ <;> intro hc))
          all_goals simp [allB, hall, hnl]
        · have hg : l[k].id < l[k + 1].id := by omega
          (try (first | (with_reducible refine dops_go ?_; simp [rulesAV, a0, a3, hlt, hx, hk, hxk, ru_cells, ru_ok, ru_fold, w1, w2, w3, w4, hp0, htn, hpk, hle]) | (with_reducible refine OKv_go ?_; simp [rulesAV, a0, a3, hlt, hx, hk, hxk, ru_cells, ru_ok, ru_fold, w1, w2, w3, w4, hp0, htn, hpk, hle]) | (with_reducible refine OKr_go ?_; simp [rulesAV, a0, a3, hlt, hx, hk, hxk, ru_cells, ru_ok, ru_fold, w1, w2, w3, w4, hp0, htn, hpk, hle]))); repeat' (first | refine awp_seq ?_ | refine awp_block ?_ | (refine awp_skip ?_; try simp) | (refine awp_exit ?_; try simp) | (refine awp_ret ?_; try simp) | (refine retP_same (by simp) ?_; simp) | (refine retP_flat (by simp) (by simp) (by simp (maxDischargeDepth := 30) [rulesAV, a0, a3, hlt, hx, hk, hxk, ru_cells, ru_ok, ru_fold, w1, w2, w3, w4, hp0, htn, hpk, hle]) ?_; simp) | (refine awp_reg ?_; simp [rulesAV, a0, a3, hlt, hx, hk, hxk, ru_cells, ru_ok, ru_fold, w1, w2, w3, w4, hp0, htn, hpk, hle]) | (refine awp_drawT (fun _ => false) mixed (by decide +kernel) ?_; simp [rulesAV, a0, a3, hlt, hx, hk, hxk, ru_cells, ru_ok, ru_fold, w1, w2, w3, w4, hp0, htn, hpk, hle]) | (refine guarded_split ?_ ?_ <;> (intro hg; simp only [hg]; simp [rulesAV, a0, a3, hlt, hx, hk, hxk, ru_cells, ru_ok, ru_fold, w1, w2, w3, w4, hp0, htn, hpk, hle])) | (apply awp_cond_t; focus (simp [rulesAV, a0, a3, hlt, hx, hk, hxk, ru_cells, ru_ok, ru_fold, w1, w2, w3, w4, hp0, htn, hpk, hle]; done)) | (apply awp_cond_f; focus (simp [rulesAV, a0, a3, hlt, hx, hk, hxk, ru_cells, ru_ok, ru_fold, w1, w2, w3, w4, hp0, htn, hpk, hle]; done)) | (refine awp_cond ?_; simp [rulesAV, a0, a3, hlt, hx, hk, hxk, ru_cells, ru_ok, ru_fold, w1, w2, w3, w4, hp0, htn, hpk, hle]; refine ⟨?_, ?_⟩ <;> intro hc))
          exact hI1 (l.length - (k + 1 + 1)) _ _ (by omega) ⟨rfl, by simp [a0, rulesAV], k + 1 + 1, by simp, by omega, rfl, by rw [hall]; simp [idAt, hx, hg]⟩
  · have : i = l.length := by omega
    subst this
    (try (first | (with_reducible refine dops_go ?_; simp [rulesAV, a0, a3]) | (with_reducible refine OKv_go ?_; simp [rulesAV, a0, a3]) | (with_reducible refine OKr_go ?_; simp [rulesAV, a0, a3]))); repeat' (first | refine awp_seq ?_ | refine awp_block ?_ | (refine awp_skip ?_; try simp) | (refine awp_exit ?_; try simp) | (refine awp_ret ?_; try simp) | (refine retP_same (by simp) ?_; simp) | (refine retP_flat (by simp) (by simp) (by simp (maxDischargeDepth := 30) [rulesAV, a0, a3]) ?_; simp) | (refine awp_reg ?_; simp [rulesAV, a0, a3]) | (refine awp_drawT (fun _ => false) mixed (by decide +kernel) ?_; simp [rulesAV, a0, a3]) | (refine guarded_split ?_ ?_ <;> (intro hg; simp only [hg]; simp [rulesAV, a0, a3])) | (apply awp_cond_t; focus (simp [rulesAV, a0, a3]; done)) | (apply awp_cond_f; focus (simp [rulesAV, a0, a3]; done)) | (refine awp_cond ?_; simp [rulesAV, a0, a3]; refine ⟨?_, ?_⟩ <;> intro hc))
    rw [List.drop_length] at hall
    simp only [allFrom] at hall
    simp [allB, hall]
    omega
end Go.Proofs.Ytanimmdlgmkmkaa.Av


/- The laws' own functions: right networks, such as are asked about, the live question of queries. -/
namespace Go.Proofs.Ytanimmdlgmkmkaa.Av
open Go
set_option linter.unusedSimpArgs false
set_option linter.unusedVariables false
set_option maxRecDepth 100000
set_option maxHeartbeats 4000000
set_option pp.maxSteps 600

theorem refNwRight_calls (n : Nw) (f : Fl) (hn : NwOK n) : PCalls Try.prog 45 [nwAV n f] (.raw (.bool (rightN n))) := by
  have l1 := hn.ports
  have l2 := hn.links
  have l3 := hn.rules
  have h1 := refRight_calls n.t f (by omega) l2
  have h2 := refAll_calls n.rules f.r l3 hn.id
  have h3 := refFits_calls n.t f n.rules f.r (by omega) (by omega)
  rw [← rightT_eq] at h1
  unfold rightN
  have htf : ∀ (N : Nw) (F : Fl), AV.agg [intsAV N.t.ports F.p, linksAV N.t.links F.l] = tpAV N.t F := fun _ _ => rfl
  generalize rightT n.t = b1 at h1 ⊢
  generalize allB n.rules = b2 at h2 ⊢
  generalize fitsB n.t n.rules = b3 at h3 ⊢
  refine pbody Try.func45 rfl (N := 22) rfl rfl (by simp) (by simp [noIds]) fun σ => ?_
  cases b1 <;> cases b2 <;> ((try (first | (with_reducible refine dops_go ?_; simp [-cellOK, nw_cells, htf]) | (with_reducible refine OKv_go ?_; simp [-cellOK, nw_cells, htf]) | (with_reducible refine OKr_go ?_; simp [-cellOK, nw_cells, htf]))); repeat' (first | refine awp_seq ?_ | refine awp_block ?_ | (refine awp_skip ?_; try simp) | (refine awp_exit ?_; try simp) | (refine awp_ret ?_; try simp) | (refine retP_same (by simp) ?_; simp) | (refine retP_no (by simp) (by simp [noIds]) (by repeat (first | assumption | exact Ext.refl _ | refine ext_new' ?_ | refine Ext.setF ?_ (by first | assumption | (simp [new_nx', St.set, fresh_none]; done) | exact ext_fresh (by assumption)))) ?_; simp [-cellOK, nw_cells, htf, new_m, set_m, new_nx']) | (refine awp_reg ?_; simp [-cellOK, nw_cells, htf]) | (refine awp_drawT (fun _ => false) mixed (by decide +kernel) ?_; simp [-cellOK, nw_cells, htf]) | (refine guarded_split ?_ ?_ <;> (intro hg; simp only [hg]; simp [-cellOK, nw_cells, htf])) | (apply awp_cond_t; focus (simp [-cellOK, nw_cells, htf]; done)) | (apply awp_cond_f; focus (simp [-cellOK, nw_cells, htf]; done)) | (refine awp_cond ?_; simp [-cellOK, nw_cells, htf]; refine ⟨?_, ?_⟩ <;> intro hc) | (refine awp_drawT isCallO mixed (by decide +kernel) ?_; simp [-cellOK, nw_cells, htf]) | (refine PCalls.use (h1) ?_; simp [-cellOK, nw_cells, htf]) | (refine Or.inl ⟨_, Or.inl (h1), ?_⟩; simp [-cellOK, nw_cells, htf]) | (refine PCalls.use (h2) ?_; simp [-cellOK, nw_cells, htf]) | (refine Or.inl ⟨_, Or.inl (h2), ?_⟩; simp [-cellOK, nw_cells, htf]) | (refine PCalls.use (h3) ?_; simp [-cellOK, nw_cells, htf]) | (refine Or.inl ⟨_, Or.inl (h3), ?_⟩; simp [-cellOK, nw_cells, htf]) | fail))
def fits09 (n : Nw) : Bool := !decide (20 < n.t.ports.length) && (!decide (40 < n.t.links.length) && (!decide (60 < n.rules.length) && rightN n))
/-- What is known of a network before its sizes are. -/
structure NwW (n : Nw) : Prop where
  rg : ∀ r ∈ n.rules, RgOK r.r
  id : ∀ r ∈ n.rules, -9223372036854775808 ≤ r.id ∧ r.id < 9223372036854775808
theorem NwOK.w {n : Nw} (h : NwOK n) : NwW n := ⟨h.rg, h.id⟩
theorem NwW.small {n : Nw} (h : NwW n) (h1 : ¬ 20 < n.t.ports.length) (h2 : ¬ 40 < n.t.links.length) (h3 : ¬ 60 < n.rules.length) : NwOK n where
  rg := h.rg
  id := h.id
  ports := by omega
  links := by omega
  rules := by omega
theorem NwW.fits {n : Nw} (h : NwW n) (hf : fits09 n = true) : NwOK n := by
  unfold fits09 at hf
  simp only [Bool.and_eq_true, Bool.not_eq_true', decide_eq_false_iff_not] at hf
  exact h.small hf.1 hf.2.1 hf.2.2.1
theorem fits09_calls (n : Nw) (f : Fl) (hn : NwW n) : PCalls Try.prog 19 [nwAV n f] (.raw (.bool (fits09 n))) := by
  have h1 := fun a b c => refNwRight_calls n f (hn.small a b c)
  unfold fits09
  generalize rightN n = b1 at h1 ⊢
  have hp : ∀ m, opLen Try.prog m 22 (intsAV n.t.ports f.p) = some (.raw (.int .i64 n.t.ports.length)) := fun m => by simp [intsAV]
  have hk : ∀ m, opLen Try.prog m 23 (linksAV n.t.links f.l) = some (.raw (.int .i64 n.t.links.length)) := fun m => by simp [linksAV]
  have hu : ∀ m, opLen Try.prog m 26 (rulesAV n.rules f.r) = some (.raw (.int .i64 n.rules.length)) := fun m => by simp [rulesAV]
  generalize n.t.ports.length = x at hp h1 ⊢
  generalize n.t.links.length = y at hk h1 ⊢
  generalize n.rules.length = z at hu h1 ⊢
  refine pbody Try.func19 rfl (N := 25) rfl rfl (by simp) (by simp [noIds]) fun σ => ?_
  by_cases q1 : 20 < x
  · have q1' : (20 : Int) < (x : Int) := by omega
    (try (first | (with_reducible refine dops_go ?_; simp [-cellOK, nw_cells, nw_fold, -opLen, hp, hk, hu, q1, q1']) | (with_reducible refine OKv_go ?_; simp [-cellOK, nw_cells, nw_fold, -opLen, hp, hk, hu, q1, q1']) | (with_reducible refine OKr_go ?_; simp [-cellOK, nw_cells, nw_fold, -opLen, hp, hk, hu, q1, q1']))); repeat' (first | refine awp_seq ?_ | refine awp_block ?_ | (refine awp_skip ?_; try simp) | (refine awp_exit ?_; try simp) | (refine awp_ret ?_; try simp) | (refine retP_same (by simp) ?_; simp) | (refine retP_no (by simp) (by simp [noIds]) (by repeat (first | assumption | exact Ext.refl _ | refine ext_new' ?_ | refine Ext.setF ?_ (by first | assumption | (simp [new_nx', St.set, fresh_none]; done) | exact ext_fresh (by assumption)))) ?_; simp [-cellOK, nw_cells, nw_fold, -opLen, hp, hk, hu, q1, q1', new_m, set_m, new_nx']) | (refine awp_reg ?_; simp [-cellOK, nw_cells, nw_fold, -opLen, hp, hk, hu, q1, q1']) | (refine awp_drawT (fun _ => false) mixed (by decide +kernel) ?_; simp [-cellOK, nw_cells, nw_fold, -opLen, hp, hk, hu, q1, q1']) | (refine guarded_split ?_ ?_ <;> (intro hg; simp only [hg]; simp [-cellOK, nw_cells, nw_fold, -opLen, hp, hk, hu, q1, q1'])) | (apply awp_cond_t; focus (simp [-cellOK, nw_cells, nw_fold, -opLen, hp, hk, hu, q1, q1']; done)) | (apply awp_cond_f; focus (simp [-cellOK, nw_cells, nw_fold, -opLen, hp, hk, hu, q1, q1']; done)) | (refine awp_cond ?_; simp [-cellOK, nw_cells, nw_fold, -opLen, hp, hk, hu, q1, q1']; refine ⟨?_, ?_⟩ <;> intro hc) | (refine awp_drawT isCallO mixed (by decide +kernel) ?_; simp [-cellOK, nw_cells, nw_fold, -opLen, hp, hk, hu, q1, q1']) | fail)
  have q1' : ¬ (20 : Int) < (x : Int) := by omega
  by_cases q2 : 40 < y
  · have q2' : (40 : Int) < (y : Int) := by omega
    (try (first | (with_reducible refine dops_go ?_; simp [-cellOK, nw_cells, nw_fold, -opLen, hp, hk, hu, q1, q1', q2, q2']) | (with_reducible refine OKv_go ?_; simp [-cellOK, nw_cells, nw_fold, -opLen, hp, hk, hu, q1, q1', q2, q2']) | (with_reducible refine OKr_go ?_; simp [-cellOK, nw_cells, nw_fold, -opLen, hp, hk, hu, q1, q1', q2, q2']))); repeat' (first | refine awp_seq ?_ | refine awp_block ?_ | (refine awp_skip ?_; try simp) | (refine awp_exit ?_; try simp) | (refine awp_ret ?_; try simp) | (refine retP_same (by simp) ?_; simp) | (refine retP_no (by simp) (by simp [noIds]) (by repeat (first | assumption | exact Ext.refl _ | refine ext_new' ?_ | refine Ext.setF ?_ (by first | assumption | (simp [new_nx', St.set, fresh_none]; done) | exact ext_fresh (by assumption)))) ?_; simp [-cellOK, nw_cells, nw_fold, -opLen, hp, hk, hu, q1, q1', q2, q2', new_m, set_m, new_nx']) | (refine awp_reg ?_; simp [-cellOK, nw_cells, nw_fold, -opLen, hp, hk, hu, q1, q1', q2, q2']) | (refine awp_drawT (fun _ => false) mixed (by decide +kernel) ?_; simp [-cellOK, nw_cells, nw_fold, -opLen, hp, hk, hu, q1, q1', q2, q2']) | (refine guarded_split ?_ ?_ <;> (intro hg; simp only [hg]; simp [-cellOK, nw_cells, nw_fold, -opLen, hp, hk, hu, q1, q1', q2, q2'])) | (apply awp_cond_t; focus (simp [-cellOK, nw_cells, nw_fold, -opLen, hp, hk, hu, q1, q1', q2, q2']; done)) | (apply awp_cond_f; focus (simp [-cellOK, nw_cells, nw_fold, -opLen, hp, hk, hu, q1, q1', q2, q2']; done)) | (refine awp_cond ?_; simp [-cellOK, nw_cells, nw_fold, -opLen, hp, hk, hu, q1, q1', q2, q2']; refine ⟨?_, ?_⟩ <;> intro hc) | (refine awp_drawT isCallO mixed (by decide +kernel) ?_; simp [-cellOK, nw_cells, nw_fold, -opLen, hp, hk, hu, q1, q1', q2, q2']) | fail)
  have q2' : ¬ (40 : Int) < (y : Int) := by omega
  by_cases q3 : 60 < z
  · have q3' : (60 : Int) < (z : Int) := by omega
    (try (first | (with_reducible refine dops_go ?_; simp [-cellOK, nw_cells, nw_fold, -opLen, hp, hk, hu, q1, q1', q2, q2', q3, q3']) | (with_reducible refine OKv_go ?_; simp [-cellOK, nw_cells, nw_fold, -opLen, hp, hk, hu, q1, q1', q2, q2', q3, q3']) | (with_reducible refine OKr_go ?_; simp [-cellOK, nw_cells, nw_fold, -opLen, hp, hk, hu, q1, q1', q2, q2', q3, q3']))); repeat' (first | refine awp_seq ?_ | refine awp_block ?_ | (refine awp_skip ?_; try simp) | (refine awp_exit ?_; try simp) | (refine awp_ret ?_; try simp) | (refine retP_same (by simp) ?_; simp) | (refine retP_no (by simp) (by simp [noIds]) (by repeat (first | assumption | exact Ext.refl _ | refine ext_new' ?_ | refine Ext.setF ?_ (by first | assumption | (simp [new_nx', St.set, fresh_none]; done) | exact ext_fresh (by assumption)))) ?_; simp [-cellOK, nw_cells, nw_fold, -opLen, hp, hk, hu, q1, q1', q2, q2', q3, q3', new_m, set_m, new_nx']) | (refine awp_reg ?_; simp [-cellOK, nw_cells, nw_fold, -opLen, hp, hk, hu, q1, q1', q2, q2', q3, q3']) | (refine awp_drawT (fun _ => false) mixed (by decide +kernel) ?_; simp [-cellOK, nw_cells, nw_fold, -opLen, hp, hk, hu, q1, q1', q2, q2', q3, q3']) | (refine guarded_split ?_ ?_ <;> (intro hg; simp only [hg]; simp [-cellOK, nw_cells, nw_fold, -opLen, hp, hk, hu, q1, q1', q2, q2', q3, q3'])) | (apply awp_cond_t; focus (simp [-cellOK, nw_cells, nw_fold, -opLen, hp, hk, hu, q1, q1', q2, q2', q3, q3']; done)) | (apply awp_cond_f; focus (simp [-cellOK, nw_cells, nw_fold, -opLen, hp, hk, hu, q1, q1', q2, q2', q3, q3']; done)) | (refine awp_cond ?_; simp [-cellOK, nw_cells, nw_fold, -opLen, hp, hk, hu, q1, q1', q2, q2', q3, q3']; refine ⟨?_, ?_⟩ <;> intro hc) | (refine awp_drawT isCallO mixed (by decide +kernel) ?_; simp [-cellOK, nw_cells, nw_fold, -opLen, hp, hk, hu, q1, q1', q2, q2', q3, q3']) | fail)
  have q3' : ¬ (60 : Int) < (z : Int) := by omega
  have h1 := h1 q1 q2 q3
  (try (first | (with_reducible refine dops_go ?_; simp [-cellOK, nw_cells, nw_fold, -opLen, hp, hk, hu, q1, q1', q2, q2', q3, q3']) | (with_reducible refine OKv_go ?_; simp [-cellOK, nw_cells, nw_fold, -opLen, hp, hk, hu, q1, q1', q2, q2', q3, q3']) | (with_reducible refine OKr_go ?_; simp [-cellOK, nw_cells, nw_fold, -opLen, hp, hk, hu, q1, q1', q2, q2', q3, q3']))); repeat' (first | refine awp_seq ?_ | refine awp_block ?_ | (refine awp_skip ?_; try simp) | (refine awp_exit ?_; try simp) | (refine awp_ret ?_; try simp) | (refine retP_same (by simp) ?_; simp) | (refine retP_no (by simp) (by simp [noIds]) (by repeat (first | assumption | exact Ext.refl _ | refine ext_new' ?_ | refine Ext.setF ?_ (by first | assumption | (simp [new_nx', St.set, fresh_none]; done) | exact ext_fresh (by assumption)))) ?_; simp [-cellOK, nw_cells, nw_fold, -opLen, hp, hk, hu, q1, q1', q2, q2', q3, q3', new_m, set_m, new_nx']) | (refine awp_reg ?_; simp [-cellOK, nw_cells, nw_fold, -opLen, hp, hk, hu, q1, q1', q2, q2', q3, q3']) | (refine awp_drawT (fun _ => false) mixed (by decide +kernel) ?_; simp [-cellOK, nw_cells, nw_fold, -opLen, hp, hk, hu, q1, q1', q2, q2', q3, q3']) | (refine guarded_split ?_ ?_ <;> (intro hg; simp only [hg]; simp [-cellOK, nw_cells, nw_fold, -opLen, hp, hk, hu, q1, q1', q2, q2', q3, q3'])) | (apply awp_cond_t; focus (simp [-cellOK, nw_cells, nw_fold, -opLen, hp, hk, hu, q1, q1', q2, q2', q3, q3']; done)) | (apply awp_cond_f; focus (simp [-cellOK, nw_cells, nw_fold, -opLen, hp, hk, hu, q1, q1', q2, q2', q3, q3']; done)) | (refine awp_cond ?_; simp [-cellOK, nw_cells, nw_fold, -opLen, hp, hk, hu, q1, q1', q2, q2', q3, q3']; refine ⟨?_, ?_⟩ <;> intro hc) | (refine awp_drawT isCallO mixed (by decide +kernel) ?_; simp [-cellOK, nw_cells, nw_fold, -opLen, hp, hk, hu, q1, q1', q2, q2', q3, q3']) | (refine PCalls.use (h1) ?_; simp [-cellOK, nw_cells, nw_fold, -opLen, hp, hk, hu, q1, q1', q2, q2', q3, q3']) | (refine Or.inl ⟨_, Or.inl (h1), ?_⟩; simp [-cellOK, nw_cells, nw_fold, -opLen, hp, hk, hu, q1, q1', q2, q2', q3, q3']) | fail)
def nw2AV (n m : Nw) (f g : Fl) : AV := .agg ((nwAV n f).cells ++ (nwAV m g).cells)
theorem nw2_cells (n m : Nw) (f g : Fl) : (nw2AV n m f g).cells = [intsAV n.t.ports f.p, linksAV n.t.links f.l, rulesAV n.rules f.r, intsAV m.t.ports g.p, linksAV m.t.links g.l, rulesAV m.rules g.r] := rfl
@[simp] theorem nw2_ids (K : Id → Prop) (n m : Nw) (f g : Fl) : (nw2AV n m f g).ids K := by simp [nw2AV, nw_cells]
theorem nw2_fold (n m : Nw) (f g : Fl) : AV.agg [intsAV n.t.ports f.p, linksAV n.t.links f.l, rulesAV n.rules f.r, intsAV m.t.ports g.p, linksAV m.t.links g.l, rulesAV m.rules g.r] = nw2AV n m f g := rfl
def fits12 (n m : Nw) (q : Qy) : Bool := fits09 n && (fits09 m && decide (q.other.size ≤ 60))
theorem fits12_calls (n m : Nw) (f g : Fl) (q : Qy) (hn : NwW n) (hm : NwW m) : PCalls Try.prog 11 [nw2AV n m f g, qyAV q] (.raw (.bool (fits12 n m q))) := by
  have h1 := fits09_calls n f hn
  have h2 := fits09_calls m g hm
  unfold fits12
  generalize fits09 n = b1 at h1 ⊢
  generalize fits09 m = b2 at h2 ⊢
  generalize hz : q.other.size = z
  have hz' : (q.other.size : Int) = z := by rw [hz]
  refine pbody Try.func11 rfl (N := 23) rfl rfl (by simp) (by simp [noIds]) fun σ => ?_
  have hdz : decide ((z : Int) ≤ 60) = decide (z ≤ 60) := by congr 1; exact propext (by omega)
  cases b1 <;> cases b2 <;> ((try (first | (with_reducible refine dops_go ?_; simp [-cellOK, nw2_cells, nw_fold, qy_cells, hz', hdz]) | (with_reducible refine OKv_go ?_; simp [-cellOK, nw2_cells, nw_fold, qy_cells, hz', hdz]) | (with_reducible refine OKr_go ?_; simp [-cellOK, nw2_cells, nw_fold, qy_cells, hz', hdz]))); repeat' (first | refine awp_seq ?_ | refine awp_block ?_ | (refine awp_skip ?_; try simp) | (refine awp_exit ?_; try simp) | (refine awp_ret ?_; try simp) | (refine retP_same (by simp) ?_; simp) | (refine retP_no (by simp) (by simp [noIds]) (by repeat (first | assumption | exact Ext.refl _ | refine ext_new' ?_ | refine Ext.setF ?_ (by first | assumption | (simp [new_nx', St.set, fresh_none]; done) | exact ext_fresh (by assumption)))) ?_; simp [-cellOK, nw2_cells, nw_fold, qy_cells, hz', hdz, new_m, set_m, new_nx']) | (refine awp_reg ?_; simp [-cellOK, nw2_cells, nw_fold, qy_cells, hz', hdz]) | (refine awp_drawT (fun _ => false) mixed (by decide +kernel) ?_; simp [-cellOK, nw2_cells, nw_fold, qy_cells, hz', hdz]) | (refine guarded_split ?_ ?_ <;> (intro hg; simp only [hg]; simp [-cellOK, nw2_cells, nw_fold, qy_cells, hz', hdz])) | (apply awp_cond_t; focus (simp [-cellOK, nw2_cells, nw_fold, qy_cells, hz', hdz]; done)) | (apply awp_cond_f; focus (simp [-cellOK, nw2_cells, nw_fold, qy_cells, hz', hdz]; done)) | (refine awp_cond ?_; simp [-cellOK, nw2_cells, nw_fold, qy_cells, hz', hdz]; refine ⟨?_, ?_⟩ <;> intro hc) | (refine awp_drawT isCallO mixed (by decide +kernel) ?_; simp [-cellOK, nw2_cells, nw_fold, qy_cells, hz', hdz]) | (refine PCalls.use (h1) ?_; simp [-cellOK, nw2_cells, nw_fold, qy_cells, hz', hdz]) | (refine Or.inl ⟨_, Or.inl (h1), ?_⟩; simp [-cellOK, nw2_cells, nw_fold, qy_cells, hz', hdz]) | (refine PCalls.use (h2) ?_; simp [-cellOK, nw2_cells, nw_fold, qy_cells, hz', hdz]) | (refine Or.inl ⟨_, Or.inl (h2), ?_⟩; simp [-cellOK, nw2_cells, nw_fold, qy_cells, hz', hdz]) | fail))
/-- The network of the live questions. -/
def netN : Nw := ⟨⟨[2, 3, 2], [⟨⟨0, 1⟩, ⟨1, 0⟩⟩, ⟨⟨1, 1⟩, ⟨2, 0⟩⟩]⟩, [⟨1, 0, 0, 0, ⟨0, 99⟩, 1⟩, ⟨2, 1, 0, 0, ⟨0, 49⟩, 1⟩, ⟨3, 1, 0, 0, ⟨50, 59⟩, 0⟩, ⟨4, 2, 0, 0, ⟨0, 29⟩, 1⟩, ⟨5, 2, 0, 3, ⟨20, 24⟩, 0⟩]⟩
def flN : Fl := ⟨false, false, false⟩
theorem netN_ok : NwOK netN where
  rg := by
    intro r hr
    simp only [netN, List.mem_cons, List.not_mem_nil, or_false] at hr
    rcases hr with rfl | rfl | rfl | rfl | rfl <;> exact ⟨by decide, by decide, by decide, by decide⟩
  ports := by decide
  links := by decide
  rules := by decide
  id := by
    intro r hr
    simp only [netN, List.mem_cons, List.not_mem_nil, or_false] at hr
    rcases hr with rfl | rfl | rfl | rfl | rfl <;> exact ⟨by decide, by decide⟩
theorem net_calls : PCalls Try.prog 36 [] (nwAV netN flN) := by
  refine pbody Try.func36 rfl (N := 26) rfl rfl (by simp) (by simp [noIds]) fun σ => ?_
  (try (first | (with_reducible refine dops_go ?_; simp [-cellOK, new_m, set_m, new_nx']) | (with_reducible refine OKv_go ?_; simp [-cellOK, new_m, set_m, new_nx']) | (with_reducible refine OKr_go ?_; simp [-cellOK, new_m, set_m, new_nx']))); repeat' (first | refine awp_seq ?_ | refine awp_block ?_ | (refine awp_skip ?_; try simp) | (refine awp_exit ?_; try simp) | (refine awp_ret ?_; try simp) | (refine awp_reg ?_; simp [-cellOK, new_m, set_m, new_nx']) | (refine awp_drawT (fun _ => false) mixed (by decide +kernel) ?_; simp [-cellOK, new_m, set_m, new_nx']) | (refine guarded_split ?_ ?_ <;> (intro hg; simp only [hg]; simp [-cellOK, new_m, set_m, new_nx'])) | (apply awp_cond_t; focus (simp [-cellOK, new_m, set_m, new_nx']; done)) | (apply awp_cond_f; focus (simp [-cellOK, new_m, set_m, new_nx']; done)) | (refine awp_cond ?_; simp [-cellOK, new_m, set_m, new_nx']; refine ⟨?_, ?_⟩ <;> intro hc) | (refine awp_drawT isCallO mixed (by decide +kernel) ?_; simp [-cellOK, new_m, set_m, new_nx']) | fail)
  refine retP_give (x := .agg [.rs ⟨3, σ.nx 3, 1⟩ 0 3, .rs ⟨10, σ.nx 10, 4⟩ 0 2, .rs ⟨22, σ.nx 22, 7⟩ 0 5]) (.inr rfl) (by repeat (first | assumption | exact Ext.refl _ | refine ext_new' ?_ | refine Ext.setF ?_ (by first | assumption | (simp [new_nx', St.set, fresh_none]; done) | exact ext_fresh (by assumption)))) ?_ ?_
  · simp [new_m, set_m, new_nx']
  · simp [giveUps, giveUp, fresh_none, new_m, set_m, new_nx', nwAV, intsAV, linksAV, rulesAV, netN, flN, iAV, lkAV, ruAV]
def aq1 : Qy := ⟨0, 0, 2, 0, ⟨5, 30⟩, ⟨#[]⟩⟩
def aq2 : Qy := ⟨4, 0, 2, 1, ⟨0, 4294967295⟩, ⟨#[]⟩⟩
def aq3 : Qy := ⟨1, 0, 0, 0, ⟨0, 59⟩, ⟨#[]⟩⟩
theorem run_a1 : runQ netN netN aq1 = (⟨false, 0, 20, ⟨[0, 1, 2], 2, ⟨0, 0⟩⟩⟩, 0) := by decide +kernel
theorem run_a2 : runQ netN netN aq2 = (⟨true, 0, 0, noTk⟩, 0) := by decide +kernel
theorem run_a3 : runQ netN netN aq3 = (⟨false, 0, 50, ⟨[0, 1, 0], 4, ⟨0, 0⟩⟩⟩, 0) := by decide +kernel
theorem alive12_calls : PCalls Try.prog 12 [] (.raw (.bool true)) := by
  have h1 := run_calls netN netN flN flN aq1 netN_ok netN_ok ⟨by decide, by decide, by decide, by decide⟩
  have h2 := run_calls netN netN flN flN aq2 netN_ok netN_ok ⟨by decide, by decide, by decide, by decide⟩
  have h3 := run_calls netN netN flN flN aq3 netN_ok netN_ok ⟨by decide, by decide, by decide, by decide⟩
  rw [run_a1] at h1
  rw [run_a2] at h2
  rw [run_a3] at h3
  have hn := net_calls
  have e1 : qyAV aq1 = .agg [.raw (.int .i64 0), .raw (.int .i64 0), .raw (.int .i64 2), .raw (.int .i64 0), .raw (.int .u32 5), .raw (.int .u32 30), .raw (.string ⟨#[]⟩)] := rfl
  have e2 : qyAV aq2 = .agg [.raw (.int .i64 4), .raw (.int .i64 0), .raw (.int .i64 2), .raw (.int .i64 1), .raw (.int .u32 0), .raw (.int .u32 4294967295), .raw (.string ⟨#[]⟩)] := rfl
  have e3 : qyAV aq3 = .agg [.raw (.int .i64 1), .raw (.int .i64 0), .raw (.int .i64 0), .raw (.int .i64 0), .raw (.int .u32 0), .raw (.int .u32 59), .raw (.string ⟨#[]⟩)] := rfl
  rw [e1] at h1
  rw [e2] at h2
  rw [e3] at h3
  generalize netN = N at hn h1 h2 h3
  have hnp : setPart (AV.agg [.sl 0 [] true, .sl 0 [] true, .sl 0 [] true]) 0 [intsAV N.t.ports flN.p, linksAV N.t.links flN.l, rulesAV N.rules flN.r] = nwAV N flN := rfl
  refine pbody Try.func12 rfl (N := 78) rfl rfl (by simp) (by simp [noIds]) fun σ => ?_
  (try (first | (with_reducible refine dops_go ?_; simp [-cellOK, nw_cells, nw_fold, hnp, vd0_fold, vd0_put, vd_cells, vd_fold, new_m, set_m, new_nx']) | (with_reducible refine OKv_go ?_; simp [-cellOK, nw_cells, nw_fold, hnp, vd0_fold, vd0_put, vd_cells, vd_fold, new_m, set_m, new_nx']) | (with_reducible refine OKr_go ?_; simp [-cellOK, nw_cells, nw_fold, hnp, vd0_fold, vd0_put, vd_cells, vd_fold, new_m, set_m, new_nx']))); repeat' (first | refine awp_seq ?_ | refine awp_block ?_ | (refine awp_skip ?_; try simp) | (refine awp_exit ?_; try simp) | (refine awp_ret ?_; try simp) | (refine retP_same (by simp) ?_; simp) | (refine retP_no (by simp) (by simp [noIds]) (by repeat (first | assumption | exact Ext.refl _ | refine ext_new' ?_ | refine Ext.setF ?_ (by first | assumption | (simp [new_nx', St.set, fresh_none]; done) | exact ext_fresh (by assumption)))) ?_; simp [-cellOK, nw_cells, nw_fold, hnp, vd0_fold, vd0_put, vd_cells, vd_fold, new_m, set_m, new_nx', new_m, set_m, new_nx']) | (refine awp_reg ?_; simp [-cellOK, nw_cells, nw_fold, hnp, vd0_fold, vd0_put, vd_cells, vd_fold, new_m, set_m, new_nx']) | (refine awp_drawT (fun _ => false) mixed (by decide +kernel) ?_; simp [-cellOK, nw_cells, nw_fold, hnp, vd0_fold, vd0_put, vd_cells, vd_fold, new_m, set_m, new_nx']) | (refine guarded_split ?_ ?_ <;> (intro hg; simp only [hg]; simp [-cellOK, nw_cells, nw_fold, hnp, vd0_fold, vd0_put, vd_cells, vd_fold, new_m, set_m, new_nx'])) | (apply awp_cond_t; focus (simp [-cellOK, nw_cells, nw_fold, hnp, vd0_fold, vd0_put, vd_cells, vd_fold, new_m, set_m, new_nx']; done)) | (apply awp_cond_f; focus (simp [-cellOK, nw_cells, nw_fold, hnp, vd0_fold, vd0_put, vd_cells, vd_fold, new_m, set_m, new_nx']; done)) | (refine awp_cond ?_; simp [-cellOK, nw_cells, nw_fold, hnp, vd0_fold, vd0_put, vd_cells, vd_fold, new_m, set_m, new_nx']; refine ⟨?_, ?_⟩ <;> intro hc) | (refine awp_drawT isCallO mixed (by decide +kernel) ?_; simp [-cellOK, nw_cells, nw_fold, hnp, vd0_fold, vd0_put, vd_cells, vd_fold, new_m, set_m, new_nx']) | (refine PCalls.use (hn) ?_; simp [-cellOK, nw_cells, nw_fold, hnp, vd0_fold, vd0_put, vd_cells, vd_fold, new_m, set_m, new_nx']) | (refine Or.inl ⟨_, Or.inl (hn), ?_⟩; simp [-cellOK, nw_cells, nw_fold, hnp, vd0_fold, vd0_put, vd_cells, vd_fold, new_m, set_m, new_nx']) | (refine PCalls.use (h1) ?_; simp [-cellOK, nw_cells, nw_fold, hnp, vd0_fold, vd0_put, vd_cells, vd_fold, new_m, set_m, new_nx']) | (refine Or.inl ⟨_, Or.inl (h1), ?_⟩; simp [-cellOK, nw_cells, nw_fold, hnp, vd0_fold, vd0_put, vd_cells, vd_fold, new_m, set_m, new_nx']) | (refine PCalls.use (h2) ?_; simp [-cellOK, nw_cells, nw_fold, hnp, vd0_fold, vd0_put, vd_cells, vd_fold, new_m, set_m, new_nx']) | (refine Or.inl ⟨_, Or.inl (h2), ?_⟩; simp [-cellOK, nw_cells, nw_fold, hnp, vd0_fold, vd0_put, vd_cells, vd_fold, new_m, set_m, new_nx']) | (refine PCalls.use (h3) ?_; simp [-cellOK, nw_cells, nw_fold, hnp, vd0_fold, vd0_put, vd_cells, vd_fold, new_m, set_m, new_nx']) | (refine Or.inl ⟨_, Or.inl (h3), ?_⟩; simp [-cellOK, nw_cells, nw_fold, hnp, vd0_fold, vd0_put, vd_cells, vd_fold, new_m, set_m, new_nx']) | fail)
end Go.Proofs.Ytanimmdlgmkmkaa.Av


/- Queries, the plain law: what the three laws without the document's answer say. -/
namespace Go.Proofs.Ytanimmdlgmkmkaa.Av
set_option linter.unusedSimpArgs false
set_option linter.unusedVariables false

theorem noDev_iff (n : Nw) (d : Int) : noDev n d = false ↔ 0 ≤ d ∧ d < n.t.ports.length := by
  unfold noDev
  simp only [Bool.or_eq_false_iff, decide_eq_false_iff_not]
  omega
structure RightQ (n : Nw) (q : Qy) : Prop where
  k0 : 0 ≤ q.kind
  k5 : q.kind ≤ 5
  le : q.r.lo ≤ q.r.hi
  a : 0 ≤ q.a ∧ q.a < n.t.ports.length
  b : 0 ≤ q.b ∧ q.b < n.t.ports.length
  w : 0 ≤ q.w ∧ q.w < n.t.ports.length
  one : singleB q = true ∨ (q.a = 0 ∧ q.b = 0)
  way : q.kind = 4 ∨ q.w = 0
  oth : q.kind = 5 ∨ noOther q = true
theorem rightQ_iff (n : Nw) (q : Qy) : rightQ n q = true ↔ RightQ n q := by
  unfold rightQ
  simp only [List.any_cons, List.any_nil, Bool.or_false, Bool.and_eq_true, Bool.not_eq_true', Bool.or_eq_false_iff, noDev_iff, decide_eq_false_iff_not, Bool.or_eq_true, decide_eq_true_eq]
  constructor
  · rintro ⟨⟨h1, h2, h3⟩, ⟨h4, h5, h6⟩, h7, h8, h9⟩
    exact ⟨by omega, by omega, by omega, h4, h5, h6, h7, h8, h9⟩
  · rintro ⟨h1, h2, h3, h4, h5, h6, h7, h8, h9⟩
    exact ⟨⟨by omega, by omega, by omega⟩, ⟨h4, h5, h6⟩, h7, h8, h9⟩
theorem source_ok {n : Nw} {q : Qy} (h : RightQ n q) {d : Int} (hd : d ∈ sourcesQ n q) : 0 ≤ d ∧ d < n.t.ports.length := by
  unfold sourcesQ at hd
  split at hd
  · simp only [List.mem_singleton] at hd; subst hd; exact h.a
  · simp only [List.mem_map, List.mem_range] at hd
    obtain ⟨i, hi, rfl⟩ := hd
    omega
theorem trace_ok {n : Nw} {d : Int} (h : 0 ≤ d ∧ d < n.t.ports.length) (a : Int) : traceR n d a = (traceF n d a, 0) := by
  unfold traceR
  rw [if_neg (by omega)]
theorem breaksQ_u {q : Qy} (h : q.kind ≠ 5) (t u u' : Tk) : breaksQ q t u = breaksQ q t u' := by
  unfold breaksQ
  repeat' split
  all_goals first | rfl | (exfalso; exact h (by assumption))
theorem breaksQ_5 {q : Qy} (h : q.kind = 5) (t u : Tk) : breaksQ q t u = !decide (t = u) := by
  unfold breaksQ
  rw [if_neg (by omega), if_neg (by omega), if_neg (by omega), if_neg (by omega), if_neg (by omega), if_pos h]
/-- What is known of a query that is answered. -/
structure RunOK (n m : Nw) (q : Qy) (v : Vd) (M : Nw) : Prop where
  right : RightQ n q
  top : q.kind = 5 → n.t = m.t
  other : M = if q.kind = 5 then m else n
  res : (v = ⟨true, 0, 0, noTk⟩ ∧ seeks n M q (cutP [n, M] q.r) (sourcesQ n q) = none) ∨ seeks n M q (cutP [n, M] q.r) (sourcesQ n q) = some v
theorem run_ok {n m : Nw} {q : Qy} (h : (runQ n m q).2 = 0) : RunOK n m q (runQ n m q).1 (if q.kind = 5 then m else n) := by
  unfold runQ at *
  split at h
  · cases h
  · rename_i hb
    rw [if_neg hb]
    have h1 : rightQ n q = true := by
      cases hq : rightQ n q with
      | true => rfl
      | false => exact absurd (.inl hq) hb
    refine ⟨(rightQ_iff n q).1 h1, fun k => Classical.byContradiction fun hne => hb (.inr ⟨k, hne⟩), rfl, ?_⟩
    cases hs : seeks n (if q.kind = 5 then m else n) q (cutP [n, if q.kind = 5 then m else n] q.r) (sourcesQ n q) with
    | none => exact .inl ⟨rfl, rfl⟩
    | some v => exact .inr rfl
theorem run_of {n m : Nw} {q : Qy} (h : RightQ n q) (ht : q.kind = 5 → n.t = m.t) : runQ n m q = match seeks n (if q.kind = 5 then m else n) q (cutP [n, if q.kind = 5 then m else n] q.r) (sourcesQ n q) with
    | some v => (v, 0)
    | none => (⟨true, 0, 0, noTk⟩, 0) := by
  have hb : ¬ (rightQ n q = false ∨ (q.kind = 5 ∧ n.t ≠ m.t)) := by
    rintro (h1 | ⟨h1, h2⟩)
    · rw [(rightQ_iff n q).2 h] at h1; cases h1
    · exact h2 (ht h1)
  unfold runQ
  rw [if_neg hb]
  rfl
theorem run_bad {n m : Nw} {q : Qy} (h : ¬ RightQ n q) : runQ n m q = (⟨false, 0, 0, noTk⟩, 121) := by
  unfold runQ
  rw [if_pos]
  left
  cases hq : rightQ n q with
  | false => rfl
  | true => exact absurd ((rightQ_iff n q).1 hq) h

/-! ### With itself -/
theorem right5 {n : Nw} (hn : rightN n = true) {r : Rg} (hr : r.lo ≤ r.hi) (o : ByteArray) : RightQ n ⟨5, 0, 0, 0, r, o⟩ := by
  have := right_ports hn
  exact ⟨by simp, by simp, hr, by simp only []; omega, by simp only []; omega, by simp only []; omega, .inr ⟨rfl, rfl⟩, .inr rfl, .inl rfl⟩
theorem self_run {n : Nw} (hn : rightN n = true) {r : Rg} (hr : r.lo ≤ r.hi) (o : ByteArray) : runQ n n ⟨5, 0, 0, 0, r, o⟩ = (⟨true, 0, 0, noTk⟩, 0) := by
  rw [run_of (right5 hn hr o) fun _ => rfl]
  have : seeks n (if (5 : Int) = 5 then n else n) ⟨5, 0, 0, 0, r, o⟩ (cutP [n, if (5 : Int) = 5 then n else n] r) (sourcesQ n ⟨5, 0, 0, 0, r, o⟩) = none := by
    rw [seeks_none]
    intro d _ p _
    rw [breaksQ_5 rfl]
    simp
  rw [this]
theorem seek_turn {n m : Nw} {q : Qy} (k : q.kind = 5) (d : Int) : ∀ P : List Rg, (seek n m q d P).map (fun v => (v.holds, v.src, v.addr)) = (seek m n q d P).map fun v => (v.holds, v.src, v.addr)
  | [] => rfl
  | r :: rs => by
    simp only [seek, breaksQ_5 k]
    by_cases h : (traceR n d r.lo).1 = (traceR m d r.lo).1
    · simp [h]; exact seek_turn k d rs
    · have h' : ¬ (traceR m d r.lo).1 = (traceR n d r.lo).1 := fun e => h e.symm
      simp [h, h']
theorem seeks_turn {n m : Nw} {q : Qy} (k : q.kind = 5) (P : List Rg) : ∀ S : List Int, (seeks n m q P S).map (fun v => (v.holds, v.src, v.addr)) = (seeks m n q P S).map fun v => (v.holds, v.src, v.addr)
  | [] => rfl
  | d :: ds => by
    have h := seek_turn (n := n) (m := m) k d P
    have ih := seeks_turn (n := n) (m := m) k P ds
    simp only [seeks]
    cases h1 : seek n m q d P <;> cases h2 : seek m n q d P <;> rw [h1, h2] at h <;> simp at h
    · exact ih
    · simpa using h
theorem cutP_turn {n m : Nw} (hn : rightN n = true) (hm : rightN m = true) {r : Rg} (hr : r.lo ≤ r.hi) : cutP [n, m] r = cutP [m, n] r := by
  rw [cutP_right (by simp [hn, hm]) (by simp) hr, cutP_right (by simp [hn, hm]) (by simp) hr]
  have : cutsL (rgsOf [n, m]) = cutsL (rgsOf [m, n]) := cutsL_perm (by
    simp only [rgsOf, List.flatMap_cons, List.flatMap_nil, List.append_nil]
    exact List.perm_append_comm)
  rw [this]
theorem turn_run {n m : Nw} (hn : rightN n = true) (hm : rightN m = true) {r : Rg} (hr : r.lo ≤ r.hi) (o : ByteArray) :
    (runQ n m ⟨5, 0, 0, 0, r, o⟩).2 = (runQ m n ⟨5, 0, 0, 0, r, o⟩).2 ∧ ((runQ n m ⟨5, 0, 0, 0, r, o⟩).2 = 0 → (runQ n m ⟨5, 0, 0, 0, r, o⟩).1.holds = (runQ m n ⟨5, 0, 0, 0, r, o⟩).1.holds ∧ (runQ n m ⟨5, 0, 0, 0, r, o⟩).1.src = (runQ m n ⟨5, 0, 0, 0, r, o⟩).1.src ∧ (runQ n m ⟨5, 0, 0, 0, r, o⟩).1.addr = (runQ m n ⟨5, 0, 0, 0, r, o⟩).1.addr) := by
  by_cases ht : n.t = m.t
  · rw [run_of (right5 hn hr o) fun _ => ht, run_of (right5 hm hr o) fun _ => ht.symm]
    have e : sourcesQ m ⟨5, 0, 0, 0, r, o⟩ = sourcesQ n ⟨5, 0, 0, 0, r, o⟩ := by unfold sourcesQ; rw [ht]
    have h := seeks_turn (n := n) (m := m) (q := ⟨5, 0, 0, 0, r, o⟩) rfl (cutP [n, m] r) (sourcesQ n ⟨5, 0, 0, 0, r, o⟩)
    rw [e]
    simp only [if_true]
    rw [← cutP_turn hn hm hr]
    cases h1 : seeks n m ⟨5, 0, 0, 0, r, o⟩ (cutP [n, m] r) (sourcesQ n ⟨5, 0, 0, 0, r, o⟩) <;> cases h2 : seeks m n ⟨5, 0, 0, 0, r, o⟩ (cutP [n, m] r) (sourcesQ n ⟨5, 0, 0, 0, r, o⟩) <;> rw [h1, h2] at h <;> simp at h
    · simp
    · simp [h]
  · have b1 : runQ n m ⟨5, 0, 0, 0, r, o⟩ = (⟨false, 0, 0, noTk⟩, 121) := by unfold runQ; rw [if_pos (.inr ⟨rfl, ht⟩)]
    have b2 : runQ m n ⟨5, 0, 0, 0, r, o⟩ = (⟨false, 0, 0, noTk⟩, 121) := by unfold runQ; rw [if_pos (.inr ⟨rfl, fun e => ht e.symm⟩)]
    rw [b1, b2]; simp
theorem step_three {n : Nw} {d a : Int} (h : (stepF n d a).1 = 3) : (stepF n d a).2.dev = d := by
  unfold stepF at *
  repeat' split at h
  all_goals first | (simp at h; done) | skip
  rename_i h1 h2 h3 h4
  simp [h1, h2, h3, h4]
theorem walk_out {n : Nw} {a : Int} : ∀ (f : Nat) (d : Int) (p : List Int), (walkT n a f d p).out = 3 → (walkT n a f d p).last.dev ∈ (walkT n a f d p).path
  | 0, d, p, h => by simp [walkT] at h
  | f + 1, d, p, h => by
    simp only [walkT] at h ⊢
    split
    · rename_i hd; rw [if_pos hd] at h; simp at h
    · rename_i hd
      rw [if_neg hd] at h
      split
      · rename_i hs; rw [if_pos hs] at h; exact walk_out f _ _ h
      · rename_i hs
        rw [if_neg hs] at h
        simp only [] at h ⊢
        rw [step_three h]; simp
theorem leaves_comes {n : Nw} {d a b : Int} (h : leavesB (traceF n d a) b = true) : comesB (traceF n d a) b = true := by
  unfold leavesB at h
  simp only [Bool.and_eq_true, decide_eq_true_eq] at h
  have := walk_out _ _ _ h.1
  unfold comesB
  rw [List.any_eq_true]
  exact ⟨b, by rw [← h.2]; exact this, by simp⟩
theorem two_run {n : Nw} (hn : rightN n = true) (a b : Int) {r : Rg} (hr : r.lo ≤ r.hi) (hok : RgOK r) {o : ByteArray} (ho : ∀ k a b, noOther ⟨k, a, b, 0, r, o⟩ = true) :
    (runQ n n ⟨3, a, b, 0, r, o⟩).2 = (runQ n n ⟨0, a, b, 0, r, o⟩).2 ∧ ((runQ n n ⟨3, a, b, 0, r, o⟩).2 = 0 → (runQ n n ⟨3, a, b, 0, r, o⟩).1.holds = false ∨ (runQ n n ⟨0, a, b, 0, r, o⟩).1.holds = false) := by
  by_cases h3 : RightQ n ⟨3, a, b, 0, r, o⟩
  · have h0 : RightQ n ⟨0, a, b, 0, r, o⟩ := ⟨by simp, by simp, hr, h3.a, h3.b, h3.w, .inl rfl, .inr rfl, .inr (ho _ _ _)⟩
    rw [run_of h3 fun _ => rfl, run_of h0 fun _ => rfl]
    have e3 : sourcesQ n ⟨3, a, b, 0, r, o⟩ = [a] := rfl
    have e0 : sourcesQ n ⟨0, a, b, 0, r, o⟩ = [a] := rfl
    rw [e3, e0]
    simp only [if_neg (show ¬ ((3 : Int) = 5) by omega), if_neg (show ¬ ((0 : Int) = 5) by omega)]
    obtain ⟨P, hP⟩ : ∃ P, cutP [n, n] r = P := ⟨_, rfl⟩
    have hne : ∃ p, p ∈ P := by
      rw [← hP, cutP_right (by simp [hn]) (by simp) hr]
      obtain ⟨p, hp, _⟩ := part_has (cutsL_cuts (rgsOf [n, n])) (r := r) (x := r.lo) hok.lo0 hok.lo1 ⟨Int.le_refl _, hr⟩
      exact ⟨p, hp⟩
    rw [hP]
    cases k3 : seeks n n ⟨3, a, b, 0, r, o⟩ P [a] with
    | some v =>
      obtain ⟨d, _, p, _, rfl, _⟩ := seeks_some k3
      cases seeks n n ⟨0, a, b, 0, r, o⟩ P [a] with
      | none => simp
      | some w => simp
    | none =>
      cases k0 : seeks n n ⟨0, a, b, 0, r, o⟩ P [a] with
      | some v =>
        obtain ⟨d, _, p, _, rfl, _⟩ := seeks_some k0
        simp
      | none =>
        exfalso
        obtain ⟨p, hp⟩ := hne
        have g3 := seeks_none.1 k3 a (by simp) p hp
        have g0 := seeks_none.1 k0 a (by simp) p hp
        rw [trace_ok h3.a] at g3 g0
        have g3' : comesB (traceF n a p.lo) b = false := g3
        have g0' : (!leavesB (traceF n a p.lo) b) = false := g0
        have := leaves_comes (n := n) (d := a) (a := p.lo) (b := b) (by simpa using g0')
        rw [this] at g3'; cases g3'
  · have h0 : ¬ RightQ n ⟨0, a, b, 0, r, o⟩ := fun h => h3 ⟨by simp, by simp, hr, h.a, h.b, h.w, .inl rfl, .inr rfl, .inr (ho _ _ _)⟩
    rw [run_bad h3, run_bad h0]; simp

/-! ### Parts, and packets -/
theorem walk_head {n : Nw} {a : Int} : ∀ (f : Nat) (d : Int) (p : List Int), ∃ l, (walkT n a (f + 1) d p).path = p ++ d :: l
  | f, d, p => by
    simp only [walkT]
    split
    · exact ⟨[], rfl⟩
    · split
      · cases f with
        | zero => exact ⟨[], by simp [walkT]⟩
        | succ f =>
          obtain ⟨l, hl⟩ := walk_head f (nextDev n (stepF n d a).2) (p ++ [d])
          exact ⟨_, by rw [hl, List.append_assoc]; rfl⟩
      · exact ⟨[], rfl⟩
theorem trace_head (n : Nw) (d a : Int) : ∃ l, (traceF n d a).path = d :: l := by
  have := walk_head (n := n) (a := a) (1 + 2 * n.t.links.length) d []
  unfold traceF
  rw [show 2 + 2 * n.t.links.length = 1 + 2 * n.t.links.length + 1 by omega]
  simpa using this
theorem genuine_own {n : Nw} {d : Int} (h : 0 ≤ d ∧ d < n.t.ports.length) (a : Int) : genuineB n a (traceF n d a) = true := by
  obtain ⟨l, hl⟩ := trace_head n d a
  unfold genuineB
  rw [hl]
  simp only [trace_ok h]
  simp
/-- A break anywhere shows at a part. -/
theorem break_part {n M : Nw} (hn : rightN n = true) (hM : rightN M = true) {r : Rg} (hr : r.lo ≤ r.hi) (hok : RgOK r) (q : Qy) {d x : Int} (hx : r.lo ≤ x ∧ x ≤ r.hi) (hb : breaksQ q (traceR n d x).1 (traceR M d x).1 = true) :
    ∃ p ∈ cutP [n, M] r, p.lo ≤ x ∧ breaksQ q (traceR n d p.lo).1 (traceR M d p.lo).1 = true := by
  rw [cutP_right (by simp [hn, hM]) (by simp) hr]
  obtain ⟨a1, a2, a3, a4⟩ := hok
  have hc := cutsL_cuts (rgsOf [n, M])
  obtain ⟨p, hp, h1, h2⟩ := part_has hc (r := r) (x := x) (by omega) (by omega) hx
  refine ⟨p, hp, h1, ?_⟩
  obtain ⟨a, ha, b1, b2, b3, b4, b5⟩ := part_mem hp
  have hs : SameSide (rgsOf [n, M]) p.lo x := atom_side hc.srt ha ⟨b1, by omega⟩ ⟨by omega, by omega⟩
  rw [trace_same (rgsOf_mem (by simp)) hs (by omega) (by omega), trace_same (n := M) (rgsOf_mem (by simp)) hs (by omega) (by omega)]
  exact hb
theorem part_in {l : List Nw} {r p : Rg} (h : p ∈ cutP l r) : r.lo ≤ p.lo ∧ p.lo ≤ p.hi ∧ p.hi ≤ r.hi := by
  unfold cutP at h
  split at h
  · simp at h
  · obtain ⟨a, _, b1, b2, b3, b4, b5⟩ := part_mem h
    omega
theorem part_sub {n m : Nw} (hn : rightN n = true) (hm : rightN m = true) {q : Qy} (hok : RgOK q.r) (h : (runQ n m q).2 = 0) (hh : (runQ n m q).1.holds = true) {r' : Rg} (hok' : RgOK r') (h1 : q.r.lo ≤ r'.lo) (h2 : r'.hi ≤ q.r.hi) :
    (r'.lo ≤ r'.hi → runQ n m { q with r := r' } = (⟨true, 0, 0, noTk⟩, 0)) ∧ (r'.hi < r'.lo → (runQ n m { q with r := r' }).2 = 121) := by
  obtain ⟨k1, k2, k3, k4⟩ := run_ok h
  refine ⟨fun hle => ?_, fun hlt => ?_⟩
  · have hM : rightN (if q.kind = 5 then m else n) = true := by split <;> assumption
    have hR : RightQ n { q with r := r' } := ⟨k1.k0, k1.k5, hle, k1.a, k1.b, k1.w, k1.one, k1.way, k1.oth⟩
    rw [run_of hR k2]
    have hS : sourcesQ n { q with r := r' } = sourcesQ n q := rfl
    rw [hS]
    have hnone : seeks n (if q.kind = 5 then m else n) q (cutP [n, if q.kind = 5 then m else n] q.r) (sourcesQ n q) = none := by
      rcases k4 with k4 | k4
      · exact k4.2
      · obtain ⟨d, _, p, _, e, _⟩ := seeks_some k4
        rw [e] at hh; cases hh
    have : seeks n (if q.kind = 5 then m else n) { q with r := r' } (cutP [n, if q.kind = 5 then m else n] r') (sourcesQ n q) = none := by
      rw [seeks_none]
      intro d hd p hp
      obtain ⟨p1, p2, p3⟩ := part_in hp
      have hb : breaksQ { q with r := r' } (traceR n d p.lo).1 (traceR (if q.kind = 5 then m else n) d p.lo).1 = breaksQ q (traceR n d p.lo).1 (traceR (if q.kind = 5 then m else n) d p.lo).1 := rfl
      rw [hb]
      cases hbb : breaksQ q (traceR n d p.lo).1 (traceR (if q.kind = 5 then m else n) d p.lo).1 with
      | false => rfl
      | true =>
        obtain ⟨p', hp', _, hb'⟩ := break_part hn hM k1.le hok q (by omega) hbb
        rw [seeks_none.1 hnone d hd p' hp'] at hb'; cases hb'
    simp only []
    rw [this]
  · have : ¬ RightQ n { q with r := r' } := fun h => by have := h.le; simp only [] at this; omega
    rw [run_bad this]
theorem cut_one {l : List Nw} {x : Int} (h0 : 0 ≤ x) (h1 : x < 4294967296) (hl : ∀ n ∈ l, rightN n = true) (hl2 : l.length ≤ 12) : ∀ p ∈ cutP l ⟨x, x⟩, p.lo = x := by
  intro p hp
  have := part_in hp
  simp only [] at this
  omega
theorem part_one {n m : Nw} (hn : rightN n = true) (hm : rightN m = true) {q : Qy} (hok : RgOK q.r) (h : (runQ n m q).2 = 0) (hh : (runQ n m q).1.holds = false) :
    runQ n m { q with r := ⟨(runQ n m q).1.addr, (runQ n m q).1.addr⟩ } = runQ n m q := by
  obtain ⟨k1, k2, k3, k4⟩ := run_ok h
  have he : runQ n m q = ((runQ n m q).1, 0) := by rw [← h]
  generalize (runQ n m q).1 = v at *
  rcases k4 with k4 | k4
  · rw [k4.1] at hh; cases hh
  · have hM : rightN (if q.kind = 5 then m else n) = true := by split <;> assumption
    obtain ⟨M, hMe⟩ : ∃ M, (if q.kind = 5 then m else n) = M := ⟨_, rfl⟩
    rw [hMe] at k3 k4 hM
    obtain ⟨d, hd, p, hp, e, hb⟩ := seeks_some k4
    obtain ⟨p1, p2, p3⟩ := part_in hp
    obtain ⟨a1, a2, a3, a4⟩ := hok
    have hva : v.addr = p.lo := by rw [e]
    have hvs : v.src = d := by rw [e]
    have hx0 : 0 ≤ v.addr := by omega
    have hx1 : v.addr < 4294967296 := by omega
    have hR : RightQ n { q with r := ⟨v.addr, v.addr⟩ } := ⟨k1.k0, k1.k5, Int.le_refl _, k1.a, k1.b, k1.w, k1.one, k1.way, k1.oth⟩
    rw [run_of hR k2, he]
    have hS : sourcesQ n { q with r := ⟨v.addr, v.addr⟩ } = sourcesQ n q := rfl
    simp only []
    rw [hMe, hS]
    have hone := cut_one (l := [n, M]) hx0 hx1 (by simp [hn, hM]) (by simp)
    have hne : ∃ p', p' ∈ cutP [n, M] ⟨v.addr, v.addr⟩ := by
      rw [cutP_right (by simp [hn, hM]) (by simp) (Int.le_refl _)]
      obtain ⟨p', hp', _⟩ := part_has (cutsL_cuts (rgsOf [n, M])) (r := ⟨v.addr, v.addr⟩) hx0 hx1 ⟨Int.le_refl _, Int.le_refl _⟩
      exact ⟨p', hp'⟩
    have key : seeks n M { q with r := ⟨v.addr, v.addr⟩ } (cutP [n, M] ⟨v.addr, v.addr⟩) (sourcesQ n q) = some v := by
      cases hs : seeks n M { q with r := ⟨v.addr, v.addr⟩ } (cutP [n, M] ⟨v.addr, v.addr⟩) (sourcesQ n q) with
      | none =>
        exfalso
        obtain ⟨p', hp'⟩ := hne
        have := seeks_none.1 hs d hd p' hp'
        rw [hone p' hp'] at this
        simp only [hva] at this
        have hb2 : breaksQ q (traceR n d p.lo).1 (traceR M d p.lo).1 = false := this
        rw [hb] at hb2; cases hb2
      | some w =>
        obtain ⟨d', hd', p', hp', e', hb'⟩ := seeks_some hs
        have hpl := hone p' hp'
        rw [hpl] at e' hb'
        have hP : cutP [n, M] q.r = cutC (cutsL (rgsOf [n, M])) q.r := cutP_right (by simp [hn, hM]) (by simp) k1.le
        have hsrt := parts_srt (cutsL_cuts (rgsOf [n, M])).srt q.r
        rw [← hP] at hsrt
        have f1 := seeks_first hsrt (fun p hp => (part_in hp).2.1) (sources_srt n q) k4 d' hd' p hp (by rw [← hva]; exact hb')
        have hP2 : cutP [n, M] ⟨v.addr, v.addr⟩ = cutC (cutsL (rgsOf [n, M])) ⟨v.addr, v.addr⟩ := cutP_right (by simp [hn, hM]) (by simp) (Int.le_refl _)
        have hsrt2 := parts_srt (cutsL_cuts (rgsOf [n, M])).srt ⟨v.addr, v.addr⟩
        rw [← hP2] at hsrt2
        have f2 := seeks_first hsrt2 (fun p hp => (part_in hp).2.1) (sources_srt n q) hs d hd p' hp' (by rw [hpl, hva]; exact hb)
        have hws : w.src = d' := by rw [e']
        have : d' = d := by omega
        subst this
        rw [e', hva]
        exact congrArg some e.symm
    rw [key]
structure Broken (n m : Nw) (q : Qy) (v : Vd) : Prop where
  lo : q.r.lo ≤ v.addr
  hi : v.addr ≤ q.r.hi
  dev : q.kind = 5 → (traceR m v.src v.addr).2 = 0
  gen : genuineB n v.addr v.tr = true
  head : ∃ l, v.tr.path = v.src :: l
  brk : breaksQ q v.tr (traceR m v.src v.addr).1 = true
theorem broken_run {n m : Nw} {q : Qy} (h : (runQ n m q).2 = 0) (hh : (runQ n m q).1.holds = false) : Broken n m q (runQ n m q).1 := by
  obtain ⟨k1, k2, k3, k4⟩ := run_ok h
  generalize (runQ n m q).1 = v at *
  rcases k4 with k4 | k4
  · rw [k4.1] at hh; cases hh
  · obtain ⟨d, hd, p, hp, e, hb⟩ := seeks_some k4
    obtain ⟨p1, p2, p3⟩ := part_in hp
    have hdo := source_ok k1 hd
    rw [trace_ok hdo] at e hb
    have h5 : q.kind = 5 → (traceR m d p.lo).2 = 0 := fun k => by
      rw [trace_ok]
      rw [← k2 k]; exact hdo
    subst e
    refine ⟨p1, by simp only []; omega, h5, genuine_own hdo _, trace_head n d p.lo, ?_⟩
    simp only [] at hb ⊢
    by_cases k : q.kind = 5
    · rw [if_pos k] at hb; exact hb
    · rw [breaksQ_u k _ _ (traceR (if q.kind = 5 then m else n) d p.lo).1]; exact hb
theorem holds_run {n m : Nw} {q : Qy} (h : (runQ n m q).2 = 0) (hh : (runQ n m q).1.holds = true) : (runQ n m q).1 = ⟨true, 0, 0, noTk⟩ := by
  obtain ⟨k1, k2, k3, k4⟩ := run_ok h
  rcases k4 with k4 | k4
  · exact k4.1
  · obtain ⟨d, hd, p, hp, e, hb⟩ := seeks_some k4
    rw [e] at hh; cases hh
theorem packet_run {n m : Nw} (hn : rightN n = true) (hm : rightN m = true) {q : Qy} (hok : RgOK q.r) (h : (runQ n m q).2 = 0) {d x : Int} (hd : d ∈ sourcesQ n q) (hx : q.r.lo ≤ x ∧ x ≤ q.r.hi) (hb : breaksQ q (traceR n d x).1 (traceR m d x).1 = true) :
    (runQ n m q).1.holds = false ∧ ((runQ n m q).1.src < d ∨ (runQ n m q).1.src = d ∧ (runQ n m q).1.addr ≤ x) := by
  obtain ⟨k1, k2, k3, k4⟩ := run_ok h
  generalize (runQ n m q).1 = v at *
  have hM : rightN (if q.kind = 5 then m else n) = true := by split <;> assumption
  have hb' : breaksQ q (traceR n d x).1 (traceR (if q.kind = 5 then m else n) d x).1 = true := by
    by_cases k : q.kind = 5
    · rw [if_pos k]; exact hb
    · rw [breaksQ_u k _ _ (traceR m d x).1]; exact hb
  generalize (if q.kind = 5 then m else n) = M at *
  obtain ⟨p, hp, hpx, hpb⟩ := break_part hn hM k1.le hok q hx hb'
  rcases k4 with k4 | k4
  · rw [seeks_none.1 k4.2 d hd p hp] at hpb; cases hpb
  · have hP : cutP [n, M] q.r = cutC (cutsL (rgsOf [n, M])) q.r := cutP_right (by simp [hn, hM]) (by simp) k1.le
    have hsrt := parts_srt (cutsL_cuts (rgsOf [n, M])).srt q.r
    rw [← hP] at hsrt
    have f1 := seeks_first hsrt (fun p hp => (part_in hp).2.1) (sources_srt n q) k4 d hd p hp hpb
    obtain ⟨d', _, p', _, e, _⟩ := seeks_some k4
    refine ⟨by rw [e], ?_⟩
    omega
end Go.Proofs.Ytanimmdlgmkmkaa.Av


/- fate.Genuine. -/
namespace Go.Proofs.Ytanimmdlgmkmkaa.Av
open Go
set_option linter.unusedSimpArgs false
set_option linter.unusedVariables false
set_option maxRecDepth 100000
set_option maxHeartbeats 4000000
set_option pp.maxSteps 600

theorem genuine_calls (N : Nw) (f : Fl) (a : Int) (t : Tk) (g : Bool) (hN : NwOK N) (ht : t.path.length < 2 ^ 60) : PCalls Try.prog 16 [nwAV N f, .raw (.int .u32 a), tkAV t g] (.raw (.bool (genuineB N a t))) := by
  unfold genuineB
  have hlk := hN.links
  cases hp : t.path with
  | nil =>
    have e : intsAV t.path g = .sl 1 [] g := by rw [hp]; rfl
    refine pbody Try.func16 rfl (N := 30) rfl rfl (by simp) (by simp [noIds]) fun σ => ?_
    (try (first | (with_reducible refine dops_go ?_; simp [-cellOK, nw_cells, nw_fold, tk_cells, tk_fold, e]) | (with_reducible refine OKv_go ?_; simp [-cellOK, nw_cells, nw_fold, tk_cells, tk_fold, e]) | (with_reducible refine OKr_go ?_; simp [-cellOK, nw_cells, nw_fold, tk_cells, tk_fold, e]))); repeat' (first | refine awp_seq ?_ | refine awp_block ?_ | (refine awp_skip ?_; try simp) | (refine awp_exit ?_; try simp) | (refine awp_ret ?_; try simp) | (refine retP_same (by simp) ?_; simp) | (refine retP_no (by simp) (by simp [noIds]) (by repeat (first | assumption | exact Ext.refl _ | refine ext_new' ?_ | refine Ext.setF ?_ (by first | assumption | (simp [new_nx', St.set, fresh_none]; done) | exact ext_fresh (by assumption)))) ?_; simp [-cellOK, nw_cells, nw_fold, tk_cells, tk_fold, e, new_m, set_m, new_nx']) | (refine awp_reg ?_; simp [-cellOK, nw_cells, nw_fold, tk_cells, tk_fold, e]) | (refine awp_drawT (fun _ => false) mixed (by decide +kernel) ?_; simp [-cellOK, nw_cells, nw_fold, tk_cells, tk_fold, e]) | (refine guarded_split ?_ ?_ <;> (intro hg; simp only [hg]; simp [-cellOK, nw_cells, nw_fold, tk_cells, tk_fold, e])) | (apply awp_cond_t; focus (simp [-cellOK, nw_cells, nw_fold, tk_cells, tk_fold, e]; done)) | (apply awp_cond_f; focus (simp [-cellOK, nw_cells, nw_fold, tk_cells, tk_fold, e]; done)) | (refine awp_cond ?_; simp [-cellOK, nw_cells, nw_fold, tk_cells, tk_fold, e]; refine ⟨?_, ?_⟩ <;> intro hc) | (refine awp_drawT isCallO mixed (by decide +kernel) ?_; simp [-cellOK, nw_cells, nw_fold, tk_cells, tk_fold, e]) | fail)
  | cons d p =>
    have e : intsAV t.path g = .sl 1 (.raw (.int .i64 d) :: p.map iAV) g := by rw [hp]; rfl
    have e0 : ¬ ((p.length : Int) + 1 = 0) := by omega
    have h1 := trace_calls N f d a hN
    have h2 := tkSame_calls t (traceR N d a).1 g false ht (by have := traceR_len N d a; omega)
    simp only []
    generalize (traceR N d a).2 = E at h1 ⊢
    generalize (traceR N d a).1 = T at h1 h2 ⊢
    have h3 := tk_fold t g
    rw [e] at h3
    obtain ⟨b, hb⟩ : ∃ b, decide (t = T) = b := ⟨_, rfl⟩
    rw [hb] at h2 ⊢
    refine pbody Try.func16 rfl (N := 30) rfl rfl (by simp) (by simp [noIds]) fun σ => ?_
    by_cases q : E = 0
    · (try (first | (with_reducible refine dops_go ?_; simp [-cellOK, nw_cells, nw_fold, tk_cells, tk_fold, h3, tk_put, tk_putO, tk_putL, q, e, e0]) | (with_reducible refine OKv_go ?_; simp [-cellOK, nw_cells, nw_fold, tk_cells, tk_fold, h3, tk_put, tk_putO, tk_putL, q, e, e0]) | (with_reducible refine OKr_go ?_; simp [-cellOK, nw_cells, nw_fold, tk_cells, tk_fold, h3, tk_put, tk_putO, tk_putL, q, e, e0]))); repeat' (first | refine awp_seq ?_ | refine awp_block ?_ | (refine awp_skip ?_; try simp) | (refine awp_exit ?_; try simp) | (refine awp_ret ?_; try simp) | (refine retP_same (by simp) ?_; simp) | (refine retP_no (by simp) (by simp [noIds]) (by repeat (first | assumption | exact Ext.refl _ | refine ext_new' ?_ | refine Ext.setF ?_ (by first | assumption | (simp [new_nx', St.set, fresh_none]; done) | exact ext_fresh (by assumption)))) ?_; simp [-cellOK, nw_cells, nw_fold, tk_cells, tk_fold, h3, tk_put, tk_putO, tk_putL, q, e, e0, new_m, set_m, new_nx']) | (refine awp_reg ?_; simp [-cellOK, nw_cells, nw_fold, tk_cells, tk_fold, h3, tk_put, tk_putO, tk_putL, q, e, e0]) | (refine awp_drawT (fun _ => false) mixed (by decide +kernel) ?_; simp [-cellOK, nw_cells, nw_fold, tk_cells, tk_fold, h3, tk_put, tk_putO, tk_putL, q, e, e0]) | (refine guarded_split ?_ ?_ <;> (intro hg; simp only [hg]; simp [-cellOK, nw_cells, nw_fold, tk_cells, tk_fold, h3, tk_put, tk_putO, tk_putL, q, e, e0])) | (apply awp_cond_t; focus (simp [-cellOK, nw_cells, nw_fold, tk_cells, tk_fold, h3, tk_put, tk_putO, tk_putL, q, e, e0]; done)) | (apply awp_cond_f; focus (simp [-cellOK, nw_cells, nw_fold, tk_cells, tk_fold, h3, tk_put, tk_putO, tk_putL, q, e, e0]; done)) | (refine awp_cond ?_; simp [-cellOK, nw_cells, nw_fold, tk_cells, tk_fold, h3, tk_put, tk_putO, tk_putL, q, e, e0]; refine ⟨?_, ?_⟩ <;> intro hc) | (refine awp_drawT isCallO mixed (by decide +kernel) ?_; simp [-cellOK, nw_cells, nw_fold, tk_cells, tk_fold, h3, tk_put, tk_putO, tk_putL, q, e, e0]) | (refine PCalls.use (h1) ?_; simp [-cellOK, nw_cells, nw_fold, tk_cells, tk_fold, h3, tk_put, tk_putO, tk_putL, q, e, e0]) | (refine Or.inl ⟨_, Or.inl (h1), ?_⟩; simp [-cellOK, nw_cells, nw_fold, tk_cells, tk_fold, h3, tk_put, tk_putO, tk_putL, q, e, e0]) | (refine PCalls.use (h2) ?_; simp [-cellOK, nw_cells, nw_fold, tk_cells, tk_fold, h3, tk_put, tk_putO, tk_putL, q, e, e0]) | (refine Or.inl ⟨_, Or.inl (h2), ?_⟩; simp [-cellOK, nw_cells, nw_fold, tk_cells, tk_fold, h3, tk_put, tk_putO, tk_putL, q, e, e0]) | fail)
    · (try (first | (with_reducible refine dops_go ?_; simp [-cellOK, nw_cells, nw_fold, tk_cells, tk_fold, h3, tk_put, tk_putO, tk_putL, q, e, e0]) | (with_reducible refine OKv_go ?_; simp [-cellOK, nw_cells, nw_fold, tk_cells, tk_fold, h3, tk_put, tk_putO, tk_putL, q, e, e0]) | (with_reducible refine OKr_go ?_; simp [-cellOK, nw_cells, nw_fold, tk_cells, tk_fold, h3, tk_put, tk_putO, tk_putL, q, e, e0]))); repeat' (first | refine awp_seq ?_ | refine awp_block ?_ | (refine awp_skip ?_; try simp) | (refine awp_exit ?_; try simp) | (refine awp_ret ?_; try simp) | (refine retP_same (by simp) ?_; simp) | (refine retP_no (by simp) (by simp [noIds]) (by repeat (first | assumption | exact Ext.refl _ | refine ext_new' ?_ | refine Ext.setF ?_ (by first | assumption | (simp [new_nx', St.set, fresh_none]; done) | exact ext_fresh (by assumption)))) ?_; simp [-cellOK, nw_cells, nw_fold, tk_cells, tk_fold, h3, tk_put, tk_putO, tk_putL, q, e, e0, new_m, set_m, new_nx']) | (refine awp_reg ?_; simp [-cellOK, nw_cells, nw_fold, tk_cells, tk_fold, h3, tk_put, tk_putO, tk_putL, q, e, e0]) | (refine awp_drawT (fun _ => false) mixed (by decide +kernel) ?_; simp [-cellOK, nw_cells, nw_fold, tk_cells, tk_fold, h3, tk_put, tk_putO, tk_putL, q, e, e0]) | (refine guarded_split ?_ ?_ <;> (intro hg; simp only [hg]; simp [-cellOK, nw_cells, nw_fold, tk_cells, tk_fold, h3, tk_put, tk_putO, tk_putL, q, e, e0])) | (apply awp_cond_t; focus (simp [-cellOK, nw_cells, nw_fold, tk_cells, tk_fold, h3, tk_put, tk_putO, tk_putL, q, e, e0]; done)) | (apply awp_cond_f; focus (simp [-cellOK, nw_cells, nw_fold, tk_cells, tk_fold, h3, tk_put, tk_putO, tk_putL, q, e, e0]; done)) | (refine awp_cond ?_; simp [-cellOK, nw_cells, nw_fold, tk_cells, tk_fold, h3, tk_put, tk_putO, tk_putL, q, e, e0]; refine ⟨?_, ?_⟩ <;> intro hc) | (refine awp_drawT isCallO mixed (by decide +kernel) ?_; simp [-cellOK, nw_cells, nw_fold, tk_cells, tk_fold, h3, tk_put, tk_putO, tk_putL, q, e, e0]) | (refine PCalls.use (h1) ?_; simp [-cellOK, nw_cells, nw_fold, tk_cells, tk_fold, h3, tk_put, tk_putO, tk_putL, q, e, e0]) | (refine Or.inl ⟨_, Or.inl (h1), ?_⟩; simp [-cellOK, nw_cells, nw_fold, tk_cells, tk_fold, h3, tk_put, tk_putO, tk_putL, q, e, e0]) | (refine PCalls.use (h2) ?_; simp [-cellOK, nw_cells, nw_fold, tk_cells, tk_fold, h3, tk_put, tk_putO, tk_putL, q, e, e0]) | (refine Or.inl ⟨_, Or.inl (h2), ?_⟩; simp [-cellOK, nw_cells, nw_fold, tk_cells, tk_fold, h3, tk_put, tk_putO, tk_putL, q, e, e0]) | fail)
/-! ### Queries -/
end Go.Proofs.Ytanimmdlgmkmkaa.Av


/- Queries: the law QueryBroken walked. -/
namespace Go.Proofs.Ytanimmdlgmkmkaa.Av
open Go
set_option linter.unusedSimpArgs false
set_option linter.unusedVariables false
set_option maxRecDepth 100000
set_option maxHeartbeats 4000000
set_option pp.maxSteps 600

theorem fits12_rightB {n m : Nw} {q : Qy} (h : fits12 n m q = true) : rightN n = true ∧ rightN m = true := by
  unfold fits12 fits09 at h
  simp only [Bool.and_eq_true] at h
  exact ⟨h.1.2.2.2, h.2.1.2.2.2⟩
theorem run_lenB (n m : Nw) (q : Qy) : (runQ n m q).1.tr.path.length ≤ 2 + 2 * n.t.links.length := by
  unfold runQ
  split
  · simp [noTk]
  · split
    · rename_i v h
      obtain ⟨d, _, p, _, rfl, _⟩ := seeks_some h
      exact traceR_len n d p.lo
    · simp [noTk]
theorem broken_calls' (n m : Nw) (f g : Fl) (q : Qy) (d x : Int) (hn : NwOK n) (hm : NwOK m) (hq : RgOK q.r) (hx : 0 ≤ x ∧ x < 4294967296) :
    PCalls Try.prog 5 [nw2AV n m f g, qyAV q, .agg [.raw (.int .i64 d), .raw (.int .u32 x)]] (.raw (.bool true)) := by
  have hal := alive12_calls
  have hfit := fits12_calls n m f g q hn.w hm.w
  have h1 := run_calls n m f g q hn hm hq
  have hvl := run_lenB n m q
  have hlk := hn.links
  have hlm := hm.links
  refine pbody Try.func5 rfl (N := 221) rfl rfl (by simp) (by simp [noIds]) fun σ => ?_
  cases hf : fits12 n m q with
  | false =>
    rw [hf] at hfit
    generalize (runQ n m q).2 = e at h1
    generalize (runQ n m q).1 = v at h1
    (try (first | (with_reducible refine dops_go ?_; simp [-cellOK, nw2_cells, nw2_fold, nw_fold, qy_cells, qy_fold, vd_cells, vd_fold, vd0_fold, vd0_put, new_m, set_m, new_nx']) | (with_reducible refine OKv_go ?_; simp [-cellOK, nw2_cells, nw2_fold, nw_fold, qy_cells, qy_fold, vd_cells, vd_fold, vd0_fold, vd0_put, new_m, set_m, new_nx']) | (with_reducible refine OKr_go ?_; simp [-cellOK, nw2_cells, nw2_fold, nw_fold, qy_cells, qy_fold, vd_cells, vd_fold, vd0_fold, vd0_put, new_m, set_m, new_nx']))); repeat' (first | refine awp_seq ?_ | refine awp_block ?_ | (refine awp_skip ?_; try simp) | (refine awp_exit ?_; try simp) | (refine awp_ret ?_; try simp) | (refine retP_same (by simp) ?_; simp) | (refine retP_no (by simp) (by simp [noIds]) (by repeat (first | assumption | exact Ext.refl _ | refine ext_new' ?_ | refine Ext.setF ?_ (by first | assumption | (simp [new_nx', St.set, fresh_none]; done) | exact ext_fresh (by assumption)))) ?_; simp [-cellOK, nw2_cells, nw2_fold, nw_fold, qy_cells, qy_fold, vd_cells, vd_fold, vd0_fold, vd0_put, new_m, set_m, new_nx', new_m, set_m, new_nx']) | (refine awp_reg ?_; simp [-cellOK, nw2_cells, nw2_fold, nw_fold, qy_cells, qy_fold, vd_cells, vd_fold, vd0_fold, vd0_put, new_m, set_m, new_nx']) | (refine awp_drawT (fun _ => false) mixed (by decide +kernel) ?_; simp [-cellOK, nw2_cells, nw2_fold, nw_fold, qy_cells, qy_fold, vd_cells, vd_fold, vd0_fold, vd0_put, new_m, set_m, new_nx']) | (refine guarded_split ?_ ?_ <;> (intro hg; simp only [hg]; simp [-cellOK, nw2_cells, nw2_fold, nw_fold, qy_cells, qy_fold, vd_cells, vd_fold, vd0_fold, vd0_put, new_m, set_m, new_nx'])) | (apply awp_cond_t; focus (simp [-cellOK, nw2_cells, nw2_fold, nw_fold, qy_cells, qy_fold, vd_cells, vd_fold, vd0_fold, vd0_put, new_m, set_m, new_nx']; done)) | (apply awp_cond_f; focus (simp [-cellOK, nw2_cells, nw2_fold, nw_fold, qy_cells, qy_fold, vd_cells, vd_fold, vd0_fold, vd0_put, new_m, set_m, new_nx']; done)) | (refine awp_cond ?_; simp [-cellOK, nw2_cells, nw2_fold, nw_fold, qy_cells, qy_fold, vd_cells, vd_fold, vd0_fold, vd0_put, new_m, set_m, new_nx']; refine ⟨?_, ?_⟩ <;> intro hc) | (refine awp_drawT isCallO mixed (by decide +kernel) ?_; simp [-cellOK, nw2_cells, nw2_fold, nw_fold, qy_cells, qy_fold, vd_cells, vd_fold, vd0_fold, vd0_put, new_m, set_m, new_nx']) | (refine PCalls.use (hfit) ?_; simp [-cellOK, nw2_cells, nw2_fold, nw_fold, qy_cells, qy_fold, vd_cells, vd_fold, vd0_fold, vd0_put, new_m, set_m, new_nx']) | (refine Or.inl ⟨_, Or.inl (hfit), ?_⟩; simp [-cellOK, nw2_cells, nw2_fold, nw_fold, qy_cells, qy_fold, vd_cells, vd_fold, vd0_fold, vd0_put, new_m, set_m, new_nx']) | (refine PCalls.use (h1) ?_; simp [-cellOK, nw2_cells, nw2_fold, nw_fold, qy_cells, qy_fold, vd_cells, vd_fold, vd0_fold, vd0_put, new_m, set_m, new_nx']) | (refine Or.inl ⟨_, Or.inl (h1), ?_⟩; simp [-cellOK, nw2_cells, nw2_fold, nw_fold, qy_cells, qy_fold, vd_cells, vd_fold, vd0_fold, vd0_put, new_m, set_m, new_nx']) | (refine PCalls.use (hal) ?_; simp [-cellOK, nw2_cells, nw2_fold, nw_fold, qy_cells, qy_fold, vd_cells, vd_fold, vd0_fold, vd0_put, new_m, set_m, new_nx']) | (refine Or.inl ⟨_, Or.inl (hal), ?_⟩; simp [-cellOK, nw2_cells, nw2_fold, nw_fold, qy_cells, qy_fold, vd_cells, vd_fold, vd0_fold, vd0_put, new_m, set_m, new_nx']) | fail)
  | true =>
  rw [hf] at hfit
  obtain ⟨rn, rm⟩ := fits12_rightB hf
  by_cases he : (runQ n m q).2 = 0
  · rw [he] at h1
    have hpk := fun hd hx hb => packet_run rn rm hq he (d := d) (x := x) hd hx hb
    have t1 := trace_calls n f d x hn
    have t2 := trace_calls m g d x hm
    have l1 := traceR_len n d x
    have l2 := traceR_len m d x
    have hbk := breaks_calls n m f g q (traceR n d x).1 (traceR m d x).1 false false (by omega) (by omega)
    have hso := sources_calls n f q hn.ports
    have hSl : (sourcesQ n q).length < 2 ^ 45 := by
      have := hn.ports
      unfold sourcesQ
      split
      · simp
      · simp; omega
    obtain ⟨gt, hgt⟩ : ∃ e, (traceR n d x).2 = e := ⟨_, rfl⟩
    obtain ⟨gu, hgu⟩ : ∃ e, (traceR m d x).2 = e := ⟨_, rfl⟩
    rw [hgt] at t1
    rw [hgu] at t2
    generalize (traceR n d x).1 = T at *
    generalize (traceR m d x).1 = U at *
    generalize sourcesQ n q = Sq at *
    have hgtt : gt = 0 ∨ gt ≠ 0 := by omega
    obtain ⟨v, hv⟩ : ∃ v, (runQ n m q).1 = v := ⟨_, rfl⟩
    have hbr := fun hh => broken_run (n := n) (m := m) (q := q) he hh
    have hho := fun hh => holds_run (n := n) (m := m) (q := q) he hh
    rw [hv] at h1 hpk hvl hbr hho
    clear hv he
    cases hh : v.holds
    rotate_left
    focus
      have hv := hho hh
      have vs : v.src = 0 := by rw [hv]
      have va : v.addr = 0 := by rw [hv]
      have e1 : vdAV ⟨true, 0, 0, noTk⟩ false = .agg [.raw (.bool true), .raw (.int .i64 0), .raw (.int .u32 0), .sl 1 [] false, .raw (.int .i64 0), .raw (.int .i64 0), .raw (.int .i64 0)] := rfl
      have h1' := h1
      rw [hv, e1] at h1'
      (try (first | (with_reducible refine dops_go ?_; simp [-cellOK, nw2_cells, nw2_fold, nw_fold, qy_cells, qy_fold, tk_cells, tk_fold, tk_putL, vd_cells, vd_fold, vd0_fold, vd0_put, vd0_cells, new_m, set_m, new_nx']) | (with_reducible refine OKv_go ?_; simp [-cellOK, nw2_cells, nw2_fold, nw_fold, qy_cells, qy_fold, tk_cells, tk_fold, tk_putL, vd_cells, vd_fold, vd0_fold, vd0_put, vd0_cells, new_m, set_m, new_nx']) | (with_reducible refine OKr_go ?_; simp [-cellOK, nw2_cells, nw2_fold, nw_fold, qy_cells, qy_fold, tk_cells, tk_fold, tk_putL, vd_cells, vd_fold, vd0_fold, vd0_put, vd0_cells, new_m, set_m, new_nx']))); repeat' (first | refine awp_seq ?_ | refine awp_block ?_ | (refine awp_skip ?_; try simp) | (refine awp_exit ?_; try simp) | (refine awp_ret ?_; try simp) | (refine retP_same (by simp) ?_; simp) | (refine retP_no (by simp) (by simp [noIds]) (by repeat (first | assumption | exact Ext.refl _ | refine ext_new' ?_ | refine Ext.setF ?_ (by first | assumption | (simp [new_nx', St.set, fresh_none]; done) | exact ext_fresh (by assumption)))) ?_; simp [-cellOK, nw2_cells, nw2_fold, nw_fold, qy_cells, qy_fold, tk_cells, tk_fold, tk_putL, vd_cells, vd_fold, vd0_fold, vd0_put, vd0_cells, new_m, set_m, new_nx', new_m, set_m, new_nx']) | (refine awp_reg ?_; simp [-cellOK, nw2_cells, nw2_fold, nw_fold, qy_cells, qy_fold, tk_cells, tk_fold, tk_putL, vd_cells, vd_fold, vd0_fold, vd0_put, vd0_cells, new_m, set_m, new_nx']) | (refine awp_drawT (fun _ => false) mixed (by decide +kernel) ?_; simp [-cellOK, nw2_cells, nw2_fold, nw_fold, qy_cells, qy_fold, tk_cells, tk_fold, tk_putL, vd_cells, vd_fold, vd0_fold, vd0_put, vd0_cells, new_m, set_m, new_nx']) | (refine guarded_split ?_ ?_ <;> (intro hg; simp only [hg]; simp [-cellOK, nw2_cells, nw2_fold, nw_fold, qy_cells, qy_fold, tk_cells, tk_fold, tk_putL, vd_cells, vd_fold, vd0_fold, vd0_put, vd0_cells, new_m, set_m, new_nx'])) | (apply awp_cond_t; focus (simp [-cellOK, nw2_cells, nw2_fold, nw_fold, qy_cells, qy_fold, tk_cells, tk_fold, tk_putL, vd_cells, vd_fold, vd0_fold, vd0_put, vd0_cells, new_m, set_m, new_nx']; done)) | (apply awp_cond_f; focus (simp [-cellOK, nw2_cells, nw2_fold, nw_fold, qy_cells, qy_fold, tk_cells, tk_fold, tk_putL, vd_cells, vd_fold, vd0_fold, vd0_put, vd0_cells, new_m, set_m, new_nx']; done)) | (refine awp_cond ?_; simp [-cellOK, nw2_cells, nw2_fold, nw_fold, qy_cells, qy_fold, tk_cells, tk_fold, tk_putL, vd_cells, vd_fold, vd0_fold, vd0_put, vd0_cells, new_m, set_m, new_nx']; refine ⟨?_, ?_⟩ <;> intro hc) | (refine awp_drawT isCallO mixed (by decide +kernel) ?_; simp [-cellOK, nw2_cells, nw2_fold, nw_fold, qy_cells, qy_fold, tk_cells, tk_fold, tk_putL, vd_cells, vd_fold, vd0_fold, vd0_put, vd0_cells, new_m, set_m, new_nx']) | (refine PCalls.use (hfit) ?_; simp [-cellOK, nw2_cells, nw2_fold, nw_fold, qy_cells, qy_fold, tk_cells, tk_fold, tk_putL, vd_cells, vd_fold, vd0_fold, vd0_put, vd0_cells, new_m, set_m, new_nx']) | (refine Or.inl ⟨_, Or.inl (hfit), ?_⟩; simp [-cellOK, nw2_cells, nw2_fold, nw_fold, qy_cells, qy_fold, tk_cells, tk_fold, tk_putL, vd_cells, vd_fold, vd0_fold, vd0_put, vd0_cells, new_m, set_m, new_nx']) | (refine PCalls.use (h1') ?_; simp [-cellOK, nw2_cells, nw2_fold, nw_fold, qy_cells, qy_fold, tk_cells, tk_fold, tk_putL, vd_cells, vd_fold, vd0_fold, vd0_put, vd0_cells, new_m, set_m, new_nx']) | (refine Or.inl ⟨_, Or.inl (h1'), ?_⟩; simp [-cellOK, nw2_cells, nw2_fold, nw_fold, qy_cells, qy_fold, tk_cells, tk_fold, tk_putL, vd_cells, vd_fold, vd0_fold, vd0_put, vd0_cells, new_m, set_m, new_nx']) | (refine PCalls.use (t1) ?_; simp [-cellOK, nw2_cells, nw2_fold, nw_fold, qy_cells, qy_fold, tk_cells, tk_fold, tk_putL, vd_cells, vd_fold, vd0_fold, vd0_put, vd0_cells, new_m, set_m, new_nx']) | (refine Or.inl ⟨_, Or.inl (t1), ?_⟩; simp [-cellOK, nw2_cells, nw2_fold, nw_fold, qy_cells, qy_fold, tk_cells, tk_fold, tk_putL, vd_cells, vd_fold, vd0_fold, vd0_put, vd0_cells, new_m, set_m, new_nx']) | (refine PCalls.use (t2) ?_; simp [-cellOK, nw2_cells, nw2_fold, nw_fold, qy_cells, qy_fold, tk_cells, tk_fold, tk_putL, vd_cells, vd_fold, vd0_fold, vd0_put, vd0_cells, new_m, set_m, new_nx']) | (refine Or.inl ⟨_, Or.inl (t2), ?_⟩; simp [-cellOK, nw2_cells, nw2_fold, nw_fold, qy_cells, qy_fold, tk_cells, tk_fold, tk_putL, vd_cells, vd_fold, vd0_fold, vd0_put, vd0_cells, new_m, set_m, new_nx']) | (refine PCalls.use (hso) ?_; simp [-cellOK, nw2_cells, nw2_fold, nw_fold, qy_cells, qy_fold, tk_cells, tk_fold, tk_putL, vd_cells, vd_fold, vd0_fold, vd0_put, vd0_cells, new_m, set_m, new_nx']) | (refine Or.inl ⟨_, Or.inl (hso), ?_⟩; simp [-cellOK, nw2_cells, nw2_fold, nw_fold, qy_cells, qy_fold, tk_cells, tk_fold, tk_putL, vd_cells, vd_fold, vd0_fold, vd0_put, vd0_cells, new_m, set_m, new_nx']) | (refine PCalls.use (hal) ?_; simp [-cellOK, nw2_cells, nw2_fold, nw_fold, qy_cells, qy_fold, tk_cells, tk_fold, tk_putL, vd_cells, vd_fold, vd0_fold, vd0_put, vd0_cells, new_m, set_m, new_nx']) | (refine Or.inl ⟨_, Or.inl (hal), ?_⟩; simp [-cellOK, nw2_cells, nw2_fold, nw_fold, qy_cells, qy_fold, tk_cells, tk_fold, tk_putL, vd_cells, vd_fold, vd0_fold, vd0_put, vd0_cells, new_m, set_m, new_nx']) | fail)
    rotate_left
    focus
      obtain ⟨b1, b2, b3, b4, ⟨l, b5⟩, b6⟩ := hbr hh
      obtain ⟨c1, c2, c3, c4⟩ := hq
      have t3 := trace_calls m g v.src v.addr hm
      have l3 := traceR_len m v.src v.addr
      have hg := genuine_calls n f v.addr v.tr false hn (by omega)
      rw [b4] at hg
      have hb2 := breaks_calls n m f g q v.tr (traceR m v.src v.addr).1 false false (by omega) (by omega)
      rw [b6] at hb2
      have hkk : q.kind = 5 ∨ q.kind ≠ 5 := by omega
      have n1 : ¬ v.addr < q.r.lo := by omega
      have n2 : ¬ q.r.hi < v.addr := by omega
      generalize (traceR m v.src v.addr).1 = W at *
      generalize (traceR m v.src v.addr).2 = ew at *
      have e5 : intsAV v.tr.path false = .sl 1 (.raw (.int .i64 v.src) :: l.map iAV) false := by rw [b5]; rfl
      have vs : True := trivial
      have va : True := trivial
      have htk5 : AV.agg [.sl 1 (.raw (.int .i64 v.src) :: l.map iAV) false, .raw (.int .i64 v.tr.out), .raw (.int .i64 v.tr.last.dev), .raw (.int .i64 v.tr.last.port)] = tkAV v.tr false := by rw [← e5]; rfl
      have hvd5 : vdAV v false = .agg [.raw (.bool false), .raw (.int .i64 v.src), .raw (.int .u32 v.addr), .sl 1 (.raw (.int .i64 v.src) :: l.map iAV) false, .raw (.int .i64 v.tr.out), .raw (.int .i64 v.tr.last.dev), .raw (.int .i64 v.tr.last.port)] := by rw [← e5, ← hh]; rfl
      have h1' := h1
      rw [hvd5] at h1'
      have hk5 : (q.kind = 5) = False ∨ ((q.kind = 5) = True ∧ ew = 0) := by
        by_cases k : q.kind = 5
        · exact .inr ⟨eq_true k, b3 k⟩
        · exact .inl (eq_false k)
      rcases hk5 with k5 | ⟨k5, k6⟩
      rotate_left
      focus
        (try (first | (with_reducible refine dops_go ?_; simp [-cellOK, nw2_cells, nw2_fold, nw_fold, qy_cells, qy_fold, tk_cells, tk_fold, tk_putL, vd_cells, vd_fold, vd0_fold, vd0_put, vd0_cells, new_m, set_m, new_nx', htk5, k5, k6, n1, n2]) | (with_reducible refine OKv_go ?_; simp [-cellOK, nw2_cells, nw2_fold, nw_fold, qy_cells, qy_fold, tk_cells, tk_fold, tk_putL, vd_cells, vd_fold, vd0_fold, vd0_put, vd0_cells, new_m, set_m, new_nx', htk5, k5, k6, n1, n2]) | (with_reducible refine OKr_go ?_; simp [-cellOK, nw2_cells, nw2_fold, nw_fold, qy_cells, qy_fold, tk_cells, tk_fold, tk_putL, vd_cells, vd_fold, vd0_fold, vd0_put, vd0_cells, new_m, set_m, new_nx', htk5, k5, k6, n1, n2]))); repeat' (first | refine awp_seq ?_ | refine awp_block ?_ | (refine awp_skip ?_; try simp) | (refine awp_exit ?_; try simp) | (refine awp_ret ?_; try simp) | (refine retP_same (by simp) ?_; simp) | (refine retP_no (by simp) (by simp [noIds]) (by repeat (first | assumption | exact Ext.refl _ | refine ext_new' ?_ | refine Ext.setF ?_ (by first | assumption | (simp [new_nx', St.set, fresh_none]; done) | exact ext_fresh (by assumption)))) ?_; simp [-cellOK, nw2_cells, nw2_fold, nw_fold, qy_cells, qy_fold, tk_cells, tk_fold, tk_putL, vd_cells, vd_fold, vd0_fold, vd0_put, vd0_cells, new_m, set_m, new_nx', htk5, k5, k6, n1, n2, new_m, set_m, new_nx']) | (refine awp_reg ?_; simp [-cellOK, nw2_cells, nw2_fold, nw_fold, qy_cells, qy_fold, tk_cells, tk_fold, tk_putL, vd_cells, vd_fold, vd0_fold, vd0_put, vd0_cells, new_m, set_m, new_nx', htk5, k5, k6, n1, n2]) | (refine awp_drawT (fun _ => false) mixed (by decide +kernel) ?_; simp [-cellOK, nw2_cells, nw2_fold, nw_fold, qy_cells, qy_fold, tk_cells, tk_fold, tk_putL, vd_cells, vd_fold, vd0_fold, vd0_put, vd0_cells, new_m, set_m, new_nx', htk5, k5, k6, n1, n2]) | (refine guarded_split ?_ ?_ <;> (intro hg; simp only [hg]; simp [-cellOK, nw2_cells, nw2_fold, nw_fold, qy_cells, qy_fold, tk_cells, tk_fold, tk_putL, vd_cells, vd_fold, vd0_fold, vd0_put, vd0_cells, new_m, set_m, new_nx', htk5, k5, k6, n1, n2])) | (apply awp_cond_t; focus (simp [-cellOK, nw2_cells, nw2_fold, nw_fold, qy_cells, qy_fold, tk_cells, tk_fold, tk_putL, vd_cells, vd_fold, vd0_fold, vd0_put, vd0_cells, new_m, set_m, new_nx', htk5, k5, k6, n1, n2]; done)) | (apply awp_cond_f; focus (simp [-cellOK, nw2_cells, nw2_fold, nw_fold, qy_cells, qy_fold, tk_cells, tk_fold, tk_putL, vd_cells, vd_fold, vd0_fold, vd0_put, vd0_cells, new_m, set_m, new_nx', htk5, k5, k6, n1, n2]; done)) | (refine awp_cond ?_; simp [-cellOK, nw2_cells, nw2_fold, nw_fold, qy_cells, qy_fold, tk_cells, tk_fold, tk_putL, vd_cells, vd_fold, vd0_fold, vd0_put, vd0_cells, new_m, set_m, new_nx', htk5, k5, k6, n1, n2]; refine ⟨?_, ?_⟩ <;> intro hc) | (refine awp_drawT isCallO mixed (by decide +kernel) ?_; simp [-cellOK, nw2_cells, nw2_fold, nw_fold, qy_cells, qy_fold, tk_cells, tk_fold, tk_putL, vd_cells, vd_fold, vd0_fold, vd0_put, vd0_cells, new_m, set_m, new_nx', htk5, k5, k6, n1, n2]) | (refine PCalls.use (hfit) ?_; simp [-cellOK, nw2_cells, nw2_fold, nw_fold, qy_cells, qy_fold, tk_cells, tk_fold, tk_putL, vd_cells, vd_fold, vd0_fold, vd0_put, vd0_cells, new_m, set_m, new_nx', htk5, k5, k6, n1, n2]) | (refine Or.inl ⟨_, Or.inl (hfit), ?_⟩; simp [-cellOK, nw2_cells, nw2_fold, nw_fold, qy_cells, qy_fold, tk_cells, tk_fold, tk_putL, vd_cells, vd_fold, vd0_fold, vd0_put, vd0_cells, new_m, set_m, new_nx', htk5, k5, k6, n1, n2]) | (refine PCalls.use (h1') ?_; simp [-cellOK, nw2_cells, nw2_fold, nw_fold, qy_cells, qy_fold, tk_cells, tk_fold, tk_putL, vd_cells, vd_fold, vd0_fold, vd0_put, vd0_cells, new_m, set_m, new_nx', htk5, k5, k6, n1, n2]) | (refine Or.inl ⟨_, Or.inl (h1'), ?_⟩; simp [-cellOK, nw2_cells, nw2_fold, nw_fold, qy_cells, qy_fold, tk_cells, tk_fold, tk_putL, vd_cells, vd_fold, vd0_fold, vd0_put, vd0_cells, new_m, set_m, new_nx', htk5, k5, k6, n1, n2]) | (refine PCalls.use (t3) ?_; simp [-cellOK, nw2_cells, nw2_fold, nw_fold, qy_cells, qy_fold, tk_cells, tk_fold, tk_putL, vd_cells, vd_fold, vd0_fold, vd0_put, vd0_cells, new_m, set_m, new_nx', htk5, k5, k6, n1, n2]) | (refine Or.inl ⟨_, Or.inl (t3), ?_⟩; simp [-cellOK, nw2_cells, nw2_fold, nw_fold, qy_cells, qy_fold, tk_cells, tk_fold, tk_putL, vd_cells, vd_fold, vd0_fold, vd0_put, vd0_cells, new_m, set_m, new_nx', htk5, k5, k6, n1, n2]) | (refine PCalls.use (hg) ?_; simp [-cellOK, nw2_cells, nw2_fold, nw_fold, qy_cells, qy_fold, tk_cells, tk_fold, tk_putL, vd_cells, vd_fold, vd0_fold, vd0_put, vd0_cells, new_m, set_m, new_nx', htk5, k5, k6, n1, n2]) | (refine Or.inl ⟨_, Or.inl (hg), ?_⟩; simp [-cellOK, nw2_cells, nw2_fold, nw_fold, qy_cells, qy_fold, tk_cells, tk_fold, tk_putL, vd_cells, vd_fold, vd0_fold, vd0_put, vd0_cells, new_m, set_m, new_nx', htk5, k5, k6, n1, n2]) | (refine PCalls.use (hb2) ?_; simp [-cellOK, nw2_cells, nw2_fold, nw_fold, qy_cells, qy_fold, tk_cells, tk_fold, tk_putL, vd_cells, vd_fold, vd0_fold, vd0_put, vd0_cells, new_m, set_m, new_nx', htk5, k5, k6, n1, n2]) | (refine Or.inl ⟨_, Or.inl (hb2), ?_⟩; simp [-cellOK, nw2_cells, nw2_fold, nw_fold, qy_cells, qy_fold, tk_cells, tk_fold, tk_putL, vd_cells, vd_fold, vd0_fold, vd0_put, vd0_cells, new_m, set_m, new_nx', htk5, k5, k6, n1, n2]) | (refine PCalls.use (t1) ?_; simp [-cellOK, nw2_cells, nw2_fold, nw_fold, qy_cells, qy_fold, tk_cells, tk_fold, tk_putL, vd_cells, vd_fold, vd0_fold, vd0_put, vd0_cells, new_m, set_m, new_nx', htk5, k5, k6, n1, n2]) | (refine Or.inl ⟨_, Or.inl (t1), ?_⟩; simp [-cellOK, nw2_cells, nw2_fold, nw_fold, qy_cells, qy_fold, tk_cells, tk_fold, tk_putL, vd_cells, vd_fold, vd0_fold, vd0_put, vd0_cells, new_m, set_m, new_nx', htk5, k5, k6, n1, n2]) | (refine PCalls.use (t2) ?_; simp [-cellOK, nw2_cells, nw2_fold, nw_fold, qy_cells, qy_fold, tk_cells, tk_fold, tk_putL, vd_cells, vd_fold, vd0_fold, vd0_put, vd0_cells, new_m, set_m, new_nx', htk5, k5, k6, n1, n2]) | (refine Or.inl ⟨_, Or.inl (t2), ?_⟩; simp [-cellOK, nw2_cells, nw2_fold, nw_fold, qy_cells, qy_fold, tk_cells, tk_fold, tk_putL, vd_cells, vd_fold, vd0_fold, vd0_put, vd0_cells, new_m, set_m, new_nx', htk5, k5, k6, n1, n2]) | (refine PCalls.use (hso) ?_; simp [-cellOK, nw2_cells, nw2_fold, nw_fold, qy_cells, qy_fold, tk_cells, tk_fold, tk_putL, vd_cells, vd_fold, vd0_fold, vd0_put, vd0_cells, new_m, set_m, new_nx', htk5, k5, k6, n1, n2]) | (refine Or.inl ⟨_, Or.inl (hso), ?_⟩; simp [-cellOK, nw2_cells, nw2_fold, nw_fold, qy_cells, qy_fold, tk_cells, tk_fold, tk_putL, vd_cells, vd_fold, vd0_fold, vd0_put, vd0_cells, new_m, set_m, new_nx', htk5, k5, k6, n1, n2]) | (refine PCalls.use (hal) ?_; simp [-cellOK, nw2_cells, nw2_fold, nw_fold, qy_cells, qy_fold, tk_cells, tk_fold, tk_putL, vd_cells, vd_fold, vd0_fold, vd0_put, vd0_cells, new_m, set_m, new_nx', htk5, k5, k6, n1, n2]) | (refine Or.inl ⟨_, Or.inl (hal), ?_⟩; simp [-cellOK, nw2_cells, nw2_fold, nw_fold, qy_cells, qy_fold, tk_cells, tk_fold, tk_putL, vd_cells, vd_fold, vd0_fold, vd0_put, vd0_cells, new_m, set_m, new_nx', htk5, k5, k6, n1, n2]) | fail)
      rotate_left
      focus
        (try (first | (with_reducible refine dops_go ?_; simp [-cellOK, nw2_cells, nw2_fold, nw_fold, qy_cells, qy_fold, tk_cells, tk_fold, tk_putL, vd_cells, vd_fold, vd0_fold, vd0_put, vd0_cells, new_m, set_m, new_nx', htk5, k5, n1, n2]) | (with_reducible refine OKv_go ?_; simp [-cellOK, nw2_cells, nw2_fold, nw_fold, qy_cells, qy_fold, tk_cells, tk_fold, tk_putL, vd_cells, vd_fold, vd0_fold, vd0_put, vd0_cells, new_m, set_m, new_nx', htk5, k5, n1, n2]) | (with_reducible refine OKr_go ?_; simp [-cellOK, nw2_cells, nw2_fold, nw_fold, qy_cells, qy_fold, tk_cells, tk_fold, tk_putL, vd_cells, vd_fold, vd0_fold, vd0_put, vd0_cells, new_m, set_m, new_nx', htk5, k5, n1, n2]))); repeat' (first | refine awp_seq ?_ | refine awp_block ?_ | (refine awp_skip ?_; try simp) | (refine awp_exit ?_; try simp) | (refine awp_ret ?_; try simp) | (refine retP_same (by simp) ?_; simp) | (refine retP_no (by simp) (by simp [noIds]) (by repeat (first | assumption | exact Ext.refl _ | refine ext_new' ?_ | refine Ext.setF ?_ (by first | assumption | (simp [new_nx', St.set, fresh_none]; done) | exact ext_fresh (by assumption)))) ?_; simp [-cellOK, nw2_cells, nw2_fold, nw_fold, qy_cells, qy_fold, tk_cells, tk_fold, tk_putL, vd_cells, vd_fold, vd0_fold, vd0_put, vd0_cells, new_m, set_m, new_nx', htk5, k5, n1, n2, new_m, set_m, new_nx']) | (refine awp_reg ?_; simp [-cellOK, nw2_cells, nw2_fold, nw_fold, qy_cells, qy_fold, tk_cells, tk_fold, tk_putL, vd_cells, vd_fold, vd0_fold, vd0_put, vd0_cells, new_m, set_m, new_nx', htk5, k5, n1, n2]) | (refine awp_drawT (fun _ => false) mixed (by decide +kernel) ?_; simp [-cellOK, nw2_cells, nw2_fold, nw_fold, qy_cells, qy_fold, tk_cells, tk_fold, tk_putL, vd_cells, vd_fold, vd0_fold, vd0_put, vd0_cells, new_m, set_m, new_nx', htk5, k5, n1, n2]) | (refine guarded_split ?_ ?_ <;> (intro hg; simp only [hg]; simp [-cellOK, nw2_cells, nw2_fold, nw_fold, qy_cells, qy_fold, tk_cells, tk_fold, tk_putL, vd_cells, vd_fold, vd0_fold, vd0_put, vd0_cells, new_m, set_m, new_nx', htk5, k5, n1, n2])) | (apply awp_cond_t; focus (simp [-cellOK, nw2_cells, nw2_fold, nw_fold, qy_cells, qy_fold, tk_cells, tk_fold, tk_putL, vd_cells, vd_fold, vd0_fold, vd0_put, vd0_cells, new_m, set_m, new_nx', htk5, k5, n1, n2]; done)) | (apply awp_cond_f; focus (simp [-cellOK, nw2_cells, nw2_fold, nw_fold, qy_cells, qy_fold, tk_cells, tk_fold, tk_putL, vd_cells, vd_fold, vd0_fold, vd0_put, vd0_cells, new_m, set_m, new_nx', htk5, k5, n1, n2]; done)) | (refine awp_cond ?_; simp [-cellOK, nw2_cells, nw2_fold, nw_fold, qy_cells, qy_fold, tk_cells, tk_fold, tk_putL, vd_cells, vd_fold, vd0_fold, vd0_put, vd0_cells, new_m, set_m, new_nx', htk5, k5, n1, n2]; refine ⟨?_, ?_⟩ <;> intro hc) | (refine awp_drawT isCallO mixed (by decide +kernel) ?_; simp [-cellOK, nw2_cells, nw2_fold, nw_fold, qy_cells, qy_fold, tk_cells, tk_fold, tk_putL, vd_cells, vd_fold, vd0_fold, vd0_put, vd0_cells, new_m, set_m, new_nx', htk5, k5, n1, n2]) | (refine PCalls.use (hfit) ?_; simp [-cellOK, nw2_cells, nw2_fold, nw_fold, qy_cells, qy_fold, tk_cells, tk_fold, tk_putL, vd_cells, vd_fold, vd0_fold, vd0_put, vd0_cells, new_m, set_m, new_nx', htk5, k5, n1, n2]) | (refine Or.inl ⟨_, Or.inl (hfit), ?_⟩; simp [-cellOK, nw2_cells, nw2_fold, nw_fold, qy_cells, qy_fold, tk_cells, tk_fold, tk_putL, vd_cells, vd_fold, vd0_fold, vd0_put, vd0_cells, new_m, set_m, new_nx', htk5, k5, n1, n2]) | (refine PCalls.use (h1') ?_; simp [-cellOK, nw2_cells, nw2_fold, nw_fold, qy_cells, qy_fold, tk_cells, tk_fold, tk_putL, vd_cells, vd_fold, vd0_fold, vd0_put, vd0_cells, new_m, set_m, new_nx', htk5, k5, n1, n2]) | (refine Or.inl ⟨_, Or.inl (h1'), ?_⟩; simp [-cellOK, nw2_cells, nw2_fold, nw_fold, qy_cells, qy_fold, tk_cells, tk_fold, tk_putL, vd_cells, vd_fold, vd0_fold, vd0_put, vd0_cells, new_m, set_m, new_nx', htk5, k5, n1, n2]) | (refine PCalls.use (t3) ?_; simp [-cellOK, nw2_cells, nw2_fold, nw_fold, qy_cells, qy_fold, tk_cells, tk_fold, tk_putL, vd_cells, vd_fold, vd0_fold, vd0_put, vd0_cells, new_m, set_m, new_nx', htk5, k5, n1, n2]) | (refine Or.inl ⟨_, Or.inl (t3), ?_⟩; simp [-cellOK, nw2_cells, nw2_fold, nw_fold, qy_cells, qy_fold, tk_cells, tk_fold, tk_putL, vd_cells, vd_fold, vd0_fold, vd0_put, vd0_cells, new_m, set_m, new_nx', htk5, k5, n1, n2]) | (refine PCalls.use (hg) ?_; simp [-cellOK, nw2_cells, nw2_fold, nw_fold, qy_cells, qy_fold, tk_cells, tk_fold, tk_putL, vd_cells, vd_fold, vd0_fold, vd0_put, vd0_cells, new_m, set_m, new_nx', htk5, k5, n1, n2]) | (refine Or.inl ⟨_, Or.inl (hg), ?_⟩; simp [-cellOK, nw2_cells, nw2_fold, nw_fold, qy_cells, qy_fold, tk_cells, tk_fold, tk_putL, vd_cells, vd_fold, vd0_fold, vd0_put, vd0_cells, new_m, set_m, new_nx', htk5, k5, n1, n2]) | (refine PCalls.use (hb2) ?_; simp [-cellOK, nw2_cells, nw2_fold, nw_fold, qy_cells, qy_fold, tk_cells, tk_fold, tk_putL, vd_cells, vd_fold, vd0_fold, vd0_put, vd0_cells, new_m, set_m, new_nx', htk5, k5, n1, n2]) | (refine Or.inl ⟨_, Or.inl (hb2), ?_⟩; simp [-cellOK, nw2_cells, nw2_fold, nw_fold, qy_cells, qy_fold, tk_cells, tk_fold, tk_putL, vd_cells, vd_fold, vd0_fold, vd0_put, vd0_cells, new_m, set_m, new_nx', htk5, k5, n1, n2]) | (refine PCalls.use (t1) ?_; simp [-cellOK, nw2_cells, nw2_fold, nw_fold, qy_cells, qy_fold, tk_cells, tk_fold, tk_putL, vd_cells, vd_fold, vd0_fold, vd0_put, vd0_cells, new_m, set_m, new_nx', htk5, k5, n1, n2]) | (refine Or.inl ⟨_, Or.inl (t1), ?_⟩; simp [-cellOK, nw2_cells, nw2_fold, nw_fold, qy_cells, qy_fold, tk_cells, tk_fold, tk_putL, vd_cells, vd_fold, vd0_fold, vd0_put, vd0_cells, new_m, set_m, new_nx', htk5, k5, n1, n2]) | (refine PCalls.use (t2) ?_; simp [-cellOK, nw2_cells, nw2_fold, nw_fold, qy_cells, qy_fold, tk_cells, tk_fold, tk_putL, vd_cells, vd_fold, vd0_fold, vd0_put, vd0_cells, new_m, set_m, new_nx', htk5, k5, n1, n2]) | (refine Or.inl ⟨_, Or.inl (t2), ?_⟩; simp [-cellOK, nw2_cells, nw2_fold, nw_fold, qy_cells, qy_fold, tk_cells, tk_fold, tk_putL, vd_cells, vd_fold, vd0_fold, vd0_put, vd0_cells, new_m, set_m, new_nx', htk5, k5, n1, n2]) | (refine PCalls.use (hso) ?_; simp [-cellOK, nw2_cells, nw2_fold, nw_fold, qy_cells, qy_fold, tk_cells, tk_fold, tk_putL, vd_cells, vd_fold, vd0_fold, vd0_put, vd0_cells, new_m, set_m, new_nx', htk5, k5, n1, n2]) | (refine Or.inl ⟨_, Or.inl (hso), ?_⟩; simp [-cellOK, nw2_cells, nw2_fold, nw_fold, qy_cells, qy_fold, tk_cells, tk_fold, tk_putL, vd_cells, vd_fold, vd0_fold, vd0_put, vd0_cells, new_m, set_m, new_nx', htk5, k5, n1, n2]) | (refine PCalls.use (hal) ?_; simp [-cellOK, nw2_cells, nw2_fold, nw_fold, qy_cells, qy_fold, tk_cells, tk_fold, tk_putL, vd_cells, vd_fold, vd0_fold, vd0_put, vd0_cells, new_m, set_m, new_nx', htk5, k5, n1, n2]) | (refine Or.inl ⟨_, Or.inl (hal), ?_⟩; simp [-cellOK, nw2_cells, nw2_fold, nw_fold, qy_cells, qy_fold, tk_cells, tk_fold, tk_putL, vd_cells, vd_fold, vd0_fold, vd0_put, vd0_cells, new_m, set_m, new_nx', htk5, k5, n1, n2]) | fail)
    all_goals
      generalize hST : St.set _ _ _ = ST
      have m3 : ST.m ⟨3, σ.nx 3, 6⟩ = some (.buf [nw2AV n m f g]) := by rw [← hST]; simp [new_m, set_m, new_nx']
      have m4 : ST.m ⟨4, σ.nx 4, 7⟩ = some (.buf [qyAV q]) := by rw [← hST]; simp [new_m, set_m, new_nx']
      have m5 : ST.m ⟨5, σ.nx 5, 2⟩ = some (.buf [.agg [.raw (.int .i64 d), .raw (.int .u32 x)]]) := by rw [← hST]; simp [new_m, set_m, new_nx']
      have m8 : ∃ c1 c2 c3 c4, ST.m ⟨8, σ.nx 8, 7⟩ = some (.buf [.agg [.raw (.bool v.holds), .raw (.int .i64 v.src), .raw (.int .u32 v.addr), c1, c2, c3, c4]]) := by rw [← hST]; exact ⟨_, _, _, _, by simp [new_m, set_m, new_nx', vd0_put, hh, vs, va]; exact ⟨rfl, rfl, rfl, rfl⟩⟩
      obtain ⟨w1, w2, w3, w4, m8⟩ := m8
      have m12 : ST.m ⟨12, σ.nx 12, 4⟩ = some (.buf [tkAV T false]) := by rw [← hST]; simp [new_m, set_m, new_nx', tk_cells, tk_putL]
      have m14 : ST.m ⟨14, σ.nx 14, 4⟩ = some (.buf [tkAV U false]) := by rw [← hST]; simp [new_m, set_m, new_nx', tk_cells, tk_putL]
      have hE : Ext σ ST := by rw [← hST]; exact (by repeat (first | assumption | exact Ext.refl _ | refine ext_new' ?_ | refine Ext.setF ?_ (by first | assumption | (simp [new_nx', St.set, fresh_none]; done) | exact ext_fresh (by assumption))))
      clear hST
      generalize hA : put 221 _ 18 _ = A
      have a3 : A 3 = .rp ⟨3, σ.nx 3, 6⟩ 0 0 := by rw [← hA]; simp [new_nx']
      have a4 : A 4 = .rp ⟨4, σ.nx 4, 7⟩ 0 0 := by rw [← hA]; simp [new_nx']
      have a5 : A 5 = .rp ⟨5, σ.nx 5, 2⟩ 0 0 := by rw [← hA]; simp [new_nx']
      have a8 : A 8 = .rp ⟨8, σ.nx 8, 7⟩ 0 0 := by rw [← hA]; simp [new_nx', vd0_cells]
      have a12 : A 12 = .rp ⟨12, σ.nx 12, 4⟩ 0 0 := by rw [← hA]; simp [new_nx']
      have a13 : A 13 = .raw (.int .i64 gt) := by rw [← hA]; simp
      have a14 : A 14 = .rp ⟨14, σ.nx 14, 4⟩ 0 0 := by rw [← hA]; simp [new_nx']
      have a16 : A 16 = .raw (.bool false) := by rw [← hA]; simp
      have a17 : A 17 = intsAV Sq false := by rw [← hA]; simp [intsAV]
      have a18 : A 18 = .raw (.int .i64 0) := by rw [← hA]; simp
      clear hA
      refine awp_loopH (fun n' B ρ => ρ = ST ∧ B 3 = .rp ⟨3, σ.nx 3, 6⟩ 0 0 ∧ B 4 = .rp ⟨4, σ.nx 4, 7⟩ 0 0 ∧ B 5 = .rp ⟨5, σ.nx 5, 2⟩ 0 0 ∧ B 8 = .rp ⟨8, σ.nx 8, 7⟩ 0 0 ∧ B 12 = .rp ⟨12, σ.nx 12, 4⟩ 0 0 ∧ B 13 = .raw (.int .i64 gt) ∧ B 14 = .rp ⟨14, σ.nx 14, 4⟩ 0 0 ∧ B 17 = intsAV Sq false ∧
        ∃ i : Nat, B 18 = .raw (.int .i64 i) ∧ i ≤ Sq.length ∧ n' = Sq.length - i ∧ B 16 = .raw (.bool ((Sq.take i).any fun s => decide (s = d)))) Sq.length ?_ ?_
      · exact ⟨rfl, a3, a4, a5, a8, a12, a13, a14, a17, 0, a18, by omega, by omega, by simpa using a16⟩
      clear a3 a4 a5 a8 a12 a13 a14 a16 a17 a18 h1'
      rintro n' B ρ ⟨rfl, a3, a4, a5, a8, a12, a13, a14, a17, i, a18, hi, rfl, a16⟩ I1 hI1
      by_cases hlt : i < Sq.length
      · have hx1 : Sq[i]? = some Sq[i] := List.getElem?_eq_getElem hlt
        have w1 : IntKind.i64.wrap ((i : Int) + 1) = ((i + 1 : Nat) : Int) := by rw [wrap64 (by omega) (by omega)]; omega
        obtain ⟨s, hs⟩ : ∃ s, Sq[i] = s := ⟨_, rfl⟩
        have hany : ((Sq.take (i + 1)).any fun s => decide (s = d)) = (((Sq.take i).any fun s => decide (s = d)) || decide (s = d)) := by
          rw [List.take_add_one, hx1, hs, List.any_append]; simp
        generalize ((Sq.take i).any fun s => decide (s = d)) = b at a16 hany
        cases b with
        | true =>
          (try (first | (with_reducible refine dops_go ?_; simp [-cellOK, a3, a4, a5, a8, a12, a13, a14, a16, a17, a18, m3, m4, m5, m8, m12, m14, nw2_cells, nw_fold, qy_cells, qy_fold, tk_cells, tk_fold, hlt, hx1, hs, w1, intsAV, iAV]) | (with_reducible refine OKv_go ?_; simp [-cellOK, a3, a4, a5, a8, a12, a13, a14, a16, a17, a18, m3, m4, m5, m8, m12, m14, nw2_cells, nw_fold, qy_cells, qy_fold, tk_cells, tk_fold, hlt, hx1, hs, w1, intsAV, iAV]) | (with_reducible refine OKr_go ?_; simp [-cellOK, a3, a4, a5, a8, a12, a13, a14, a16, a17, a18, m3, m4, m5, m8, m12, m14, nw2_cells, nw_fold, qy_cells, qy_fold, tk_cells, tk_fold, hlt, hx1, hs, w1, intsAV, iAV]))); repeat' (first | refine awp_seq ?_ | refine awp_block ?_ | (refine awp_skip ?_; try simp) | (refine awp_exit ?_; try simp) | (refine awp_ret ?_; try simp) | (refine retP_same (by simp) ?_; simp) | (refine retP_no (by simp) (by simp [noIds]) (by repeat (first | assumption | exact Ext.refl _ | refine ext_new' ?_ | refine Ext.setF ?_ (by first | assumption | (simp [new_nx', St.set, fresh_none]; done) | exact ext_fresh (by assumption)))) ?_; simp [-cellOK, a3, a4, a5, a8, a12, a13, a14, a16, a17, a18, m3, m4, m5, m8, m12, m14, nw2_cells, nw_fold, qy_cells, qy_fold, tk_cells, tk_fold, hlt, hx1, hs, w1, intsAV, iAV, new_m, set_m, new_nx']) | (refine awp_reg ?_; simp [-cellOK, a3, a4, a5, a8, a12, a13, a14, a16, a17, a18, m3, m4, m5, m8, m12, m14, nw2_cells, nw_fold, qy_cells, qy_fold, tk_cells, tk_fold, hlt, hx1, hs, w1, intsAV, iAV]) | (refine awp_drawT (fun _ => false) mixed (by decide +kernel) ?_; simp [-cellOK, a3, a4, a5, a8, a12, a13, a14, a16, a17, a18, m3, m4, m5, m8, m12, m14, nw2_cells, nw_fold, qy_cells, qy_fold, tk_cells, tk_fold, hlt, hx1, hs, w1, intsAV, iAV]) | (refine guarded_split ?_ ?_ <;> (intro hg; simp only [hg]; simp [-cellOK, a3, a4, a5, a8, a12, a13, a14, a16, a17, a18, m3, m4, m5, m8, m12, m14, nw2_cells, nw_fold, qy_cells, qy_fold, tk_cells, tk_fold, hlt, hx1, hs, w1, intsAV, iAV])) | (apply awp_cond_t; focus (simp [-cellOK, a3, a4, a5, a8, a12, a13, a14, a16, a17, a18, m3, m4, m5, m8, m12, m14, nw2_cells, nw_fold, qy_cells, qy_fold, tk_cells, tk_fold, hlt, hx1, hs, w1, intsAV, iAV]; done)) | (apply awp_cond_f; focus (simp [-cellOK, a3, a4, a5, a8, a12, a13, a14, a16, a17, a18, m3, m4, m5, m8, m12, m14, nw2_cells, nw_fold, qy_cells, qy_fold, tk_cells, tk_fold, hlt, hx1, hs, w1, intsAV, iAV]; done)) | (refine awp_cond ?_; simp [-cellOK, a3, a4, a5, a8, a12, a13, a14, a16, a17, a18, m3, m4, m5, m8, m12, m14, nw2_cells, nw_fold, qy_cells, qy_fold, tk_cells, tk_fold, hlt, hx1, hs, w1, intsAV, iAV]; refine ⟨?_, ?_⟩ <;> intro hc) | (refine awp_drawT isCallO mixed (by decide +kernel) ?_; simp [-cellOK, a3, a4, a5, a8, a12, a13, a14, a16, a17, a18, m3, m4, m5, m8, m12, m14, nw2_cells, nw_fold, qy_cells, qy_fold, tk_cells, tk_fold, hlt, hx1, hs, w1, intsAV, iAV]) | fail)
          exact hI1 (Sq.length - (i + 1)) _ _ (by omega) ⟨rfl, by simp [a3], by simp [a4], by simp [a5], by simp [a8], by simp [a12], by simp [a13], by simp [a14], by simp [a17, intsAV], i + 1, by simp, by omega, rfl, by rw [hany]; simp⟩
        | false =>
          (try (first | (with_reducible refine dops_go ?_; simp [-cellOK, a3, a4, a5, a8, a12, a13, a14, a16, a17, a18, m3, m4, m5, m8, m12, m14, nw2_cells, nw_fold, qy_cells, qy_fold, tk_cells, tk_fold, hlt, hx1, hs, w1, intsAV, iAV]) | (with_reducible refine OKv_go ?_; simp [-cellOK, a3, a4, a5, a8, a12, a13, a14, a16, a17, a18, m3, m4, m5, m8, m12, m14, nw2_cells, nw_fold, qy_cells, qy_fold, tk_cells, tk_fold, hlt, hx1, hs, w1, intsAV, iAV]) | (with_reducible refine OKr_go ?_; simp [-cellOK, a3, a4, a5, a8, a12, a13, a14, a16, a17, a18, m3, m4, m5, m8, m12, m14, nw2_cells, nw_fold, qy_cells, qy_fold, tk_cells, tk_fold, hlt, hx1, hs, w1, intsAV, iAV]))); repeat' (first | refine awp_seq ?_ | refine awp_block ?_ | (refine awp_skip ?_; try simp) | (refine awp_exit ?_; try simp) | (refine awp_ret ?_; try simp) | (refine retP_same (by simp) ?_; simp) | (refine retP_no (by simp) (by simp [noIds]) (by repeat (first | assumption | exact Ext.refl _ | refine ext_new' ?_ | refine Ext.setF ?_ (by first | assumption | (simp [new_nx', St.set, fresh_none]; done) | exact ext_fresh (by assumption)))) ?_; simp [-cellOK, a3, a4, a5, a8, a12, a13, a14, a16, a17, a18, m3, m4, m5, m8, m12, m14, nw2_cells, nw_fold, qy_cells, qy_fold, tk_cells, tk_fold, hlt, hx1, hs, w1, intsAV, iAV, new_m, set_m, new_nx']) | (refine awp_reg ?_; simp [-cellOK, a3, a4, a5, a8, a12, a13, a14, a16, a17, a18, m3, m4, m5, m8, m12, m14, nw2_cells, nw_fold, qy_cells, qy_fold, tk_cells, tk_fold, hlt, hx1, hs, w1, intsAV, iAV]) | (refine awp_drawT (fun _ => false) mixed (by decide +kernel) ?_; simp [-cellOK, a3, a4, a5, a8, a12, a13, a14, a16, a17, a18, m3, m4, m5, m8, m12, m14, nw2_cells, nw_fold, qy_cells, qy_fold, tk_cells, tk_fold, hlt, hx1, hs, w1, intsAV, iAV]) | (refine guarded_split ?_ ?_ <;> (intro hg; simp only [hg]; simp [-cellOK, a3, a4, a5, a8, a12, a13, a14, a16, a17, a18, m3, m4, m5, m8, m12, m14, nw2_cells, nw_fold, qy_cells, qy_fold, tk_cells, tk_fold, hlt, hx1, hs, w1, intsAV, iAV])) | (apply awp_cond_t; focus (simp [-cellOK, a3, a4, a5, a8, a12, a13, a14, a16, a17, a18, m3, m4, m5, m8, m12, m14, nw2_cells, nw_fold, qy_cells, qy_fold, tk_cells, tk_fold, hlt, hx1, hs, w1, intsAV, iAV]; done)) | (apply awp_cond_f; focus (simp [-cellOK, a3, a4, a5, a8, a12, a13, a14, a16, a17, a18, m3, m4, m5, m8, m12, m14, nw2_cells, nw_fold, qy_cells, qy_fold, tk_cells, tk_fold, hlt, hx1, hs, w1, intsAV, iAV]; done)) | (refine awp_cond ?_; simp [-cellOK, a3, a4, a5, a8, a12, a13, a14, a16, a17, a18, m3, m4, m5, m8, m12, m14, nw2_cells, nw_fold, qy_cells, qy_fold, tk_cells, tk_fold, hlt, hx1, hs, w1, intsAV, iAV]; refine ⟨?_, ?_⟩ <;> intro hc) | (refine awp_drawT isCallO mixed (by decide +kernel) ?_; simp [-cellOK, a3, a4, a5, a8, a12, a13, a14, a16, a17, a18, m3, m4, m5, m8, m12, m14, nw2_cells, nw_fold, qy_cells, qy_fold, tk_cells, tk_fold, hlt, hx1, hs, w1, intsAV, iAV]) | fail)
          exact hI1 (Sq.length - (i + 1)) _ _ (by omega) ⟨rfl, by simp [a3], by simp [a4], by simp [a5], by simp [a8], by simp [a12], by simp [a13], by simp [a14], by simp [a17, intsAV], i + 1, by simp, by omega, rfl, by rw [hany]; simp⟩
      · have : i = Sq.length := by omega
        subst this
        rw [List.take_length] at a16
        have hin : (Sq.any fun s => decide (s = d)) = true → d ∈ Sq := fun h => by
          obtain ⟨s, h1, h2⟩ := List.any_eq_true.1 h
          simp only [decide_eq_true_eq] at h2
          exact h2 ▸ h1
        generalize (Sq.any fun s => decide (s = d)) = b at a16 hin
        clear hI1
        by_cases g0 : gt = 0
        · cases b with
          | false => (try (first | (with_reducible refine dops_go ?_; simp [-cellOK, a3, a4, a5, a8, a12, a13, a14, a16, a17, a18, m3, m4, m5, m8, m12, m14, nw2_cells, nw_fold, qy_cells, qy_fold, tk_cells, tk_fold, g0]) | (with_reducible refine OKv_go ?_; simp [-cellOK, a3, a4, a5, a8, a12, a13, a14, a16, a17, a18, m3, m4, m5, m8, m12, m14, nw2_cells, nw_fold, qy_cells, qy_fold, tk_cells, tk_fold, g0]) | (with_reducible refine OKr_go ?_; simp [-cellOK, a3, a4, a5, a8, a12, a13, a14, a16, a17, a18, m3, m4, m5, m8, m12, m14, nw2_cells, nw_fold, qy_cells, qy_fold, tk_cells, tk_fold, g0]))); repeat' (first | refine awp_seq ?_ | refine awp_block ?_ | (refine awp_skip ?_; try simp) | (refine awp_exit ?_; try simp) | (refine awp_ret ?_; try simp) | (refine retP_same (by simp) ?_; simp) | (refine retP_no (by simp) (by simp [noIds]) (by repeat (first | assumption | exact Ext.refl _ | refine ext_new' ?_ | refine Ext.setF ?_ (by first | assumption | (simp [new_nx', St.set, fresh_none]; done) | exact ext_fresh (by assumption)))) ?_; simp [-cellOK, a3, a4, a5, a8, a12, a13, a14, a16, a17, a18, m3, m4, m5, m8, m12, m14, nw2_cells, nw_fold, qy_cells, qy_fold, tk_cells, tk_fold, g0, new_m, set_m, new_nx']) | (refine awp_reg ?_; simp [-cellOK, a3, a4, a5, a8, a12, a13, a14, a16, a17, a18, m3, m4, m5, m8, m12, m14, nw2_cells, nw_fold, qy_cells, qy_fold, tk_cells, tk_fold, g0]) | (refine awp_drawT (fun _ => false) mixed (by decide +kernel) ?_; simp [-cellOK, a3, a4, a5, a8, a12, a13, a14, a16, a17, a18, m3, m4, m5, m8, m12, m14, nw2_cells, nw_fold, qy_cells, qy_fold, tk_cells, tk_fold, g0]) | (refine guarded_split ?_ ?_ <;> (intro hg; simp only [hg]; simp [-cellOK, a3, a4, a5, a8, a12, a13, a14, a16, a17, a18, m3, m4, m5, m8, m12, m14, nw2_cells, nw_fold, qy_cells, qy_fold, tk_cells, tk_fold, g0])) | (apply awp_cond_t; focus (simp [-cellOK, a3, a4, a5, a8, a12, a13, a14, a16, a17, a18, m3, m4, m5, m8, m12, m14, nw2_cells, nw_fold, qy_cells, qy_fold, tk_cells, tk_fold, g0]; done)) | (apply awp_cond_f; focus (simp [-cellOK, a3, a4, a5, a8, a12, a13, a14, a16, a17, a18, m3, m4, m5, m8, m12, m14, nw2_cells, nw_fold, qy_cells, qy_fold, tk_cells, tk_fold, g0]; done)) | (refine awp_cond ?_; simp [-cellOK, a3, a4, a5, a8, a12, a13, a14, a16, a17, a18, m3, m4, m5, m8, m12, m14, nw2_cells, nw_fold, qy_cells, qy_fold, tk_cells, tk_fold, g0]; refine ⟨?_, ?_⟩ <;> intro hc) | (refine awp_drawT isCallO mixed (by decide +kernel) ?_; simp [-cellOK, a3, a4, a5, a8, a12, a13, a14, a16, a17, a18, m3, m4, m5, m8, m12, m14, nw2_cells, nw_fold, qy_cells, qy_fold, tk_cells, tk_fold, g0]) | (refine PCalls.use (hal) ?_; simp [-cellOK, a3, a4, a5, a8, a12, a13, a14, a16, a17, a18, m3, m4, m5, m8, m12, m14, nw2_cells, nw_fold, qy_cells, qy_fold, tk_cells, tk_fold, g0]) | (refine Or.inl ⟨_, Or.inl (hal), ?_⟩; simp [-cellOK, a3, a4, a5, a8, a12, a13, a14, a16, a17, a18, m3, m4, m5, m8, m12, m14, nw2_cells, nw_fold, qy_cells, qy_fold, tk_cells, tk_fold, g0]) | fail)
          | true =>
            by_cases x1 : x < q.r.lo
            · (try (first | (with_reducible refine dops_go ?_; simp [-cellOK, a3, a4, a5, a8, a12, a13, a14, a16, a17, a18, m3, m4, m5, m8, m12, m14, nw2_cells, nw_fold, qy_cells, qy_fold, tk_cells, tk_fold, g0, x1]) | (with_reducible refine OKv_go ?_; simp [-cellOK, a3, a4, a5, a8, a12, a13, a14, a16, a17, a18, m3, m4, m5, m8, m12, m14, nw2_cells, nw_fold, qy_cells, qy_fold, tk_cells, tk_fold, g0, x1]) | (with_reducible refine OKr_go ?_; simp [-cellOK, a3, a4, a5, a8, a12, a13, a14, a16, a17, a18, m3, m4, m5, m8, m12, m14, nw2_cells, nw_fold, qy_cells, qy_fold, tk_cells, tk_fold, g0, x1]))); repeat' (first | refine awp_seq ?_ | refine awp_block ?_ | (refine awp_skip ?_; try simp) | (refine awp_exit ?_; try simp) | (refine awp_ret ?_; try simp) | (refine retP_same (by simp) ?_; simp) | (refine retP_no (by simp) (by simp [noIds]) (by repeat (first | assumption | exact Ext.refl _ | refine ext_new' ?_ | refine Ext.setF ?_ (by first | assumption | (simp [new_nx', St.set, fresh_none]; done) | exact ext_fresh (by assumption)))) ?_; simp [-cellOK, a3, a4, a5, a8, a12, a13, a14, a16, a17, a18, m3, m4, m5, m8, m12, m14, nw2_cells, nw_fold, qy_cells, qy_fold, tk_cells, tk_fold, g0, x1, new_m, set_m, new_nx']) | (refine awp_reg ?_; simp [-cellOK, a3, a4, a5, a8, a12, a13, a14, a16, a17, a18, m3, m4, m5, m8, m12, m14, nw2_cells, nw_fold, qy_cells, qy_fold, tk_cells, tk_fold, g0, x1]) | (refine awp_drawT (fun _ => false) mixed (by decide +kernel) ?_; simp [-cellOK, a3, a4, a5, a8, a12, a13, a14, a16, a17, a18, m3, m4, m5, m8, m12, m14, nw2_cells, nw_fold, qy_cells, qy_fold, tk_cells, tk_fold, g0, x1]) | (refine guarded_split ?_ ?_ <;> (intro hg; simp only [hg]; simp [-cellOK, a3, a4, a5, a8, a12, a13, a14, a16, a17, a18, m3, m4, m5, m8, m12, m14, nw2_cells, nw_fold, qy_cells, qy_fold, tk_cells, tk_fold, g0, x1])) | (apply awp_cond_t; focus (simp [-cellOK, a3, a4, a5, a8, a12, a13, a14, a16, a17, a18, m3, m4, m5, m8, m12, m14, nw2_cells, nw_fold, qy_cells, qy_fold, tk_cells, tk_fold, g0, x1]; done)) | (apply awp_cond_f; focus (simp [-cellOK, a3, a4, a5, a8, a12, a13, a14, a16, a17, a18, m3, m4, m5, m8, m12, m14, nw2_cells, nw_fold, qy_cells, qy_fold, tk_cells, tk_fold, g0, x1]; done)) | (refine awp_cond ?_; simp [-cellOK, a3, a4, a5, a8, a12, a13, a14, a16, a17, a18, m3, m4, m5, m8, m12, m14, nw2_cells, nw_fold, qy_cells, qy_fold, tk_cells, tk_fold, g0, x1]; refine ⟨?_, ?_⟩ <;> intro hc) | (refine awp_drawT isCallO mixed (by decide +kernel) ?_; simp [-cellOK, a3, a4, a5, a8, a12, a13, a14, a16, a17, a18, m3, m4, m5, m8, m12, m14, nw2_cells, nw_fold, qy_cells, qy_fold, tk_cells, tk_fold, g0, x1]) | (refine PCalls.use (hal) ?_; simp [-cellOK, a3, a4, a5, a8, a12, a13, a14, a16, a17, a18, m3, m4, m5, m8, m12, m14, nw2_cells, nw_fold, qy_cells, qy_fold, tk_cells, tk_fold, g0, x1]) | (refine Or.inl ⟨_, Or.inl (hal), ?_⟩; simp [-cellOK, a3, a4, a5, a8, a12, a13, a14, a16, a17, a18, m3, m4, m5, m8, m12, m14, nw2_cells, nw_fold, qy_cells, qy_fold, tk_cells, tk_fold, g0, x1]) | fail)
            by_cases x2 : q.r.hi < x
            · (try (first | (with_reducible refine dops_go ?_; simp [-cellOK, a3, a4, a5, a8, a12, a13, a14, a16, a17, a18, m3, m4, m5, m8, m12, m14, nw2_cells, nw_fold, qy_cells, qy_fold, tk_cells, tk_fold, g0, x1, x2]) | (with_reducible refine OKv_go ?_; simp [-cellOK, a3, a4, a5, a8, a12, a13, a14, a16, a17, a18, m3, m4, m5, m8, m12, m14, nw2_cells, nw_fold, qy_cells, qy_fold, tk_cells, tk_fold, g0, x1, x2]) | (with_reducible refine OKr_go ?_; simp [-cellOK, a3, a4, a5, a8, a12, a13, a14, a16, a17, a18, m3, m4, m5, m8, m12, m14, nw2_cells, nw_fold, qy_cells, qy_fold, tk_cells, tk_fold, g0, x1, x2]))); repeat' (first | refine awp_seq ?_ | refine awp_block ?_ | (refine awp_skip ?_; try simp) | (refine awp_exit ?_; try simp) | (refine awp_ret ?_; try simp) | (refine retP_same (by simp) ?_; simp) | (refine retP_no (by simp) (by simp [noIds]) (by repeat (first | assumption | exact Ext.refl _ | refine ext_new' ?_ | refine Ext.setF ?_ (by first | assumption | (simp [new_nx', St.set, fresh_none]; done) | exact ext_fresh (by assumption)))) ?_; simp [-cellOK, a3, a4, a5, a8, a12, a13, a14, a16, a17, a18, m3, m4, m5, m8, m12, m14, nw2_cells, nw_fold, qy_cells, qy_fold, tk_cells, tk_fold, g0, x1, x2, new_m, set_m, new_nx']) | (refine awp_reg ?_; simp [-cellOK, a3, a4, a5, a8, a12, a13, a14, a16, a17, a18, m3, m4, m5, m8, m12, m14, nw2_cells, nw_fold, qy_cells, qy_fold, tk_cells, tk_fold, g0, x1, x2]) | (refine awp_drawT (fun _ => false) mixed (by decide +kernel) ?_; simp [-cellOK, a3, a4, a5, a8, a12, a13, a14, a16, a17, a18, m3, m4, m5, m8, m12, m14, nw2_cells, nw_fold, qy_cells, qy_fold, tk_cells, tk_fold, g0, x1, x2]) | (refine guarded_split ?_ ?_ <;> (intro hg; simp only [hg]; simp [-cellOK, a3, a4, a5, a8, a12, a13, a14, a16, a17, a18, m3, m4, m5, m8, m12, m14, nw2_cells, nw_fold, qy_cells, qy_fold, tk_cells, tk_fold, g0, x1, x2])) | (apply awp_cond_t; focus (simp [-cellOK, a3, a4, a5, a8, a12, a13, a14, a16, a17, a18, m3, m4, m5, m8, m12, m14, nw2_cells, nw_fold, qy_cells, qy_fold, tk_cells, tk_fold, g0, x1, x2]; done)) | (apply awp_cond_f; focus (simp [-cellOK, a3, a4, a5, a8, a12, a13, a14, a16, a17, a18, m3, m4, m5, m8, m12, m14, nw2_cells, nw_fold, qy_cells, qy_fold, tk_cells, tk_fold, g0, x1, x2]; done)) | (refine awp_cond ?_; simp [-cellOK, a3, a4, a5, a8, a12, a13, a14, a16, a17, a18, m3, m4, m5, m8, m12, m14, nw2_cells, nw_fold, qy_cells, qy_fold, tk_cells, tk_fold, g0, x1, x2]; refine ⟨?_, ?_⟩ <;> intro hc) | (refine awp_drawT isCallO mixed (by decide +kernel) ?_; simp [-cellOK, a3, a4, a5, a8, a12, a13, a14, a16, a17, a18, m3, m4, m5, m8, m12, m14, nw2_cells, nw_fold, qy_cells, qy_fold, tk_cells, tk_fold, g0, x1, x2]) | (refine PCalls.use (hal) ?_; simp [-cellOK, a3, a4, a5, a8, a12, a13, a14, a16, a17, a18, m3, m4, m5, m8, m12, m14, nw2_cells, nw_fold, qy_cells, qy_fold, tk_cells, tk_fold, g0, x1, x2]) | (refine Or.inl ⟨_, Or.inl (hal), ?_⟩; simp [-cellOK, a3, a4, a5, a8, a12, a13, a14, a16, a17, a18, m3, m4, m5, m8, m12, m14, nw2_cells, nw_fold, qy_cells, qy_fold, tk_cells, tk_fold, g0, x1, x2]) | fail)
            cases hbb : breaksQ q T U with
            | false =>
              rw [hbb] at hbk
              (try (first | (with_reducible refine dops_go ?_; simp [-cellOK, a3, a4, a5, a8, a12, a13, a14, a16, a17, a18, m3, m4, m5, m8, m12, m14, nw2_cells, nw_fold, qy_cells, qy_fold, tk_cells, tk_fold, g0, x1, x2]) | (with_reducible refine OKv_go ?_; simp [-cellOK, a3, a4, a5, a8, a12, a13, a14, a16, a17, a18, m3, m4, m5, m8, m12, m14, nw2_cells, nw_fold, qy_cells, qy_fold, tk_cells, tk_fold, g0, x1, x2]) | (with_reducible refine OKr_go ?_; simp [-cellOK, a3, a4, a5, a8, a12, a13, a14, a16, a17, a18, m3, m4, m5, m8, m12, m14, nw2_cells, nw_fold, qy_cells, qy_fold, tk_cells, tk_fold, g0, x1, x2]))); repeat' (first | refine awp_seq ?_ | refine awp_block ?_ | (refine awp_skip ?_; try simp) | (refine awp_exit ?_; try simp) | (refine awp_ret ?_; try simp) | (refine retP_same (by simp) ?_; simp) | (refine retP_no (by simp) (by simp [noIds]) (by repeat (first | assumption | exact Ext.refl _ | refine ext_new' ?_ | refine Ext.setF ?_ (by first | assumption | (simp [new_nx', St.set, fresh_none]; done) | exact ext_fresh (by assumption)))) ?_; simp [-cellOK, a3, a4, a5, a8, a12, a13, a14, a16, a17, a18, m3, m4, m5, m8, m12, m14, nw2_cells, nw_fold, qy_cells, qy_fold, tk_cells, tk_fold, g0, x1, x2, new_m, set_m, new_nx']) | (refine awp_reg ?_; simp [-cellOK, a3, a4, a5, a8, a12, a13, a14, a16, a17, a18, m3, m4, m5, m8, m12, m14, nw2_cells, nw_fold, qy_cells, qy_fold, tk_cells, tk_fold, g0, x1, x2]) | (refine awp_drawT (fun _ => false) mixed (by decide +kernel) ?_; simp [-cellOK, a3, a4, a5, a8, a12, a13, a14, a16, a17, a18, m3, m4, m5, m8, m12, m14, nw2_cells, nw_fold, qy_cells, qy_fold, tk_cells, tk_fold, g0, x1, x2]) | (refine guarded_split ?_ ?_ <;> (intro hg; simp only [hg]; simp [-cellOK, a3, a4, a5, a8, a12, a13, a14, a16, a17, a18, m3, m4, m5, m8, m12, m14, nw2_cells, nw_fold, qy_cells, qy_fold, tk_cells, tk_fold, g0, x1, x2])) | (apply awp_cond_t; focus (simp [-cellOK, a3, a4, a5, a8, a12, a13, a14, a16, a17, a18, m3, m4, m5, m8, m12, m14, nw2_cells, nw_fold, qy_cells, qy_fold, tk_cells, tk_fold, g0, x1, x2]; done)) | (apply awp_cond_f; focus (simp [-cellOK, a3, a4, a5, a8, a12, a13, a14, a16, a17, a18, m3, m4, m5, m8, m12, m14, nw2_cells, nw_fold, qy_cells, qy_fold, tk_cells, tk_fold, g0, x1, x2]; done)) | (refine awp_cond ?_; simp [-cellOK, a3, a4, a5, a8, a12, a13, a14, a16, a17, a18, m3, m4, m5, m8, m12, m14, nw2_cells, nw_fold, qy_cells, qy_fold, tk_cells, tk_fold, g0, x1, x2]; refine ⟨?_, ?_⟩ <;> intro hc) | (refine awp_drawT isCallO mixed (by decide +kernel) ?_; simp [-cellOK, a3, a4, a5, a8, a12, a13, a14, a16, a17, a18, m3, m4, m5, m8, m12, m14, nw2_cells, nw_fold, qy_cells, qy_fold, tk_cells, tk_fold, g0, x1, x2]) | (refine PCalls.use (hbk) ?_; simp [-cellOK, a3, a4, a5, a8, a12, a13, a14, a16, a17, a18, m3, m4, m5, m8, m12, m14, nw2_cells, nw_fold, qy_cells, qy_fold, tk_cells, tk_fold, g0, x1, x2]) | (refine Or.inl ⟨_, Or.inl (hbk), ?_⟩; simp [-cellOK, a3, a4, a5, a8, a12, a13, a14, a16, a17, a18, m3, m4, m5, m8, m12, m14, nw2_cells, nw_fold, qy_cells, qy_fold, tk_cells, tk_fold, g0, x1, x2]) | (refine PCalls.use (hal) ?_; simp [-cellOK, a3, a4, a5, a8, a12, a13, a14, a16, a17, a18, m3, m4, m5, m8, m12, m14, nw2_cells, nw_fold, qy_cells, qy_fold, tk_cells, tk_fold, g0, x1, x2]) | (refine Or.inl ⟨_, Or.inl (hal), ?_⟩; simp [-cellOK, a3, a4, a5, a8, a12, a13, a14, a16, a17, a18, m3, m4, m5, m8, m12, m14, nw2_cells, nw_fold, qy_cells, qy_fold, tk_cells, tk_fold, g0, x1, x2]) | fail)
            | true =>
              rw [hbb] at hbk
              obtain ⟨z1, z2⟩ := hpk (hin rfl) ⟨by omega, by omega⟩ hbb
              by_cases z3 : v.src < d
              · (try (first | (with_reducible refine dops_go ?_; simp [-cellOK, a3, a4, a5, a8, a12, a13, a14, a16, a17, a18, m3, m4, m5, m8, m12, m14, nw2_cells, nw_fold, qy_cells, qy_fold, tk_cells, tk_fold, g0, x1, x2, z1, z3]) | (with_reducible refine OKv_go ?_; simp [-cellOK, a3, a4, a5, a8, a12, a13, a14, a16, a17, a18, m3, m4, m5, m8, m12, m14, nw2_cells, nw_fold, qy_cells, qy_fold, tk_cells, tk_fold, g0, x1, x2, z1, z3]) | (with_reducible refine OKr_go ?_; simp [-cellOK, a3, a4, a5, a8, a12, a13, a14, a16, a17, a18, m3, m4, m5, m8, m12, m14, nw2_cells, nw_fold, qy_cells, qy_fold, tk_cells, tk_fold, g0, x1, x2, z1, z3]))); repeat' (first | refine awp_seq ?_ | refine awp_block ?_ | (refine awp_skip ?_; try simp) | (refine awp_exit ?_; try simp) | (refine awp_ret ?_; try simp) | (refine retP_same (by simp) ?_; simp) | (refine retP_no (by simp) (by simp [noIds]) (by repeat (first | assumption | exact Ext.refl _ | refine ext_new' ?_ | refine Ext.setF ?_ (by first | assumption | (simp [new_nx', St.set, fresh_none]; done) | exact ext_fresh (by assumption)))) ?_; simp [-cellOK, a3, a4, a5, a8, a12, a13, a14, a16, a17, a18, m3, m4, m5, m8, m12, m14, nw2_cells, nw_fold, qy_cells, qy_fold, tk_cells, tk_fold, g0, x1, x2, z1, z3, new_m, set_m, new_nx']) | (refine awp_reg ?_; simp [-cellOK, a3, a4, a5, a8, a12, a13, a14, a16, a17, a18, m3, m4, m5, m8, m12, m14, nw2_cells, nw_fold, qy_cells, qy_fold, tk_cells, tk_fold, g0, x1, x2, z1, z3]) | (refine awp_drawT (fun _ => false) mixed (by decide +kernel) ?_; simp [-cellOK, a3, a4, a5, a8, a12, a13, a14, a16, a17, a18, m3, m4, m5, m8, m12, m14, nw2_cells, nw_fold, qy_cells, qy_fold, tk_cells, tk_fold, g0, x1, x2, z1, z3]) | (refine guarded_split ?_ ?_ <;> (intro hg; simp only [hg]; simp [-cellOK, a3, a4, a5, a8, a12, a13, a14, a16, a17, a18, m3, m4, m5, m8, m12, m14, nw2_cells, nw_fold, qy_cells, qy_fold, tk_cells, tk_fold, g0, x1, x2, z1, z3])) | (apply awp_cond_t; focus (simp [-cellOK, a3, a4, a5, a8, a12, a13, a14, a16, a17, a18, m3, m4, m5, m8, m12, m14, nw2_cells, nw_fold, qy_cells, qy_fold, tk_cells, tk_fold, g0, x1, x2, z1, z3]; done)) | (apply awp_cond_f; focus (simp [-cellOK, a3, a4, a5, a8, a12, a13, a14, a16, a17, a18, m3, m4, m5, m8, m12, m14, nw2_cells, nw_fold, qy_cells, qy_fold, tk_cells, tk_fold, g0, x1, x2, z1, z3]; done)) | (refine awp_cond ?_; simp [-cellOK, a3, a4, a5, a8, a12, a13, a14, a16, a17, a18, m3, m4, m5, m8, m12, m14, nw2_cells, nw_fold, qy_cells, qy_fold, tk_cells, tk_fold, g0, x1, x2, z1, z3]; refine ⟨?_, ?_⟩ <;> intro hc) | (refine awp_drawT isCallO mixed (by decide +kernel) ?_; simp [-cellOK, a3, a4, a5, a8, a12, a13, a14, a16, a17, a18, m3, m4, m5, m8, m12, m14, nw2_cells, nw_fold, qy_cells, qy_fold, tk_cells, tk_fold, g0, x1, x2, z1, z3]) | (refine PCalls.use (hbk) ?_; simp [-cellOK, a3, a4, a5, a8, a12, a13, a14, a16, a17, a18, m3, m4, m5, m8, m12, m14, nw2_cells, nw_fold, qy_cells, qy_fold, tk_cells, tk_fold, g0, x1, x2, z1, z3]) | (refine Or.inl ⟨_, Or.inl (hbk), ?_⟩; simp [-cellOK, a3, a4, a5, a8, a12, a13, a14, a16, a17, a18, m3, m4, m5, m8, m12, m14, nw2_cells, nw_fold, qy_cells, qy_fold, tk_cells, tk_fold, g0, x1, x2, z1, z3]) | (refine PCalls.use (hal) ?_; simp [-cellOK, a3, a4, a5, a8, a12, a13, a14, a16, a17, a18, m3, m4, m5, m8, m12, m14, nw2_cells, nw_fold, qy_cells, qy_fold, tk_cells, tk_fold, g0, x1, x2, z1, z3]) | (refine Or.inl ⟨_, Or.inl (hal), ?_⟩; simp [-cellOK, a3, a4, a5, a8, a12, a13, a14, a16, a17, a18, m3, m4, m5, m8, m12, m14, nw2_cells, nw_fold, qy_cells, qy_fold, tk_cells, tk_fold, g0, x1, x2, z1, z3]) | fail)
              · have z4 : v.src = d := by omega
                have z5 : v.addr ≤ x := by omega
                (try (first | (with_reducible refine dops_go ?_; simp [-cellOK, a3, a4, a5, a8, a12, a13, a14, a16, a17, a18, m3, m4, m5, m8, m12, m14, nw2_cells, nw_fold, qy_cells, qy_fold, tk_cells, tk_fold, g0, x1, x2, z1, z3, z4, z5]) | (with_reducible refine OKv_go ?_; simp [-cellOK, a3, a4, a5, a8, a12, a13, a14, a16, a17, a18, m3, m4, m5, m8, m12, m14, nw2_cells, nw_fold, qy_cells, qy_fold, tk_cells, tk_fold, g0, x1, x2, z1, z3, z4, z5]) | (with_reducible refine OKr_go ?_; simp [-cellOK, a3, a4, a5, a8, a12, a13, a14, a16, a17, a18, m3, m4, m5, m8, m12, m14, nw2_cells, nw_fold, qy_cells, qy_fold, tk_cells, tk_fold, g0, x1, x2, z1, z3, z4, z5]))); repeat' (first | refine awp_seq ?_ | refine awp_block ?_ | (refine awp_skip ?_; try simp) | (refine awp_exit ?_; try simp) | (refine awp_ret ?_; try simp) | (refine retP_same (by simp) ?_; simp) | (refine retP_no (by simp) (by simp [noIds]) (by repeat (first | assumption | exact Ext.refl _ | refine ext_new' ?_ | refine Ext.setF ?_ (by first | assumption | (simp [new_nx', St.set, fresh_none]; done) | exact ext_fresh (by assumption)))) ?_; simp [-cellOK, a3, a4, a5, a8, a12, a13, a14, a16, a17, a18, m3, m4, m5, m8, m12, m14, nw2_cells, nw_fold, qy_cells, qy_fold, tk_cells, tk_fold, g0, x1, x2, z1, z3, z4, z5, new_m, set_m, new_nx']) | (refine awp_reg ?_; simp [-cellOK, a3, a4, a5, a8, a12, a13, a14, a16, a17, a18, m3, m4, m5, m8, m12, m14, nw2_cells, nw_fold, qy_cells, qy_fold, tk_cells, tk_fold, g0, x1, x2, z1, z3, z4, z5]) | (refine awp_drawT (fun _ => false) mixed (by decide +kernel) ?_; simp [-cellOK, a3, a4, a5, a8, a12, a13, a14, a16, a17, a18, m3, m4, m5, m8, m12, m14, nw2_cells, nw_fold, qy_cells, qy_fold, tk_cells, tk_fold, g0, x1, x2, z1, z3, z4, z5]) | (refine guarded_split ?_ ?_ <;> (intro hg; simp only [hg]; simp [-cellOK, a3, a4, a5, a8, a12, a13, a14, a16, a17, a18, m3, m4, m5, m8, m12, m14, nw2_cells, nw_fold, qy_cells, qy_fold, tk_cells, tk_fold, g0, x1, x2, z1, z3, z4, z5])) | (apply awp_cond_t; focus (simp [-cellOK, a3, a4, a5, a8, a12, a13, a14, a16, a17, a18, m3, m4, m5, m8, m12, m14, nw2_cells, nw_fold, qy_cells, qy_fold, tk_cells, tk_fold, g0, x1, x2, z1, z3, z4, z5]; done)) | (apply awp_cond_f; focus (simp [-cellOK, a3, a4, a5, a8, a12, a13, a14, a16, a17, a18, m3, m4, m5, m8, m12, m14, nw2_cells, nw_fold, qy_cells, qy_fold, tk_cells, tk_fold, g0, x1, x2, z1, z3, z4, z5]; done)) | (refine awp_cond ?_; simp [-cellOK, a3, a4, a5, a8, a12, a13, a14, a16, a17, a18, m3, m4, m5, m8, m12, m14, nw2_cells, nw_fold, qy_cells, qy_fold, tk_cells, tk_fold, g0, x1, x2, z1, z3, z4, z5]; refine ⟨?_, ?_⟩ <;> intro hc) | (refine awp_drawT isCallO mixed (by decide +kernel) ?_; simp [-cellOK, a3, a4, a5, a8, a12, a13, a14, a16, a17, a18, m3, m4, m5, m8, m12, m14, nw2_cells, nw_fold, qy_cells, qy_fold, tk_cells, tk_fold, g0, x1, x2, z1, z3, z4, z5]) | (refine PCalls.use (hbk) ?_; simp [-cellOK, a3, a4, a5, a8, a12, a13, a14, a16, a17, a18, m3, m4, m5, m8, m12, m14, nw2_cells, nw_fold, qy_cells, qy_fold, tk_cells, tk_fold, g0, x1, x2, z1, z3, z4, z5]) | (refine Or.inl ⟨_, Or.inl (hbk), ?_⟩; simp [-cellOK, a3, a4, a5, a8, a12, a13, a14, a16, a17, a18, m3, m4, m5, m8, m12, m14, nw2_cells, nw_fold, qy_cells, qy_fold, tk_cells, tk_fold, g0, x1, x2, z1, z3, z4, z5]) | (refine PCalls.use (hal) ?_; simp [-cellOK, a3, a4, a5, a8, a12, a13, a14, a16, a17, a18, m3, m4, m5, m8, m12, m14, nw2_cells, nw_fold, qy_cells, qy_fold, tk_cells, tk_fold, g0, x1, x2, z1, z3, z4, z5]) | (refine Or.inl ⟨_, Or.inl (hal), ?_⟩; simp [-cellOK, a3, a4, a5, a8, a12, a13, a14, a16, a17, a18, m3, m4, m5, m8, m12, m14, nw2_cells, nw_fold, qy_cells, qy_fold, tk_cells, tk_fold, g0, x1, x2, z1, z3, z4, z5]) | fail)
        · (try (first | (with_reducible refine dops_go ?_; simp [-cellOK, a3, a4, a5, a8, a12, a13, a14, a16, a17, a18, m3, m4, m5, m8, m12, m14, nw2_cells, nw_fold, qy_cells, qy_fold, tk_cells, tk_fold, g0]) | (with_reducible refine OKv_go ?_; simp [-cellOK, a3, a4, a5, a8, a12, a13, a14, a16, a17, a18, m3, m4, m5, m8, m12, m14, nw2_cells, nw_fold, qy_cells, qy_fold, tk_cells, tk_fold, g0]) | (with_reducible refine OKr_go ?_; simp [-cellOK, a3, a4, a5, a8, a12, a13, a14, a16, a17, a18, m3, m4, m5, m8, m12, m14, nw2_cells, nw_fold, qy_cells, qy_fold, tk_cells, tk_fold, g0]))); repeat' (first | refine awp_seq ?_ | refine awp_block ?_ | (refine awp_skip ?_; try simp) | (refine awp_exit ?_; try simp) | (refine awp_ret ?_; try simp) | (refine retP_same (by simp) ?_; simp) | (refine retP_no (by simp) (by simp [noIds]) (by repeat (first | assumption | exact Ext.refl _ | refine ext_new' ?_ | refine Ext.setF ?_ (by first | assumption | (simp [new_nx', St.set, fresh_none]; done) | exact ext_fresh (by assumption)))) ?_; simp [-cellOK, a3, a4, a5, a8, a12, a13, a14, a16, a17, a18, m3, m4, m5, m8, m12, m14, nw2_cells, nw_fold, qy_cells, qy_fold, tk_cells, tk_fold, g0, new_m, set_m, new_nx']) | (refine awp_reg ?_; simp [-cellOK, a3, a4, a5, a8, a12, a13, a14, a16, a17, a18, m3, m4, m5, m8, m12, m14, nw2_cells, nw_fold, qy_cells, qy_fold, tk_cells, tk_fold, g0]) | (refine awp_drawT (fun _ => false) mixed (by decide +kernel) ?_; simp [-cellOK, a3, a4, a5, a8, a12, a13, a14, a16, a17, a18, m3, m4, m5, m8, m12, m14, nw2_cells, nw_fold, qy_cells, qy_fold, tk_cells, tk_fold, g0]) | (refine guarded_split ?_ ?_ <;> (intro hg; simp only [hg]; simp [-cellOK, a3, a4, a5, a8, a12, a13, a14, a16, a17, a18, m3, m4, m5, m8, m12, m14, nw2_cells, nw_fold, qy_cells, qy_fold, tk_cells, tk_fold, g0])) | (apply awp_cond_t; focus (simp [-cellOK, a3, a4, a5, a8, a12, a13, a14, a16, a17, a18, m3, m4, m5, m8, m12, m14, nw2_cells, nw_fold, qy_cells, qy_fold, tk_cells, tk_fold, g0]; done)) | (apply awp_cond_f; focus (simp [-cellOK, a3, a4, a5, a8, a12, a13, a14, a16, a17, a18, m3, m4, m5, m8, m12, m14, nw2_cells, nw_fold, qy_cells, qy_fold, tk_cells, tk_fold, g0]; done)) | (refine awp_cond ?_; simp [-cellOK, a3, a4, a5, a8, a12, a13, a14, a16, a17, a18, m3, m4, m5, m8, m12, m14, nw2_cells, nw_fold, qy_cells, qy_fold, tk_cells, tk_fold, g0]; refine ⟨?_, ?_⟩ <;> intro hc) | (refine awp_drawT isCallO mixed (by decide +kernel) ?_; simp [-cellOK, a3, a4, a5, a8, a12, a13, a14, a16, a17, a18, m3, m4, m5, m8, m12, m14, nw2_cells, nw_fold, qy_cells, qy_fold, tk_cells, tk_fold, g0]) | (refine PCalls.use (hal) ?_; simp [-cellOK, a3, a4, a5, a8, a12, a13, a14, a16, a17, a18, m3, m4, m5, m8, m12, m14, nw2_cells, nw_fold, qy_cells, qy_fold, tk_cells, tk_fold, g0]) | (refine Or.inl ⟨_, Or.inl (hal), ?_⟩; simp [-cellOK, a3, a4, a5, a8, a12, a13, a14, a16, a17, a18, m3, m4, m5, m8, m12, m14, nw2_cells, nw_fold, qy_cells, qy_fold, tk_cells, tk_fold, g0]) | fail)
  · generalize (runQ n m q).2 = e at h1 he
    generalize (runQ n m q).1 = v at h1
    (try (first | (with_reducible refine dops_go ?_; simp [-cellOK, nw2_cells, nw2_fold, nw_fold, qy_cells, qy_fold, vd_cells, vd_fold, vd0_fold, vd0_put, new_m, set_m, new_nx', he]) | (with_reducible refine OKv_go ?_; simp [-cellOK, nw2_cells, nw2_fold, nw_fold, qy_cells, qy_fold, vd_cells, vd_fold, vd0_fold, vd0_put, new_m, set_m, new_nx', he]) | (with_reducible refine OKr_go ?_; simp [-cellOK, nw2_cells, nw2_fold, nw_fold, qy_cells, qy_fold, vd_cells, vd_fold, vd0_fold, vd0_put, new_m, set_m, new_nx', he]))); repeat' (first | refine awp_seq ?_ | refine awp_block ?_ | (refine awp_skip ?_; try simp) | (refine awp_exit ?_; try simp) | (refine awp_ret ?_; try simp) | (refine retP_same (by simp) ?_; simp) | (refine retP_no (by simp) (by simp [noIds]) (by repeat (first | assumption | exact Ext.refl _ | refine ext_new' ?_ | refine Ext.setF ?_ (by first | assumption | (simp [new_nx', St.set, fresh_none]; done) | exact ext_fresh (by assumption)))) ?_; simp [-cellOK, nw2_cells, nw2_fold, nw_fold, qy_cells, qy_fold, vd_cells, vd_fold, vd0_fold, vd0_put, new_m, set_m, new_nx', he, new_m, set_m, new_nx']) | (refine awp_reg ?_; simp [-cellOK, nw2_cells, nw2_fold, nw_fold, qy_cells, qy_fold, vd_cells, vd_fold, vd0_fold, vd0_put, new_m, set_m, new_nx', he]) | (refine awp_drawT (fun _ => false) mixed (by decide +kernel) ?_; simp [-cellOK, nw2_cells, nw2_fold, nw_fold, qy_cells, qy_fold, vd_cells, vd_fold, vd0_fold, vd0_put, new_m, set_m, new_nx', he]) | (refine guarded_split ?_ ?_ <;> (intro hg; simp only [hg]; simp [-cellOK, nw2_cells, nw2_fold, nw_fold, qy_cells, qy_fold, vd_cells, vd_fold, vd0_fold, vd0_put, new_m, set_m, new_nx', he])) | (apply awp_cond_t; focus (simp [-cellOK, nw2_cells, nw2_fold, nw_fold, qy_cells, qy_fold, vd_cells, vd_fold, vd0_fold, vd0_put, new_m, set_m, new_nx', he]; done)) | (apply awp_cond_f; focus (simp [-cellOK, nw2_cells, nw2_fold, nw_fold, qy_cells, qy_fold, vd_cells, vd_fold, vd0_fold, vd0_put, new_m, set_m, new_nx', he]; done)) | (refine awp_cond ?_; simp [-cellOK, nw2_cells, nw2_fold, nw_fold, qy_cells, qy_fold, vd_cells, vd_fold, vd0_fold, vd0_put, new_m, set_m, new_nx', he]; refine ⟨?_, ?_⟩ <;> intro hc) | (refine awp_drawT isCallO mixed (by decide +kernel) ?_; simp [-cellOK, nw2_cells, nw2_fold, nw_fold, qy_cells, qy_fold, vd_cells, vd_fold, vd0_fold, vd0_put, new_m, set_m, new_nx', he]) | (refine PCalls.use (hfit) ?_; simp [-cellOK, nw2_cells, nw2_fold, nw_fold, qy_cells, qy_fold, vd_cells, vd_fold, vd0_fold, vd0_put, new_m, set_m, new_nx', he]) | (refine Or.inl ⟨_, Or.inl (hfit), ?_⟩; simp [-cellOK, nw2_cells, nw2_fold, nw_fold, qy_cells, qy_fold, vd_cells, vd_fold, vd0_fold, vd0_put, new_m, set_m, new_nx', he]) | (refine PCalls.use (h1) ?_; simp [-cellOK, nw2_cells, nw2_fold, nw_fold, qy_cells, qy_fold, vd_cells, vd_fold, vd0_fold, vd0_put, new_m, set_m, new_nx', he]) | (refine Or.inl ⟨_, Or.inl (h1), ?_⟩; simp [-cellOK, nw2_cells, nw2_fold, nw_fold, qy_cells, qy_fold, vd_cells, vd_fold, vd0_fold, vd0_put, new_m, set_m, new_nx', he]) | (refine PCalls.use (hal) ?_; simp [-cellOK, nw2_cells, nw2_fold, nw_fold, qy_cells, qy_fold, vd_cells, vd_fold, vd0_fold, vd0_put, new_m, set_m, new_nx', he]) | (refine Or.inl ⟨_, Or.inl (hal), ?_⟩; simp [-cellOK, nw2_cells, nw2_fold, nw_fold, qy_cells, qy_fold, vd_cells, vd_fold, vd0_fold, vd0_put, new_m, set_m, new_nx', he]) | fail)
end Go.Proofs.Ytanimmdlgmkmkaa.Av

