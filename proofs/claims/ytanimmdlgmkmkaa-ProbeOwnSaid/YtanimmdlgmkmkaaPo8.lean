/- Probe: ProbeOwn Part 8 of 15: AvT3, AvT4, AvT5, AvT6, AvT7, AvT8, AvN25, AvT9, AvT10, AvN26, AvN27. -/
import Derived.Test.YtanimmdlgmkmkaaPo7

/- Trees: the turning of a node; a tree's top, length, values. -/
namespace Go.Proofs.Ytanimmdlgmkmkaa.Av
open Go
set_option linter.unusedSimpArgs false
set_option linter.unusedVariables false
set_option maxRecDepth 100000
set_option maxHeartbeats 4000000
set_option pp.maxSteps 600

theorem even_calls (l : Tr) (k v : Int) (r : Tr) (h : l.sz + r.sz < 2 ^ 50) : PCalls Try.prog 144 [l.av, prAV k v, r.av] (Tr.even l k v r).av := by
  have z1 := l.ht_nn
  have z2 := r.ht_nn
  have z3 := l.sz_nn
  have z4 := r.sz_nn
  have z5 := l.ht_le
  have z6 := r.ht_le
  have w1 : IntKind.i64.wrap (r.ht + 1) = r.ht + 1 := wrap64 (by omega) (by omega)
  have w2 : IntKind.i64.wrap (l.ht + 1) = l.ht + 1 := wrap64 (by omega) (by omega)
  have hl := high_calls l
  have hr := high_calls r
  by_cases h1 : r.ht + 1 < l.ht
  · cases l with
    | nil => simp only [Tr.ht] at h1; omega
    | node ll lk lv lr =>
      have y1 := ll.sz_nn
      have y2 := lr.sz_nn
      have y3 := ll.ht_nn
      have y4 := lr.ht_nn
      have hz : (Tr.node ll lk lv lr).sz = 1 + ll.sz + lr.sz := rfl
      have g1 := high_calls ll
      have g2 := high_calls lr
      rw [av_node] at hl ⊢
      obtain ⟨H, hH⟩ : ∃ H, (Tr.node ll lk lv lr).ht = H := ⟨_, rfl⟩
      obtain ⟨Z, hZ⟩ : ∃ Z, (Tr.node ll lk lv lr).sz = Z := ⟨_, rfl⟩
      by_cases h2 : lr.ht ≤ ll.ht
      · have m1 := made_calls lr k v r (by omega)
        have m2 := made_calls ll lk lv (.node lr k v r) (by simp only [Tr.sz]; omega)
        have e : Tr.even (.node ll lk lv lr) k v r = .node ll lk lv (.node lr k v r) := by simp only [Tr.even, if_pos h1, if_pos h2]
        rw [e]
        rw [hH] at h1 hl w2 ⊢
        rw [hZ] at hl
        refine pbody Try.func144 rfl (N := 139) rfl rfl (by simp) (by simp [noIds]) fun σ => ?_
        rw [hZ]
        generalize Tr.node ll lk lv (.node lr k v r) = T at m2 ⊢
        generalize Tr.node lr k v r = U at m1 m2
        (try ((first | with_reducible refine dops_go ?_ | with_reducible refine OKv_go ?_ | with_reducible refine OKr_go ?_); simp [-cellOK, pr_cells, pr_fold, h1, h2, w1, w2])); repeat' (first | refine awp_seq ?_ | refine awp_block ?_ | (refine awp_skip ?_; try simp) | (refine awp_exit ?_; try simp) | (refine awp_ret ?_; try simp) | (refine retP_same (by simp) ?_; simp) | (refine retP_no (by simp) (by simp [noIds]) (by repeat (first | assumption | exact Ext.refl _ | refine ext_new' ?_ | refine Ext.setF ?_ (by first | assumption | (simp [new_nx', St.set, fresh_none]; done) | exact ext_fresh (by assumption)))) ?_; simp [-cellOK, pr_cells, pr_fold, h1, h2, w1, w2, new_m, set_m, new_nx']) | ((first | refine awp_reg ?_ | refine awp_drawT (fun _ => false) mixed (by decide +kernel) ?_ | refine awp_drawT isCallO mixed (by decide +kernel) ?_ | refine PCalls.use (hl) ?_ | refine Or.inl ⟨_, Or.inl (hl), ?_⟩ | refine PCalls.use (hr) ?_ | refine Or.inl ⟨_, Or.inl (hr), ?_⟩ | refine PCalls.use (g1) ?_ | refine Or.inl ⟨_, Or.inl (g1), ?_⟩ | refine PCalls.use (g2) ?_ | refine Or.inl ⟨_, Or.inl (g2), ?_⟩ | refine PCalls.use (m1) ?_ | refine Or.inl ⟨_, Or.inl (m1), ?_⟩ | refine PCalls.use (m2) ?_ | refine Or.inl ⟨_, Or.inl (m2), ?_⟩); simp [-cellOK, pr_cells, pr_fold, h1, h2, w1, w2]) | (refine guarded_split ?_ ?_ <;> (intro hg; simp only [hg]; simp [-cellOK, pr_cells, pr_fold, h1, h2, w1, w2])) | (apply awp_cond_t; focus (simp [-cellOK, pr_cells, pr_fold, h1, h2, w1, w2]; done)) | (apply awp_cond_f; focus (simp [-cellOK, pr_cells, pr_fold, h1, h2, w1, w2]; done)) | (refine awp_cond ?_; simp [-cellOK, pr_cells, pr_fold, h1, h2, w1, w2]; refine ⟨?_, ?_⟩ <;> intro hc) | fail)
      · cases lr with
        | nil => simp only [Tr.ht] at h2; omega
        | node a mk mv b =>
          have x1 := a.sz_nn
          have x2 := b.sz_nn
          have hz2 : (Tr.node a mk mv b).sz = 1 + a.sz + b.sz := rfl
          have m1 := made_calls ll lk lv a (by omega)
          have m2 := made_calls b k v r (by omega)
          have m3 := made_calls (.node ll lk lv a) mk mv (.node b k v r) (by simp only [Tr.sz]; omega)
          have e : Tr.even (.node ll lk lv (.node a mk mv b)) k v r = .node (.node ll lk lv a) mk mv (.node b k v r) := by simp only [Tr.even, if_pos h1, if_neg h2]
          rw [e]
          have hm := av_node a mk mv b
          obtain ⟨H2, hH2⟩ : ∃ H, (Tr.node a mk mv b).ht = H := ⟨_, rfl⟩
          obtain ⟨Z2, hZ2⟩ : ∃ Z, (Tr.node a mk mv b).sz = Z := ⟨_, rfl⟩
          rw [hH, hZ] at hl ⊢
          rw [hH] at h1 w2
          rw [hH2] at h2
          rw [hH2, hZ2] at hm
          rw [hH2, hm] at g2
          rw [hm] at hl ⊢
          refine pbody Try.func144 rfl (N := 139) rfl rfl (by simp) (by simp [noIds]) fun σ => ?_
          generalize Tr.node (.node ll lk lv a) mk mv (.node b k v r) = T at m3 ⊢
          generalize Tr.node ll lk lv a = U at m1 m3
          generalize Tr.node b k v r = V at m2 m3
          (try ((first | with_reducible refine dops_go ?_ | with_reducible refine OKv_go ?_ | with_reducible refine OKr_go ?_); simp [-cellOK, pr_cells, pr_fold, h1, h2, w1, w2])); repeat' (first | refine awp_seq ?_ | refine awp_block ?_ | (refine awp_skip ?_; try simp) | (refine awp_exit ?_; try simp) | (refine awp_ret ?_; try simp) | (refine retP_same (by simp) ?_; simp) | (refine retP_no (by simp) (by simp [noIds]) (by repeat (first | assumption | exact Ext.refl _ | refine ext_new' ?_ | refine Ext.setF ?_ (by first | assumption | (simp [new_nx', St.set, fresh_none]; done) | exact ext_fresh (by assumption)))) ?_; simp [-cellOK, pr_cells, pr_fold, h1, h2, w1, w2, new_m, set_m, new_nx']) | ((first | refine awp_reg ?_ | refine awp_drawT (fun _ => false) mixed (by decide +kernel) ?_ | refine awp_drawT isCallO mixed (by decide +kernel) ?_ | refine PCalls.use (hl) ?_ | refine Or.inl ⟨_, Or.inl (hl), ?_⟩ | refine PCalls.use (hr) ?_ | refine Or.inl ⟨_, Or.inl (hr), ?_⟩ | refine PCalls.use (g1) ?_ | refine Or.inl ⟨_, Or.inl (g1), ?_⟩ | refine PCalls.use (g2) ?_ | refine Or.inl ⟨_, Or.inl (g2), ?_⟩ | refine PCalls.use (m1) ?_ | refine Or.inl ⟨_, Or.inl (m1), ?_⟩ | refine PCalls.use (m2) ?_ | refine Or.inl ⟨_, Or.inl (m2), ?_⟩ | refine PCalls.use (m3) ?_ | refine Or.inl ⟨_, Or.inl (m3), ?_⟩); simp [-cellOK, pr_cells, pr_fold, h1, h2, w1, w2]) | (refine guarded_split ?_ ?_ <;> (intro hg; simp only [hg]; simp [-cellOK, pr_cells, pr_fold, h1, h2, w1, w2])) | (apply awp_cond_t; focus (simp [-cellOK, pr_cells, pr_fold, h1, h2, w1, w2]; done)) | (apply awp_cond_f; focus (simp [-cellOK, pr_cells, pr_fold, h1, h2, w1, w2]; done)) | (refine awp_cond ?_; simp [-cellOK, pr_cells, pr_fold, h1, h2, w1, w2]; refine ⟨?_, ?_⟩ <;> intro hc) | fail)
  · by_cases h3 : l.ht + 1 < r.ht
    · cases r with
      | nil => simp only [Tr.ht] at h3; omega
      | node rl rk rv rr =>
        have y1 := rl.sz_nn
        have y2 := rr.sz_nn
        have y3 := rl.ht_nn
        have y4 := rr.ht_nn
        have hz : (Tr.node rl rk rv rr).sz = 1 + rl.sz + rr.sz := rfl
        have g1 := high_calls rl
        have g2 := high_calls rr
        rw [av_node] at hr ⊢
        obtain ⟨H, hH⟩ : ∃ H, (Tr.node rl rk rv rr).ht = H := ⟨_, rfl⟩
        obtain ⟨Z, hZ⟩ : ∃ Z, (Tr.node rl rk rv rr).sz = Z := ⟨_, rfl⟩
        by_cases h2 : rl.ht ≤ rr.ht
        · have m1 := made_calls l k v rl (by omega)
          have m2 := made_calls (.node l k v rl) rk rv rr (by simp only [Tr.sz]; omega)
          have e : Tr.even l k v (.node rl rk rv rr) = .node (.node l k v rl) rk rv rr := by simp only [Tr.even, if_neg h1, if_pos h3, if_pos h2]
          rw [e]
          rw [hH] at h1 h3 w1
          rw [hH, hZ] at hr ⊢
          refine pbody Try.func144 rfl (N := 139) rfl rfl (by simp) (by simp [noIds]) fun σ => ?_
          generalize Tr.node (.node l k v rl) rk rv rr = T at m2 ⊢
          generalize Tr.node l k v rl = U at m1 m2
          (try ((first | with_reducible refine dops_go ?_ | with_reducible refine OKv_go ?_ | with_reducible refine OKr_go ?_); simp [-cellOK, pr_cells, pr_fold, h1, h2, h3, w1, w2])); repeat' (first | refine awp_seq ?_ | refine awp_block ?_ | (refine awp_skip ?_; try simp) | (refine awp_exit ?_; try simp) | (refine awp_ret ?_; try simp) | (refine retP_same (by simp) ?_; simp) | (refine retP_no (by simp) (by simp [noIds]) (by repeat (first | assumption | exact Ext.refl _ | refine ext_new' ?_ | refine Ext.setF ?_ (by first | assumption | (simp [new_nx', St.set, fresh_none]; done) | exact ext_fresh (by assumption)))) ?_; simp [-cellOK, pr_cells, pr_fold, h1, h2, h3, w1, w2, new_m, set_m, new_nx']) | ((first | refine awp_reg ?_ | refine awp_drawT (fun _ => false) mixed (by decide +kernel) ?_ | refine awp_drawT isCallO mixed (by decide +kernel) ?_ | refine PCalls.use (hl) ?_ | refine Or.inl ⟨_, Or.inl (hl), ?_⟩ | refine PCalls.use (hr) ?_ | refine Or.inl ⟨_, Or.inl (hr), ?_⟩ | refine PCalls.use (g1) ?_ | refine Or.inl ⟨_, Or.inl (g1), ?_⟩ | refine PCalls.use (g2) ?_ | refine Or.inl ⟨_, Or.inl (g2), ?_⟩ | refine PCalls.use (m1) ?_ | refine Or.inl ⟨_, Or.inl (m1), ?_⟩ | refine PCalls.use (m2) ?_ | refine Or.inl ⟨_, Or.inl (m2), ?_⟩); simp [-cellOK, pr_cells, pr_fold, h1, h2, h3, w1, w2]) | (refine guarded_split ?_ ?_ <;> (intro hg; simp only [hg]; simp [-cellOK, pr_cells, pr_fold, h1, h2, h3, w1, w2])) | (apply awp_cond_t; focus (simp [-cellOK, pr_cells, pr_fold, h1, h2, h3, w1, w2]; done)) | (apply awp_cond_f; focus (simp [-cellOK, pr_cells, pr_fold, h1, h2, h3, w1, w2]; done)) | (refine awp_cond ?_; simp [-cellOK, pr_cells, pr_fold, h1, h2, h3, w1, w2]; refine ⟨?_, ?_⟩ <;> intro hc) | fail)
        · cases rl with
          | nil => simp only [Tr.ht] at h2; omega
          | node a mk mv b =>
            have x1 := a.sz_nn
            have x2 := b.sz_nn
            have hz2 : (Tr.node a mk mv b).sz = 1 + a.sz + b.sz := rfl
            have m1 := made_calls l k v a (by omega)
            have m2 := made_calls b rk rv rr (by omega)
            have m3 := made_calls (.node l k v a) mk mv (.node b rk rv rr) (by simp only [Tr.sz]; omega)
            have e : Tr.even l k v (.node (.node a mk mv b) rk rv rr) = .node (.node l k v a) mk mv (.node b rk rv rr) := by simp only [Tr.even, if_neg h1, if_pos h3, if_neg h2]
            rw [e]
            have hm := av_node a mk mv b
            obtain ⟨H2, hH2⟩ : ∃ H, (Tr.node a mk mv b).ht = H := ⟨_, rfl⟩
            obtain ⟨Z2, hZ2⟩ : ∃ Z, (Tr.node a mk mv b).sz = Z := ⟨_, rfl⟩
            rw [hH, hZ] at hr ⊢
            rw [hH] at h1 h3 w1
            rw [hH2] at h2
            rw [hH2, hZ2] at hm
            rw [hH2, hm] at g1
            rw [hm] at hr ⊢
            refine pbody Try.func144 rfl (N := 139) rfl rfl (by simp) (by simp [noIds]) fun σ => ?_
            generalize Tr.node (.node l k v a) mk mv (.node b rk rv rr) = T at m3 ⊢
            generalize Tr.node l k v a = U at m1 m3
            generalize Tr.node b rk rv rr = V at m2 m3
            (try ((first | with_reducible refine dops_go ?_ | with_reducible refine OKv_go ?_ | with_reducible refine OKr_go ?_); simp [-cellOK, pr_cells, pr_fold, h1, h2, h3, w1, w2])); repeat' (first | refine awp_seq ?_ | refine awp_block ?_ | (refine awp_skip ?_; try simp) | (refine awp_exit ?_; try simp) | (refine awp_ret ?_; try simp) | (refine retP_same (by simp) ?_; simp) | (refine retP_no (by simp) (by simp [noIds]) (by repeat (first | assumption | exact Ext.refl _ | refine ext_new' ?_ | refine Ext.setF ?_ (by first | assumption | (simp [new_nx', St.set, fresh_none]; done) | exact ext_fresh (by assumption)))) ?_; simp [-cellOK, pr_cells, pr_fold, h1, h2, h3, w1, w2, new_m, set_m, new_nx']) | ((first | refine awp_reg ?_ | refine awp_drawT (fun _ => false) mixed (by decide +kernel) ?_ | refine awp_drawT isCallO mixed (by decide +kernel) ?_ | refine PCalls.use (hl) ?_ | refine Or.inl ⟨_, Or.inl (hl), ?_⟩ | refine PCalls.use (hr) ?_ | refine Or.inl ⟨_, Or.inl (hr), ?_⟩ | refine PCalls.use (g1) ?_ | refine Or.inl ⟨_, Or.inl (g1), ?_⟩ | refine PCalls.use (g2) ?_ | refine Or.inl ⟨_, Or.inl (g2), ?_⟩ | refine PCalls.use (m1) ?_ | refine Or.inl ⟨_, Or.inl (m1), ?_⟩ | refine PCalls.use (m2) ?_ | refine Or.inl ⟨_, Or.inl (m2), ?_⟩ | refine PCalls.use (m3) ?_ | refine Or.inl ⟨_, Or.inl (m3), ?_⟩); simp [-cellOK, pr_cells, pr_fold, h1, h2, h3, w1, w2]) | (refine guarded_split ?_ ?_ <;> (intro hg; simp only [hg]; simp [-cellOK, pr_cells, pr_fold, h1, h2, h3, w1, w2])) | (apply awp_cond_t; focus (simp [-cellOK, pr_cells, pr_fold, h1, h2, h3, w1, w2]; done)) | (apply awp_cond_f; focus (simp [-cellOK, pr_cells, pr_fold, h1, h2, h3, w1, w2]; done)) | (refine awp_cond ?_; simp [-cellOK, pr_cells, pr_fold, h1, h2, h3, w1, w2]; refine ⟨?_, ?_⟩ <;> intro hc) | fail)
    · have m1 := made_calls l k v r (by omega)
      have e : Tr.even l k v r = .node l k v r := by simp only [Tr.even, if_neg h1, if_neg h3]
      rw [e]
      refine pbody Try.func144 rfl (N := 139) rfl rfl (by simp) (by simp [noIds]) fun σ => ?_
      generalize Tr.node l k v r = T at m1 ⊢
      (try ((first | with_reducible refine dops_go ?_ | with_reducible refine OKv_go ?_ | with_reducible refine OKr_go ?_); simp [-cellOK, pr_cells, pr_fold, h1, h3, w1, w2])); repeat' (first | refine awp_seq ?_ | refine awp_block ?_ | (refine awp_skip ?_; try simp) | (refine awp_exit ?_; try simp) | (refine awp_ret ?_; try simp) | (refine retP_same (by simp) ?_; simp) | (refine retP_no (by simp) (by simp [noIds]) (by repeat (first | assumption | exact Ext.refl _ | refine ext_new' ?_ | refine Ext.setF ?_ (by first | assumption | (simp [new_nx', St.set, fresh_none]; done) | exact ext_fresh (by assumption)))) ?_; simp [-cellOK, pr_cells, pr_fold, h1, h3, w1, w2, new_m, set_m, new_nx']) | ((first | refine awp_reg ?_ | refine awp_drawT (fun _ => false) mixed (by decide +kernel) ?_ | refine awp_drawT isCallO mixed (by decide +kernel) ?_ | refine PCalls.use (hl) ?_ | refine Or.inl ⟨_, Or.inl (hl), ?_⟩ | refine PCalls.use (hr) ?_ | refine Or.inl ⟨_, Or.inl (hr), ?_⟩ | refine PCalls.use (m1) ?_ | refine Or.inl ⟨_, Or.inl (m1), ?_⟩); simp [-cellOK, pr_cells, pr_fold, h1, h3, w1, w2]) | (refine guarded_split ?_ ?_ <;> (intro hg; simp only [hg]; simp [-cellOK, pr_cells, pr_fold, h1, h3, w1, w2])) | (apply awp_cond_t; focus (simp [-cellOK, pr_cells, pr_fold, h1, h3, w1, w2]; done)) | (apply awp_cond_f; focus (simp [-cellOK, pr_cells, pr_fold, h1, h3, w1, w2]; done)) | (refine awp_cond ?_; simp [-cellOK, pr_cells, pr_fold, h1, h3, w1, w2]; refine ⟨?_, ?_⟩ <;> intro hc) | fail)

/-- A tree's pointer. -/
def trP (t : Tr) : AV := .pp [t.av] 0
@[simp] theorem trP_ids (K : Id → Prop) (t : Tr) : (trP t).ids K := by simp [trP, AV.ids]
@[simp] theorem trP_cells (t : Tr) : (trP t).cells = [trP t] := rfl
@[simp] theorem trP_ok (t : Tr) : cellOK (trP t) = true := rfl
@[simp] theorem trP_flat1 (t : Tr) : (trP t).flat1 = true := rfl
@[simp] theorem trP_giveUp (m m' : Mem) (t : Tr) : giveUp m' m (trP t) = trP t := rfl
theorem top_calls (t : Tr) : PCalls Try.prog 122 [trP t] t.av := by
  refine pbody Try.func122 rfl (N := 9) rfl rfl (by simp) (by simp [noIds]) fun σ => ?_
  (try ((first | with_reducible refine dops_go ?_ | with_reducible refine OKv_go ?_ | with_reducible refine OKr_go ?_); simp [-cellOK, trP])); repeat' (first | refine awp_seq ?_ | refine awp_block ?_ | (refine awp_skip ?_; try simp) | (refine awp_exit ?_; try simp) | (refine awp_ret ?_; try simp) | (refine retP_same (by simp) ?_; simp) | (refine retP_no (by simp) (by simp [noIds]) (by repeat (first | assumption | exact Ext.refl _ | refine ext_new' ?_ | refine Ext.setF ?_ (by first | assumption | (simp [new_nx', St.set, fresh_none]; done) | exact ext_fresh (by assumption)))) ?_; simp [-cellOK, trP, new_m, set_m, new_nx']) | ((first | refine awp_reg ?_ | refine awp_drawT (fun _ => false) mixed (by decide +kernel) ?_ | refine awp_drawT isCallO mixed (by decide +kernel) ?_); simp [-cellOK, trP]) | (refine guarded_split ?_ ?_ <;> (intro hg; simp only [hg]; simp [-cellOK, trP])) | (apply awp_cond_t; focus (simp [-cellOK, trP]; done)) | (apply awp_cond_f; focus (simp [-cellOK, trP]; done)) | (refine awp_cond ?_; simp [-cellOK, trP]; refine ⟨?_, ?_⟩ <;> intro hc) | fail)
theorem trLen_calls (t : Tr) : PCalls Try.prog 93 [trP t] (.raw (.int .i64 t.sz)) := by
  refine pbody Try.func93 rfl (N := 6) rfl rfl (by simp) (by simp [noIds]) fun σ => ?_
  (try ((first | with_reducible refine dops_go ?_ | with_reducible refine OKv_go ?_ | with_reducible refine OKr_go ?_); simp [-cellOK])); repeat' (first | refine awp_seq ?_ | refine awp_block ?_ | (refine awp_skip ?_; try simp) | (refine awp_exit ?_; try simp) | (refine awp_ret ?_; try simp) | (refine retP_same (by simp) ?_; simp) | (refine retP_no (by simp) (by simp [noIds]) (by repeat (first | assumption | exact Ext.refl _ | refine ext_new' ?_ | refine Ext.setF ?_ (by first | assumption | (simp [new_nx', St.set, fresh_none]; done) | exact ext_fresh (by assumption)))) ?_; simp [-cellOK, new_m, set_m, new_nx']) | ((first | refine awp_reg ?_ | refine awp_drawT (fun _ => false) mixed (by decide +kernel) ?_ | refine awp_drawT isCallO mixed (by decide +kernel) ?_ | refine PCalls.use (top_calls t) ?_ | refine Or.inl ⟨_, Or.inl (top_calls t), ?_⟩ | refine PCalls.use (size_calls t) ?_ | refine Or.inl ⟨_, Or.inl (size_calls t), ?_⟩); simp [-cellOK]) | (refine guarded_split ?_ ?_ <;> (intro hg; simp only [hg]; simp [-cellOK])) | (apply awp_cond_t; focus (simp [-cellOK]; done)) | (apply awp_cond_f; focus (simp [-cellOK]; done)) | (refine awp_cond ?_; simp [-cellOK]; refine ⟨?_, ?_⟩ <;> intro hc) | fail)
theorem trNew_calls : PCalls Try.prog 88 [] (trP .nil) := by
  refine pbody Try.func88 rfl (N := 3) rfl rfl (by simp) (by simp [noIds]) fun σ => ?_
  (try ((first | with_reducible refine dops_go ?_ | with_reducible refine OKv_go ?_ | with_reducible refine OKr_go ?_); simp [-cellOK])); repeat' (first | refine awp_seq ?_ | refine awp_block ?_ | (refine awp_skip ?_; try simp) | (refine awp_exit ?_; try simp) | (refine awp_ret ?_; try simp) | ((first | refine awp_reg ?_ | refine awp_drawT (fun _ => false) mixed (by decide +kernel) ?_ | refine awp_drawT isCallO mixed (by decide +kernel) ?_); simp [-cellOK]) | (refine guarded_split ?_ ?_ <;> (intro hg; simp only [hg]; simp [-cellOK])) | (apply awp_cond_t; focus (simp [-cellOK]; done)) | (apply awp_cond_f; focus (simp [-cellOK]; done)) | (refine awp_cond ?_; simp [-cellOK]; refine ⟨?_, ?_⟩ <;> intro hc) | fail)
  refine retP_give (x := .rp ⟨2, σ.nx 2, 1⟩ 0 0) (.inr rfl) (by repeat (first | assumption | exact Ext.refl _ | refine ext_new' ?_ | refine Ext.setF ?_ (by first | assumption | (simp [new_nx', St.set, fresh_none]; done) | exact ext_fresh (by assumption)))) ?_ ?_
  · simp [new_nx']
  · simp [giveUps, giveUp, fresh_none, new_m, new_nx', trP]
theorem trGet_calls (t : Tr) (k : Int) : PCalls Try.prog 121 [trP t, .raw (.int .u64 k)] (.tup [.raw (.int .i64 ((t.get k).getD 0)), .raw (.bool (t.get k).isSome)]) := by
  refine pbody Try.func121 rfl (N := 42) rfl rfl (by simp) (by simp [noIds]) fun σ => ?_
  obtain ⟨g, hg⟩ : ∃ g, t.get k = g := ⟨_, rfl⟩
  rw [hg]
  (try ((first | with_reducible refine dops_go ?_ | with_reducible refine OKv_go ?_ | with_reducible refine OKr_go ?_); simp [-cellOK])); repeat' (first | refine awp_seq ?_ | refine awp_block ?_ | (refine awp_skip ?_; try simp) | (refine awp_exit ?_; try simp) | (refine awp_ret ?_; try simp) | (refine retP_same (by simp) ?_; simp) | (refine retP_no (by simp) (by simp [noIds]) (by repeat (first | assumption | exact Ext.refl _ | refine ext_new' ?_ | refine Ext.setF ?_ (by first | assumption | (simp [new_nx', St.set, fresh_none]; done) | exact ext_fresh (by assumption)))) ?_; simp [-cellOK, new_m, set_m, new_nx']) | ((first | refine awp_reg ?_ | refine awp_drawT (fun _ => false) mixed (by decide +kernel) ?_ | refine awp_drawT isCallO mixed (by decide +kernel) ?_ | refine PCalls.use (top_calls t) ?_ | refine Or.inl ⟨_, Or.inl (top_calls t), ?_⟩); simp [-cellOK]) | (refine guarded_split ?_ ?_ <;> (intro hg; simp only [hg]; simp [-cellOK])) | (apply awp_cond_t; focus (simp [-cellOK]; done)) | (apply awp_cond_f; focus (simp [-cellOK]; done)) | (refine awp_cond ?_; simp [-cellOK]; refine ⟨?_, ?_⟩ <;> intro hc) | fail)
  refine awp_loopH (fun n A τ => τ = σ ∧ A 1 = .raw (.int .u64 k) ∧ A 6 = .raw (.int .i64 0) ∧ ∃ u : Tr, A 7 = u.av ∧ n = u.sz.toNat ∧ u.get k = g) t.sz.toNat ?_ ?_
  · exact ⟨rfl, by simp, by simp, t, by simp, rfl, hg⟩
  rintro n A τ ⟨rfl, a1, a6, u, a7, rfl, hu⟩ I1 hI1
  cases u with
  | nil =>
    have : g = none := by rw [← hu]; rfl
    subst this
    (try ((first | with_reducible refine dops_go ?_ | with_reducible refine OKv_go ?_ | with_reducible refine OKr_go ?_); simp [-cellOK, a1, a6, a7])); repeat' (first | refine awp_seq ?_ | refine awp_block ?_ | (refine awp_skip ?_; try simp) | (refine awp_exit ?_; try simp) | (refine awp_ret ?_; try simp) | (refine retP_same (by simp) ?_; simp) | (refine retP_no (by simp) (by simp [noIds]) (by repeat (first | assumption | exact Ext.refl _ | refine ext_new' ?_ | refine Ext.setF ?_ (by first | assumption | (simp [new_nx', St.set, fresh_none]; done) | exact ext_fresh (by assumption)))) ?_; simp [-cellOK, a1, a6, a7, new_m, set_m, new_nx']) | ((first | refine awp_reg ?_ | refine awp_drawT (fun _ => false) mixed (by decide +kernel) ?_ | refine awp_drawT isCallO mixed (by decide +kernel) ?_); simp [-cellOK, a1, a6, a7]) | (refine guarded_split ?_ ?_ <;> (intro hg; simp only [hg]; simp [-cellOK, a1, a6, a7])) | (apply awp_cond_t; focus (simp [-cellOK, a1, a6, a7]; done)) | (apply awp_cond_f; focus (simp [-cellOK, a1, a6, a7]; done)) | (refine awp_cond ?_; simp [-cellOK, a1, a6, a7]; refine ⟨?_, ?_⟩ <;> intro hc) | fail)
  | node l k' v' r =>
    have y1 := l.sz_nn
    have y2 := r.sz_nn
    have hz : (Tr.node l k' v' r).sz = 1 + l.sz + r.sz := rfl
    rw [av_node] at a7
    simp only [Tr.get] at hu
    by_cases h1 : k < k'
    · rw [if_pos h1] at hu
      (try ((first | with_reducible refine dops_go ?_ | with_reducible refine OKv_go ?_ | with_reducible refine OKr_go ?_); simp [-cellOK, a1, a6, a7, h1])); repeat' (first | refine awp_seq ?_ | refine awp_block ?_ | (refine awp_skip ?_; try simp) | (refine awp_exit ?_; try simp) | (refine awp_ret ?_; try simp) | (refine retP_same (by simp) ?_; simp) | (refine retP_no (by simp) (by simp [noIds]) (by repeat (first | assumption | exact Ext.refl _ | refine ext_new' ?_ | refine Ext.setF ?_ (by first | assumption | (simp [new_nx', St.set, fresh_none]; done) | exact ext_fresh (by assumption)))) ?_; simp [-cellOK, a1, a6, a7, h1, new_m, set_m, new_nx']) | ((first | refine awp_reg ?_ | refine awp_drawT (fun _ => false) mixed (by decide +kernel) ?_ | refine awp_drawT isCallO mixed (by decide +kernel) ?_); simp [-cellOK, a1, a6, a7, h1]) | (refine guarded_split ?_ ?_ <;> (intro hg; simp only [hg]; simp [-cellOK, a1, a6, a7, h1])) | (apply awp_cond_t; focus (simp [-cellOK, a1, a6, a7, h1]; done)) | (apply awp_cond_f; focus (simp [-cellOK, a1, a6, a7, h1]; done)) | (refine awp_cond ?_; simp [-cellOK, a1, a6, a7, h1]; refine ⟨?_, ?_⟩ <;> intro hc) | fail)
      exact hI1 _ _ _ (by omega) ⟨rfl, by simp [a1], by simp [a6], l, by simp, rfl, hu⟩
    · rw [if_neg h1] at hu
      by_cases h2 : k' < k
      · rw [if_pos h2] at hu
        (try ((first | with_reducible refine dops_go ?_ | with_reducible refine OKv_go ?_ | with_reducible refine OKr_go ?_); simp [-cellOK, a1, a6, a7, h1, h2])); repeat' (first | refine awp_seq ?_ | refine awp_block ?_ | (refine awp_skip ?_; try simp) | (refine awp_exit ?_; try simp) | (refine awp_ret ?_; try simp) | (refine retP_same (by simp) ?_; simp) | (refine retP_no (by simp) (by simp [noIds]) (by repeat (first | assumption | exact Ext.refl _ | refine ext_new' ?_ | refine Ext.setF ?_ (by first | assumption | (simp [new_nx', St.set, fresh_none]; done) | exact ext_fresh (by assumption)))) ?_; simp [-cellOK, a1, a6, a7, h1, h2, new_m, set_m, new_nx']) | ((first | refine awp_reg ?_ | refine awp_drawT (fun _ => false) mixed (by decide +kernel) ?_ | refine awp_drawT isCallO mixed (by decide +kernel) ?_); simp [-cellOK, a1, a6, a7, h1, h2]) | (refine guarded_split ?_ ?_ <;> (intro hg; simp only [hg]; simp [-cellOK, a1, a6, a7, h1, h2])) | (apply awp_cond_t; focus (simp [-cellOK, a1, a6, a7, h1, h2]; done)) | (apply awp_cond_f; focus (simp [-cellOK, a1, a6, a7, h1, h2]; done)) | (refine awp_cond ?_; simp [-cellOK, a1, a6, a7, h1, h2]; refine ⟨?_, ?_⟩ <;> intro hc) | fail)
        exact hI1 _ _ _ (by omega) ⟨rfl, by simp [a1], by simp [a6], r, by simp, rfl, hu⟩
      · rw [if_neg h2] at hu
        subst hu
        (try ((first | with_reducible refine dops_go ?_ | with_reducible refine OKv_go ?_ | with_reducible refine OKr_go ?_); simp [-cellOK, a1, a6, a7, h1, h2])); repeat' (first | refine awp_seq ?_ | refine awp_block ?_ | (refine awp_skip ?_; try simp) | (refine awp_exit ?_; try simp) | (refine awp_ret ?_; try simp) | (refine retP_same (by simp) ?_; simp) | (refine retP_no (by simp) (by simp [noIds]) (by repeat (first | assumption | exact Ext.refl _ | refine ext_new' ?_ | refine Ext.setF ?_ (by first | assumption | (simp [new_nx', St.set, fresh_none]; done) | exact ext_fresh (by assumption)))) ?_; simp [-cellOK, a1, a6, a7, h1, h2, new_m, set_m, new_nx']) | ((first | refine awp_reg ?_ | refine awp_drawT (fun _ => false) mixed (by decide +kernel) ?_ | refine awp_drawT isCallO mixed (by decide +kernel) ?_); simp [-cellOK, a1, a6, a7, h1, h2]) | (refine guarded_split ?_ ?_ <;> (intro hg; simp only [hg]; simp [-cellOK, a1, a6, a7, h1, h2])) | (apply awp_cond_t; focus (simp [-cellOK, a1, a6, a7, h1, h2]; done)) | (apply awp_cond_f; focus (simp [-cellOK, a1, a6, a7, h1, h2]; done)) | (refine awp_cond ?_; simp [-cellOK, a1, a6, a7, h1, h2]; refine ⟨?_, ?_⟩ <;> intro hc) | fail)
theorem Tr.with_sz (t : Tr) (k v : Int) : (t.with_ k v).sz ≤ t.sz + 1 := by
  induction t with
  | nil => simp [Tr.with_, Tr.sz]
  | node l k' v' r ihl ihr =>
    simp only [Tr.with_]
    split
    · rw [Tr.even_sz]; simp only [Tr.sz]; omega
    · split
      · rw [Tr.even_sz]; simp only [Tr.sz]; omega
      · simp only [Tr.sz]; omega
theorem trWith_calls (k v : Int) : ∀ t : Tr, t.sz < 2 ^ 48 → PCalls Try.prog 123 [t.av, prAV k v] (t.with_ k v).av
  | .nil, _ => by
    have m := made_calls .nil k v .nil (by simp [Tr.sz])
    rw [av_nil] at m
    have e : Tr.with_ .nil k v = .node .nil k v .nil := rfl
    rw [e]
    refine pbody Try.func123 rfl (N := 68) rfl rfl (by simp) (by simp [noIds]) fun σ => ?_
    generalize Tr.node .nil k v .nil = T at m ⊢
    (try ((first | with_reducible refine dops_go ?_ | with_reducible refine OKv_go ?_ | with_reducible refine OKr_go ?_); simp [-cellOK, pr_cells, pr_fold])); repeat' (first | refine awp_seq ?_ | refine awp_block ?_ | (refine awp_skip ?_; try simp) | (refine awp_exit ?_; try simp) | (refine awp_ret ?_; try simp) | (refine retP_same (by simp) ?_; simp) | (refine retP_no (by simp) (by simp [noIds]) (by repeat (first | assumption | exact Ext.refl _ | refine ext_new' ?_ | refine Ext.setF ?_ (by first | assumption | (simp [new_nx', St.set, fresh_none]; done) | exact ext_fresh (by assumption)))) ?_; simp [-cellOK, pr_cells, pr_fold, new_m, set_m, new_nx']) | ((first | refine awp_reg ?_ | refine awp_drawT (fun _ => false) mixed (by decide +kernel) ?_ | refine awp_drawT isCallO mixed (by decide +kernel) ?_ | refine PCalls.use (m) ?_ | refine Or.inl ⟨_, Or.inl (m), ?_⟩); simp [-cellOK, pr_cells, pr_fold]) | (refine guarded_split ?_ ?_ <;> (intro hg; simp only [hg]; simp [-cellOK, pr_cells, pr_fold])) | (apply awp_cond_t; focus (simp [-cellOK, pr_cells, pr_fold]; done)) | (apply awp_cond_f; focus (simp [-cellOK, pr_cells, pr_fold]; done)) | (refine awp_cond ?_; simp [-cellOK, pr_cells, pr_fold]; refine ⟨?_, ?_⟩ <;> intro hc) | fail)
  | .node l k' v' r, h => by
    have y1 := l.sz_nn
    have y2 := r.sz_nn
    have hz : (Tr.node l k' v' r).sz = 1 + l.sz + r.sz := rfl
    have q1 := l.with_sz k v
    have q2 := r.with_sz k v
    rw [av_node]
    obtain ⟨H, hH⟩ : ∃ H, (Tr.node l k' v' r).ht = H := ⟨_, rfl⟩
    obtain ⟨Z, hZ⟩ : ∃ Z, (Tr.node l k' v' r).sz = Z := ⟨_, rfl⟩
    rw [hH, hZ]
    by_cases h1 : k < k'
    · have e : Tr.with_ (.node l k' v' r) k v = Tr.even (l.with_ k v) k' v' r := by simp only [Tr.with_, if_pos h1]
      have i1 := trWith_calls k v l (by omega)
      have m := even_calls (l.with_ k v) k' v' r (by omega)
      rw [e]
      refine pbody Try.func123 rfl (N := 68) rfl rfl (by simp) (by simp [noIds]) fun σ => ?_
      generalize Tr.even (l.with_ k v) k' v' r = T at m ⊢
      generalize l.with_ k v = U at i1 m
      (try ((first | with_reducible refine dops_go ?_ | with_reducible refine OKv_go ?_ | with_reducible refine OKr_go ?_); simp [-cellOK, pr_cells, pr_fold, h1])); repeat' (first | refine awp_seq ?_ | refine awp_block ?_ | (refine awp_skip ?_; try simp) | (refine awp_exit ?_; try simp) | (refine awp_ret ?_; try simp) | (refine retP_same (by simp) ?_; simp) | (refine retP_no (by simp) (by simp [noIds]) (by repeat (first | assumption | exact Ext.refl _ | refine ext_new' ?_ | refine Ext.setF ?_ (by first | assumption | (simp [new_nx', St.set, fresh_none]; done) | exact ext_fresh (by assumption)))) ?_; simp [-cellOK, pr_cells, pr_fold, h1, new_m, set_m, new_nx']) | ((first | refine awp_reg ?_ | refine awp_drawT (fun _ => false) mixed (by decide +kernel) ?_ | refine awp_drawT isCallO mixed (by decide +kernel) ?_ | refine PCalls.use (i1) ?_ | refine Or.inl ⟨_, Or.inl (i1), ?_⟩ | refine PCalls.use (m) ?_ | refine Or.inl ⟨_, Or.inl (m), ?_⟩); simp [-cellOK, pr_cells, pr_fold, h1]) | (refine guarded_split ?_ ?_ <;> (intro hg; simp only [hg]; simp [-cellOK, pr_cells, pr_fold, h1])) | (apply awp_cond_t; focus (simp [-cellOK, pr_cells, pr_fold, h1]; done)) | (apply awp_cond_f; focus (simp [-cellOK, pr_cells, pr_fold, h1]; done)) | (refine awp_cond ?_; simp [-cellOK, pr_cells, pr_fold, h1]; refine ⟨?_, ?_⟩ <;> intro hc) | fail)
    · by_cases h2 : k' < k
      · have e : Tr.with_ (.node l k' v' r) k v = Tr.even l k' v' (r.with_ k v) := by simp only [Tr.with_, if_neg h1, if_pos h2]
        have i1 := trWith_calls k v r (by omega)
        have m := even_calls l k' v' (r.with_ k v) (by omega)
        rw [e]
        refine pbody Try.func123 rfl (N := 68) rfl rfl (by simp) (by simp [noIds]) fun σ => ?_
        generalize Tr.even l k' v' (r.with_ k v) = T at m ⊢
        generalize r.with_ k v = U at i1 m
        (try ((first | with_reducible refine dops_go ?_ | with_reducible refine OKv_go ?_ | with_reducible refine OKr_go ?_); simp [-cellOK, pr_cells, pr_fold, h1, h2])); repeat' (first | refine awp_seq ?_ | refine awp_block ?_ | (refine awp_skip ?_; try simp) | (refine awp_exit ?_; try simp) | (refine awp_ret ?_; try simp) | (refine retP_same (by simp) ?_; simp) | (refine retP_no (by simp) (by simp [noIds]) (by repeat (first | assumption | exact Ext.refl _ | refine ext_new' ?_ | refine Ext.setF ?_ (by first | assumption | (simp [new_nx', St.set, fresh_none]; done) | exact ext_fresh (by assumption)))) ?_; simp [-cellOK, pr_cells, pr_fold, h1, h2, new_m, set_m, new_nx']) | ((first | refine awp_reg ?_ | refine awp_drawT (fun _ => false) mixed (by decide +kernel) ?_ | refine awp_drawT isCallO mixed (by decide +kernel) ?_ | refine PCalls.use (i1) ?_ | refine Or.inl ⟨_, Or.inl (i1), ?_⟩ | refine PCalls.use (m) ?_ | refine Or.inl ⟨_, Or.inl (m), ?_⟩); simp [-cellOK, pr_cells, pr_fold, h1, h2]) | (refine guarded_split ?_ ?_ <;> (intro hg; simp only [hg]; simp [-cellOK, pr_cells, pr_fold, h1, h2])) | (apply awp_cond_t; focus (simp [-cellOK, pr_cells, pr_fold, h1, h2]; done)) | (apply awp_cond_f; focus (simp [-cellOK, pr_cells, pr_fold, h1, h2]; done)) | (refine awp_cond ?_; simp [-cellOK, pr_cells, pr_fold, h1, h2]; refine ⟨?_, ?_⟩ <;> intro hc) | fail)
      · have e : Tr.with_ (.node l k' v' r) k v = .node l k v r := by simp only [Tr.with_, if_neg h1, if_neg h2]
        have m := made_calls l k v r (by omega)
        rw [e]
        refine pbody Try.func123 rfl (N := 68) rfl rfl (by simp) (by simp [noIds]) fun σ => ?_
        generalize Tr.node l k v r = T at m ⊢
        (try ((first | with_reducible refine dops_go ?_ | with_reducible refine OKv_go ?_ | with_reducible refine OKr_go ?_); simp [-cellOK, pr_cells, pr_fold, h1, h2])); repeat' (first | refine awp_seq ?_ | refine awp_block ?_ | (refine awp_skip ?_; try simp) | (refine awp_exit ?_; try simp) | (refine awp_ret ?_; try simp) | (refine retP_same (by simp) ?_; simp) | (refine retP_no (by simp) (by simp [noIds]) (by repeat (first | assumption | exact Ext.refl _ | refine ext_new' ?_ | refine Ext.setF ?_ (by first | assumption | (simp [new_nx', St.set, fresh_none]; done) | exact ext_fresh (by assumption)))) ?_; simp [-cellOK, pr_cells, pr_fold, h1, h2, new_m, set_m, new_nx']) | ((first | refine awp_reg ?_ | refine awp_drawT (fun _ => false) mixed (by decide +kernel) ?_ | refine awp_drawT isCallO mixed (by decide +kernel) ?_ | refine PCalls.use (m) ?_ | refine Or.inl ⟨_, Or.inl (m), ?_⟩); simp [-cellOK, pr_cells, pr_fold, h1, h2]) | (refine guarded_split ?_ ?_ <;> (intro hg; simp only [hg]; simp [-cellOK, pr_cells, pr_fold, h1, h2])) | (apply awp_cond_t; focus (simp [-cellOK, pr_cells, pr_fold, h1, h2]; done)) | (apply awp_cond_f; focus (simp [-cellOK, pr_cells, pr_fold, h1, h2]; done)) | (refine awp_cond ?_; simp [-cellOK, pr_cells, pr_fold, h1, h2]; refine ⟨?_, ?_⟩ <;> intro hc) | fail)
theorem trPut_calls (t : Tr) (k v : Int) (h : t.sz < 2 ^ 48) (hf : t.get k = none → t.sz < 1024) : PCalls Try.prog 89 [trP t, .raw (.int .u64 k), .raw (.int .i64 v)] (.tup [trP (t.with_ k v), .raw (.int .i64 0)]) := by
  have hg := trGet_calls t k
  have hw := trWith_calls k v t h
  generalize t.with_ k v = U at hw ⊢
  refine pbody Try.func89 rfl (N := 31) rfl rfl (by simp) (by simp [noIds]) fun σ => ?_
  cases hq : t.get k with
  | none =>
    have hlt := hf hq
    have hle : ¬ (1024 : Int) ≤ t.sz := by omega
    rw [hq] at hg
    (try ((first | with_reducible refine dops_go ?_ | with_reducible refine OKv_go ?_ | with_reducible refine OKr_go ?_); simp [-cellOK, pr_fold, hle])); repeat' (first | refine awp_seq ?_ | refine awp_block ?_ | (refine awp_skip ?_; try simp) | (refine awp_exit ?_; try simp) | (refine awp_ret ?_; try simp) | ((first | refine awp_reg ?_ | refine awp_drawT (fun _ => false) mixed (by decide +kernel) ?_ | refine awp_drawT isCallO mixed (by decide +kernel) ?_ | refine PCalls.use (hg) ?_ | refine Or.inl ⟨_, Or.inl (hg), ?_⟩ | refine PCalls.use (trLen_calls t) ?_ | refine Or.inl ⟨_, Or.inl (trLen_calls t), ?_⟩ | refine PCalls.use (top_calls t) ?_ | refine Or.inl ⟨_, Or.inl (top_calls t), ?_⟩ | refine PCalls.use (hw) ?_ | refine Or.inl ⟨_, Or.inl (hw), ?_⟩); simp [-cellOK, pr_fold, hle]) | (refine guarded_split ?_ ?_ <;> (intro hg; simp only [hg]; simp [-cellOK, pr_fold, hle])) | (apply awp_cond_t; focus (simp [-cellOK, pr_fold, hle]; done)) | (apply awp_cond_f; focus (simp [-cellOK, pr_fold, hle]; done)) | (refine awp_cond ?_; simp [-cellOK, pr_fold, hle]; refine ⟨?_, ?_⟩ <;> intro hc) | fail)
    refine retP_give (x := .tup [.rp ⟨30, σ.nx 30, 1⟩ 0 0, .raw (.int .i64 0)]) (.inr rfl) (by repeat (first | assumption | exact Ext.refl _ | refine ext_new' ?_ | refine Ext.setF ?_ (by first | assumption | (simp [new_nx', St.set, fresh_none]; done) | exact ext_fresh (by assumption)))) ?_ ?_
    · simp [new_nx']
    · simp [giveUps, giveUp, fresh_none, new_m, new_nx', trP]
  | some x =>
    rw [hq] at hg
    (try ((first | with_reducible refine dops_go ?_ | with_reducible refine OKv_go ?_ | with_reducible refine OKr_go ?_); simp [-cellOK, pr_fold])); repeat' (first | refine awp_seq ?_ | refine awp_block ?_ | (refine awp_skip ?_; try simp) | (refine awp_exit ?_; try simp) | (refine awp_ret ?_; try simp) | ((first | refine awp_reg ?_ | refine awp_drawT (fun _ => false) mixed (by decide +kernel) ?_ | refine awp_drawT isCallO mixed (by decide +kernel) ?_ | refine PCalls.use (hg) ?_ | refine Or.inl ⟨_, Or.inl (hg), ?_⟩ | refine PCalls.use (trLen_calls t) ?_ | refine Or.inl ⟨_, Or.inl (trLen_calls t), ?_⟩ | refine PCalls.use (top_calls t) ?_ | refine Or.inl ⟨_, Or.inl (top_calls t), ?_⟩ | refine PCalls.use (hw) ?_ | refine Or.inl ⟨_, Or.inl (hw), ?_⟩); simp [-cellOK, pr_fold]) | (refine guarded_split ?_ ?_ <;> (intro hg; simp only [hg]; simp [-cellOK, pr_fold])) | (apply awp_cond_t; focus (simp [-cellOK, pr_fold]; done)) | (apply awp_cond_f; focus (simp [-cellOK, pr_fold]; done)) | (refine awp_cond ?_; simp [-cellOK, pr_fold]; refine ⟨?_, ?_⟩ <;> intro hc) | fail)
    refine retP_give (x := .tup [.rp ⟨30, σ.nx 30, 1⟩ 0 0, .raw (.int .i64 0)]) (.inr rfl) (by repeat (first | assumption | exact Ext.refl _ | refine ext_new' ?_ | refine Ext.setF ?_ (by first | assumption | (simp [new_nx', St.set, fresh_none]; done) | exact ext_fresh (by assumption)))) ?_ ?_
    · simp [new_nx']
    · simp [giveUps, giveUp, fresh_none, new_m, new_nx', trP]
end Go.Proofs.Ytanimmdlgmkmkaa.Av


/- Trees: the i-th pair; joining and cutting. -/
namespace Go.Proofs.Ytanimmdlgmkmkaa.Av
open Go
set_option linter.unusedSimpArgs false
set_option linter.unusedVariables false
set_option maxRecDepth 100000
set_option maxHeartbeats 4000000
set_option pp.maxSteps 600

/-- The i-th pair, of any i. -/
def Tr.atI (t : Tr) (i : Int) : Option (Int × Int) := if 0 ≤ i then t.at_ i else none
theorem Tr.at_some (t : Tr) (i : Int) (h0 : 0 ≤ i) (h : i < t.sz) : ∃ p, t.at_ i = some p := by
  rw [Tr.at_eq t i h0]
  have := t.sz_toL
  have hlt : i.toNat < t.toL.length := by omega
  exact ⟨_, List.getElem?_eq_getElem hlt⟩
theorem Tr.at_none (t : Tr) (i : Int) (h : t.sz ≤ i) : t.at_ i = none := by
  have := t.sz_nn
  rw [Tr.at_eq t i (by omega)]
  have := t.sz_toL
  exact List.getElem?_eq_none (by omega)
theorem pr_putO (k v : Int) : setPart (AV.agg [.raw (.int .u64 0), .raw (.int .i64 0)]) 0 [.raw (.int .u64 k), .raw (.int .i64 v)] = prAV k v := rfl
theorem trAt_calls (t : Tr) (i : Int) (hz : t.sz < 2 ^ 48) : PCalls Try.prog 94 [trP t, .raw (.int .i64 i)] (.tup [prAV ((t.atI i).getD (0, 0)).1 ((t.atI i).getD (0, 0)).2, .raw (.bool (t.atI i).isSome)]) := by
  have zn := t.sz_nn
  refine pbody Try.func94 rfl (N := 52) rfl rfl (by simp) (by simp [noIds, prAV]) fun σ => ?_
  have f4 : σ.m ⟨4, σ.nx 4, 2⟩ = none := fresh_none _ _ _
  by_cases h0 : i < 0
  · have e : t.atI i = none := by unfold Tr.atI; rw [if_neg (by omega)]
    rw [e]
    (try ((first | with_reducible refine dops_go ?_ | with_reducible refine OKv_go ?_ | with_reducible refine OKr_go ?_); simp [-cellOK, pr_cells, pr_fold, pr_putO, pr_put, h0])); repeat' (first | refine awp_seq ?_ | refine awp_block ?_ | (refine awp_skip ?_; try simp) | (refine awp_exit ?_; try simp) | (refine awp_ret ?_; try simp) | (refine retP_same (by simp) ?_; simp) | (refine retP_no (by simp) (by simp [noIds]) (by repeat (first | assumption | exact Ext.refl _ | refine ext_new' ?_ | refine Ext.setF ?_ (by first | assumption | (simp [new_nx', St.set, fresh_none]; done) | exact ext_fresh (by assumption)))) ?_; simp [-cellOK, pr_cells, pr_fold, pr_putO, pr_put, h0, new_m, set_m, new_nx']) | ((first | refine awp_reg ?_ | refine awp_drawT (fun _ => false) mixed (by decide +kernel) ?_ | refine awp_drawT isCallO mixed (by decide +kernel) ?_ | refine PCalls.use (trLen_calls t) ?_ | refine Or.inl ⟨_, Or.inl (trLen_calls t), ?_⟩ | refine PCalls.use (top_calls t) ?_ | refine Or.inl ⟨_, Or.inl (top_calls t), ?_⟩); simp [-cellOK, pr_cells, pr_fold, pr_putO, pr_put, h0]) | (refine guarded_split ?_ ?_ <;> (intro hg; simp only [hg]; simp [-cellOK, pr_cells, pr_fold, pr_putO, pr_put, h0])) | (apply awp_cond_t; focus (simp [-cellOK, pr_cells, pr_fold, pr_putO, pr_put, h0]; done)) | (apply awp_cond_f; focus (simp [-cellOK, pr_cells, pr_fold, pr_putO, pr_put, h0]; done)) | (refine awp_cond ?_; simp [-cellOK, pr_cells, pr_fold, pr_putO, pr_put, h0]; refine ⟨?_, ?_⟩ <;> intro hc) | fail)
  · by_cases h1 : t.sz ≤ i
    · have e : t.atI i = none := by unfold Tr.atI; rw [if_pos (by omega), Tr.at_none t i h1]
      rw [e]
      (try ((first | with_reducible refine dops_go ?_ | with_reducible refine OKv_go ?_ | with_reducible refine OKr_go ?_); simp [-cellOK, pr_cells, pr_fold, pr_putO, pr_put, h0, h1])); repeat' (first | refine awp_seq ?_ | refine awp_block ?_ | (refine awp_skip ?_; try simp) | (refine awp_exit ?_; try simp) | (refine awp_ret ?_; try simp) | (refine retP_same (by simp) ?_; simp) | (refine retP_no (by simp) (by simp [noIds]) (by repeat (first | assumption | exact Ext.refl _ | refine ext_new' ?_ | refine Ext.setF ?_ (by first | assumption | (simp [new_nx', St.set, fresh_none]; done) | exact ext_fresh (by assumption)))) ?_; simp [-cellOK, pr_cells, pr_fold, pr_putO, pr_put, h0, h1, new_m, set_m, new_nx']) | ((first | refine awp_reg ?_ | refine awp_drawT (fun _ => false) mixed (by decide +kernel) ?_ | refine awp_drawT isCallO mixed (by decide +kernel) ?_ | refine PCalls.use (trLen_calls t) ?_ | refine Or.inl ⟨_, Or.inl (trLen_calls t), ?_⟩ | refine PCalls.use (top_calls t) ?_ | refine Or.inl ⟨_, Or.inl (top_calls t), ?_⟩); simp [-cellOK, pr_cells, pr_fold, pr_putO, pr_put, h0, h1]) | (refine guarded_split ?_ ?_ <;> (intro hg; simp only [hg]; simp [-cellOK, pr_cells, pr_fold, pr_putO, pr_put, h0, h1])) | (apply awp_cond_t; focus (simp [-cellOK, pr_cells, pr_fold, pr_putO, pr_put, h0, h1]; done)) | (apply awp_cond_f; focus (simp [-cellOK, pr_cells, pr_fold, pr_putO, pr_put, h0, h1]; done)) | (refine awp_cond ?_; simp [-cellOK, pr_cells, pr_fold, pr_putO, pr_put, h0, h1]; refine ⟨?_, ?_⟩ <;> intro hc) | fail)
    · obtain ⟨p, hp⟩ := t.at_some i (by omega) (by omega)
      have e : t.atI i = some p := by unfold Tr.atI; rw [if_pos (by omega), hp]
      rw [e]
      (try ((first | with_reducible refine dops_go ?_ | with_reducible refine OKv_go ?_ | with_reducible refine OKr_go ?_); simp [-cellOK, pr_cells, pr_fold, pr_putO, pr_put, h0, h1])); repeat' (first | refine awp_seq ?_ | refine awp_block ?_ | (refine awp_skip ?_; try simp) | (refine awp_exit ?_; try simp) | (refine awp_ret ?_; try simp) | (refine retP_same (by simp) ?_; simp) | (refine retP_no (by simp) (by simp [noIds]) (by repeat (first | assumption | exact Ext.refl _ | refine ext_new' ?_ | refine Ext.setF ?_ (by first | assumption | (simp [new_nx', St.set, fresh_none]; done) | exact ext_fresh (by assumption)))) ?_; simp [-cellOK, pr_cells, pr_fold, pr_putO, pr_put, h0, h1, new_m, set_m, new_nx']) | ((first | refine awp_reg ?_ | refine awp_drawT (fun _ => false) mixed (by decide +kernel) ?_ | refine awp_drawT isCallO mixed (by decide +kernel) ?_ | refine PCalls.use (trLen_calls t) ?_ | refine Or.inl ⟨_, Or.inl (trLen_calls t), ?_⟩ | refine PCalls.use (top_calls t) ?_ | refine Or.inl ⟨_, Or.inl (top_calls t), ?_⟩); simp [-cellOK, pr_cells, pr_fold, pr_putO, pr_put, h0, h1]) | (refine guarded_split ?_ ?_ <;> (intro hg; simp only [hg]; simp [-cellOK, pr_cells, pr_fold, pr_putO, pr_put, h0, h1])) | (apply awp_cond_t; focus (simp [-cellOK, pr_cells, pr_fold, pr_putO, pr_put, h0, h1]; done)) | (apply awp_cond_f; focus (simp [-cellOK, pr_cells, pr_fold, pr_putO, pr_put, h0, h1]; done)) | (refine awp_cond ?_; simp [-cellOK, pr_cells, pr_fold, pr_putO, pr_put, h0, h1]; refine ⟨?_, ?_⟩ <;> intro hc) | fail)
      refine awp_loopH (fun n A τ => τ = σ.new 4 2 (.buf [prAV 0 0]) ∧ A 4 = .rp ⟨4, σ.nx 4, 2⟩ 0 0 ∧ ∃ (u : Tr) (j : Int), A 1 = .raw (.int .i64 j) ∧ A 6 = u.av ∧ n = u.sz.toNat ∧ 0 ≤ j ∧ j < u.sz ∧ u.sz < 2 ^ 48 ∧ u.at_ j = some p) t.sz.toNat ?_ ?_
      · exact ⟨by simp [pr_fold], by simp, t, i, by simp, by simp, rfl, by omega, by omega, hz, hp⟩
      rintro n A τ ⟨rfl, a4, u, j, a1, a6, rfl, hj0, hj1, hus, hu⟩ I1 hI1
      cases u with
      | nil => simp only [Tr.sz] at hj1; omega
      | node l k v r =>
        have y1 := l.sz_nn
        have y2 := r.sz_nn
        have hsz : (Tr.node l k v r).sz = 1 + l.sz + r.sz := rfl
        rw [av_node] at a6
        simp only [Tr.at_] at hu
        have w1 : IntKind.i64.wrap (1 + l.sz) = 1 + l.sz := wrap64 (by omega) (by omega)
        have w2 : IntKind.i64.wrap (j - (1 + l.sz)) = j - (1 + l.sz) := wrap64 (by omega) (by omega)
        by_cases q1 : j < l.sz
        · rw [if_pos q1] at hu
          have q1' : ¬ j = l.sz := by omega
          (try ((first | with_reducible refine dops_go ?_ | with_reducible refine OKv_go ?_ | with_reducible refine OKr_go ?_); simp [-cellOK, a1, a4, a6, q1, q1'])); repeat' (first | refine awp_seq ?_ | refine awp_block ?_ | (refine awp_skip ?_; try simp) | (refine awp_exit ?_; try simp) | (refine awp_ret ?_; try simp) | (refine retP_same (by simp) ?_; simp) | (refine retP_no (by simp) (by simp [noIds]) (by repeat (first | assumption | exact Ext.refl _ | refine ext_new' ?_ | refine Ext.setF ?_ (by first | assumption | (simp [new_nx', St.set, fresh_none]; done) | exact ext_fresh (by assumption)))) ?_; simp [-cellOK, a1, a4, a6, q1, q1', new_m, set_m, new_nx']) | ((first | refine awp_reg ?_ | refine awp_drawT (fun _ => false) mixed (by decide +kernel) ?_ | refine awp_drawT isCallO mixed (by decide +kernel) ?_ | refine PCalls.use (size_calls l) ?_ | refine Or.inl ⟨_, Or.inl (size_calls l), ?_⟩); simp [-cellOK, a1, a4, a6, q1, q1']) | (refine guarded_split ?_ ?_ <;> (intro hg; simp only [hg]; simp [-cellOK, a1, a4, a6, q1, q1'])) | (apply awp_cond_t; focus (simp [-cellOK, a1, a4, a6, q1, q1']; done)) | (apply awp_cond_f; focus (simp [-cellOK, a1, a4, a6, q1, q1']; done)) | (refine awp_cond ?_; simp [-cellOK, a1, a4, a6, q1, q1']; refine ⟨?_, ?_⟩ <;> intro hc) | fail)
          exact hI1 _ _ _ (by omega) ⟨rfl, by simp [a4], l, j, by simp [a1], by simp, rfl, hj0, q1, by omega, hu⟩
        · rw [if_neg q1] at hu
          by_cases q2 : l.sz < j
          · rw [if_pos q2] at hu
            have q1' : ¬ j = l.sz := by omega
            (try ((first | with_reducible refine dops_go ?_ | with_reducible refine OKv_go ?_ | with_reducible refine OKr_go ?_); simp [-cellOK, a1, a4, a6, q1, q1', w1, w2])); repeat' (first | refine awp_seq ?_ | refine awp_block ?_ | (refine awp_skip ?_; try simp) | (refine awp_exit ?_; try simp) | (refine awp_ret ?_; try simp) | (refine retP_same (by simp) ?_; simp) | (refine retP_no (by simp) (by simp [noIds]) (by repeat (first | assumption | exact Ext.refl _ | refine ext_new' ?_ | refine Ext.setF ?_ (by first | assumption | (simp [new_nx', St.set, fresh_none]; done) | exact ext_fresh (by assumption)))) ?_; simp [-cellOK, a1, a4, a6, q1, q1', w1, w2, new_m, set_m, new_nx']) | ((first | refine awp_reg ?_ | refine awp_drawT (fun _ => false) mixed (by decide +kernel) ?_ | refine awp_drawT isCallO mixed (by decide +kernel) ?_ | refine PCalls.use (size_calls l) ?_ | refine Or.inl ⟨_, Or.inl (size_calls l), ?_⟩); simp [-cellOK, a1, a4, a6, q1, q1', w1, w2]) | (refine guarded_split ?_ ?_ <;> (intro hg; simp only [hg]; simp [-cellOK, a1, a4, a6, q1, q1', w1, w2])) | (apply awp_cond_t; focus (simp [-cellOK, a1, a4, a6, q1, q1', w1, w2]; done)) | (apply awp_cond_f; focus (simp [-cellOK, a1, a4, a6, q1, q1', w1, w2]; done)) | (refine awp_cond ?_; simp [-cellOK, a1, a4, a6, q1, q1', w1, w2]; refine ⟨?_, ?_⟩ <;> intro hc) | fail)
            exact hI1 _ _ _ (by omega) ⟨rfl, by simp [a4], r, j - (1 + l.sz), by simp, by simp, rfl, by omega, by omega, by omega, hu⟩
          · rw [if_neg q2] at hu
            have q1' : j = l.sz := by omega
            simp only [Option.some.injEq] at hu
            subst hu
            (try ((first | with_reducible refine dops_go ?_ | with_reducible refine OKv_go ?_ | with_reducible refine OKr_go ?_); simp [-cellOK, a1, a4, a6, q1', pr_cells, pr_fold, pr_put])); repeat' (first | refine awp_seq ?_ | refine awp_block ?_ | (refine awp_skip ?_; try simp) | (refine awp_exit ?_; try simp) | (refine awp_ret ?_; try simp) | (refine retP_same (by simp) ?_; simp) | (refine retP_no (by simp) (by simp [noIds]) (by repeat (first | assumption | exact Ext.refl _ | refine ext_new' ?_ | refine Ext.setF ?_ (by first | assumption | (simp [new_nx', St.set, fresh_none]; done) | exact ext_fresh (by assumption)))) ?_; simp [-cellOK, a1, a4, a6, q1', pr_cells, pr_fold, pr_put, new_m, set_m, new_nx']) | ((first | refine awp_reg ?_ | refine awp_drawT (fun _ => false) mixed (by decide +kernel) ?_ | refine awp_drawT isCallO mixed (by decide +kernel) ?_ | refine PCalls.use (size_calls l) ?_ | refine Or.inl ⟨_, Or.inl (size_calls l), ?_⟩); simp [-cellOK, a1, a4, a6, q1', pr_cells, pr_fold, pr_put]) | (refine guarded_split ?_ ?_ <;> (intro hg; simp only [hg]; simp [-cellOK, a1, a4, a6, q1', pr_cells, pr_fold, pr_put])) | (apply awp_cond_t; focus (simp [-cellOK, a1, a4, a6, q1', pr_cells, pr_fold, pr_put]; done)) | (apply awp_cond_f; focus (simp [-cellOK, a1, a4, a6, q1', pr_cells, pr_fold, pr_put]; done)) | (refine awp_cond ?_; simp [-cellOK, a1, a4, a6, q1', pr_cells, pr_fold, pr_put]; refine ⟨?_, ?_⟩ <;> intro hc) | fail)

theorem Tr.join_sz (l : Tr) (k v : Int) (r : Tr) : (Tr.join l k v r).sz = 1 + l.sz + r.sz := by
  rw [Tr.sz_toL, Tr.join_toL, Tr.sz_toL l, Tr.sz_toL r]
  simp only [List.length_append, List.length_cons]
  omega
theorem trJoin_calls (n : Nat) : ∀ (l : Tr) (k v : Int) (r : Tr), SizeOf.sizeOf l + SizeOf.sizeOf r < n → l.sz + r.sz < 2 ^ 48 → PCalls Try.prog 154 [l.av, prAV k v, r.av] (Tr.join l k v r).av := by
  induction n with
  | zero => intro l k v r h; omega
  | succ n ih =>
    intro l k v r hn h
    have z1 := l.ht_nn
    have z2 := r.ht_nn
    have z3 := l.sz_nn
    have z4 := r.sz_nn
    have z5 := l.ht_le
    have z6 := r.ht_le
    have w1 : IntKind.i64.wrap (r.ht + 1) = r.ht + 1 := wrap64 (by omega) (by omega)
    have w2 : IntKind.i64.wrap (l.ht + 1) = l.ht + 1 := wrap64 (by omega) (by omega)
    have hl := high_calls l
    have hr := high_calls r
    by_cases h1 : r.ht + 1 < l.ht
    · cases l with
      | nil => simp only [Tr.ht] at h1; omega
      | node ll lk lv lr =>
        have y1 := ll.sz_nn
        have y2 := lr.sz_nn
        have hz : (Tr.node ll lk lv lr).sz = 1 + ll.sz + lr.sz := rfl
        have i1 := ih lr k v r (by simp only [Tr.node.sizeOf_spec] at hn; omega) (by omega)
        have js := Tr.join_sz lr k v r
        have m := even_calls ll lk lv (Tr.join lr k v r) (by omega)
        have e : Tr.join (.node ll lk lv lr) k v r = Tr.even ll lk lv (Tr.join lr k v r) := by rw [Tr.join.eq_def]; simp only [if_pos h1]
        rw [e]
        rw [av_node] at hl ⊢
        obtain ⟨H, hH⟩ : ∃ H, (Tr.node ll lk lv lr).ht = H := ⟨_, rfl⟩
        obtain ⟨Z, hZ⟩ : ∃ Z, (Tr.node ll lk lv lr).sz = Z := ⟨_, rfl⟩
        rw [hH, hZ] at hl ⊢
        rw [hH] at h1 w2
        refine pbody Try.func154 rfl (N := 57) rfl rfl (by simp) (by simp [noIds]) fun σ => ?_
        generalize Tr.even ll lk lv (Tr.join lr k v r) = T at m ⊢
        generalize Tr.join lr k v r = U at i1 m
        (try ((first | with_reducible refine dops_go ?_ | with_reducible refine OKv_go ?_ | with_reducible refine OKr_go ?_); simp [-cellOK, pr_cells, pr_fold, h1, w1, w2])); repeat' (first | refine awp_seq ?_ | refine awp_block ?_ | (refine awp_skip ?_; try simp) | (refine awp_exit ?_; try simp) | (refine awp_ret ?_; try simp) | (refine retP_same (by simp) ?_; simp) | (refine retP_no (by simp) (by simp [noIds]) (by repeat (first | assumption | exact Ext.refl _ | refine ext_new' ?_ | refine Ext.setF ?_ (by first | assumption | (simp [new_nx', St.set, fresh_none]; done) | exact ext_fresh (by assumption)))) ?_; simp [-cellOK, pr_cells, pr_fold, h1, w1, w2, new_m, set_m, new_nx']) | ((first | refine awp_reg ?_ | refine awp_drawT (fun _ => false) mixed (by decide +kernel) ?_ | refine awp_drawT isCallO mixed (by decide +kernel) ?_ | refine PCalls.use (hl) ?_ | refine Or.inl ⟨_, Or.inl (hl), ?_⟩ | refine PCalls.use (hr) ?_ | refine Or.inl ⟨_, Or.inl (hr), ?_⟩ | refine PCalls.use (i1) ?_ | refine Or.inl ⟨_, Or.inl (i1), ?_⟩ | refine PCalls.use (m) ?_ | refine Or.inl ⟨_, Or.inl (m), ?_⟩); simp [-cellOK, pr_cells, pr_fold, h1, w1, w2]) | (refine guarded_split ?_ ?_ <;> (intro hg; simp only [hg]; simp [-cellOK, pr_cells, pr_fold, h1, w1, w2])) | (apply awp_cond_t; focus (simp [-cellOK, pr_cells, pr_fold, h1, w1, w2]; done)) | (apply awp_cond_f; focus (simp [-cellOK, pr_cells, pr_fold, h1, w1, w2]; done)) | (refine awp_cond ?_; simp [-cellOK, pr_cells, pr_fold, h1, w1, w2]; refine ⟨?_, ?_⟩ <;> intro hc) | fail)
    · by_cases h3 : l.ht + 1 < r.ht
      · cases r with
        | nil => simp only [Tr.ht] at h3; omega
        | node rl rk rv rr =>
          have y1 := rl.sz_nn
          have y2 := rr.sz_nn
          have hz : (Tr.node rl rk rv rr).sz = 1 + rl.sz + rr.sz := rfl
          have i1 := ih l k v rl (by simp only [Tr.node.sizeOf_spec] at hn; omega) (by omega)
          have js := Tr.join_sz l k v rl
          have m := even_calls (Tr.join l k v rl) rk rv rr (by omega)
          have e : Tr.join l k v (.node rl rk rv rr) = Tr.even (Tr.join l k v rl) rk rv rr := by rw [Tr.join.eq_def]; simp only [if_neg h1, if_pos h3]
          rw [e]
          rw [av_node] at hr ⊢
          obtain ⟨H, hH⟩ : ∃ H, (Tr.node rl rk rv rr).ht = H := ⟨_, rfl⟩
          obtain ⟨Z, hZ⟩ : ∃ Z, (Tr.node rl rk rv rr).sz = Z := ⟨_, rfl⟩
          rw [hH, hZ] at hr ⊢
          rw [hH] at h1 h3 w1
          refine pbody Try.func154 rfl (N := 57) rfl rfl (by simp) (by simp [noIds]) fun σ => ?_
          generalize Tr.even (Tr.join l k v rl) rk rv rr = T at m ⊢
          generalize Tr.join l k v rl = U at i1 m
          (try ((first | with_reducible refine dops_go ?_ | with_reducible refine OKv_go ?_ | with_reducible refine OKr_go ?_); simp [-cellOK, pr_cells, pr_fold, h1, h3, w1, w2])); repeat' (first | refine awp_seq ?_ | refine awp_block ?_ | (refine awp_skip ?_; try simp) | (refine awp_exit ?_; try simp) | (refine awp_ret ?_; try simp) | (refine retP_same (by simp) ?_; simp) | (refine retP_no (by simp) (by simp [noIds]) (by repeat (first | assumption | exact Ext.refl _ | refine ext_new' ?_ | refine Ext.setF ?_ (by first | assumption | (simp [new_nx', St.set, fresh_none]; done) | exact ext_fresh (by assumption)))) ?_; simp [-cellOK, pr_cells, pr_fold, h1, h3, w1, w2, new_m, set_m, new_nx']) | ((first | refine awp_reg ?_ | refine awp_drawT (fun _ => false) mixed (by decide +kernel) ?_ | refine awp_drawT isCallO mixed (by decide +kernel) ?_ | refine PCalls.use (hl) ?_ | refine Or.inl ⟨_, Or.inl (hl), ?_⟩ | refine PCalls.use (hr) ?_ | refine Or.inl ⟨_, Or.inl (hr), ?_⟩ | refine PCalls.use (i1) ?_ | refine Or.inl ⟨_, Or.inl (i1), ?_⟩ | refine PCalls.use (m) ?_ | refine Or.inl ⟨_, Or.inl (m), ?_⟩); simp [-cellOK, pr_cells, pr_fold, h1, h3, w1, w2]) | (refine guarded_split ?_ ?_ <;> (intro hg; simp only [hg]; simp [-cellOK, pr_cells, pr_fold, h1, h3, w1, w2])) | (apply awp_cond_t; focus (simp [-cellOK, pr_cells, pr_fold, h1, h3, w1, w2]; done)) | (apply awp_cond_f; focus (simp [-cellOK, pr_cells, pr_fold, h1, h3, w1, w2]; done)) | (refine awp_cond ?_; simp [-cellOK, pr_cells, pr_fold, h1, h3, w1, w2]; refine ⟨?_, ?_⟩ <;> intro hc) | fail)
      · have m := made_calls l k v r (by omega)
        have e : Tr.join l k v r = .node l k v r := by rw [Tr.join.eq_def, if_neg h1, if_neg h3]
        rw [e]
        refine pbody Try.func154 rfl (N := 57) rfl rfl (by simp) (by simp [noIds]) fun σ => ?_
        generalize Tr.node l k v r = T at m ⊢
        (try ((first | with_reducible refine dops_go ?_ | with_reducible refine OKv_go ?_ | with_reducible refine OKr_go ?_); simp [-cellOK, pr_cells, pr_fold, h1, h3, w1, w2])); repeat' (first | refine awp_seq ?_ | refine awp_block ?_ | (refine awp_skip ?_; try simp) | (refine awp_exit ?_; try simp) | (refine awp_ret ?_; try simp) | (refine retP_same (by simp) ?_; simp) | (refine retP_no (by simp) (by simp [noIds]) (by repeat (first | assumption | exact Ext.refl _ | refine ext_new' ?_ | refine Ext.setF ?_ (by first | assumption | (simp [new_nx', St.set, fresh_none]; done) | exact ext_fresh (by assumption)))) ?_; simp [-cellOK, pr_cells, pr_fold, h1, h3, w1, w2, new_m, set_m, new_nx']) | ((first | refine awp_reg ?_ | refine awp_drawT (fun _ => false) mixed (by decide +kernel) ?_ | refine awp_drawT isCallO mixed (by decide +kernel) ?_ | refine PCalls.use (hl) ?_ | refine Or.inl ⟨_, Or.inl (hl), ?_⟩ | refine PCalls.use (hr) ?_ | refine Or.inl ⟨_, Or.inl (hr), ?_⟩ | refine PCalls.use (m) ?_ | refine Or.inl ⟨_, Or.inl (m), ?_⟩); simp [-cellOK, pr_cells, pr_fold, h1, h3, w1, w2]) | (refine guarded_split ?_ ?_ <;> (intro hg; simp only [hg]; simp [-cellOK, pr_cells, pr_fold, h1, h3, w1, w2])) | (apply awp_cond_t; focus (simp [-cellOK, pr_cells, pr_fold, h1, h3, w1, w2]; done)) | (apply awp_cond_f; focus (simp [-cellOK, pr_cells, pr_fold, h1, h3, w1, w2]; done)) | (refine awp_cond ?_; simp [-cellOK, pr_cells, pr_fold, h1, h3, w1, w2]; refine ⟨?_, ?_⟩ <;> intro hc) | fail)
theorem Tr.cut_sz (b : Int) : ∀ t : Tr, (t.cut b).1.sz + (t.cut b).2.sz = t.sz
  | nil => by simp [Tr.cut, Tr.sz]
  | node l k v r => by
    have h1 := Tr.cut_sz b l
    have h2 := Tr.cut_sz b r
    simp only [Tr.cut]
    split
    · simp only [Tr.join_sz, Tr.sz]; omega
    · simp only [Tr.join_sz, Tr.sz]; omega
theorem trCut_calls (b : Int) : ∀ t : Tr, t.sz < 2 ^ 48 → PCalls Try.prog 147 [t.av, .raw (.int .u64 b)] (.tup [(t.cut b).1.av, (t.cut b).2.av])
  | .nil, _ => by
    refine pbody Try.func147 rfl (N := 59) rfl rfl (by simp) (by simp [noIds]) fun σ => ?_
    have e : Tr.nil.cut b = (.nil, .nil) := rfl
    rw [e]
    (try ((first | with_reducible refine dops_go ?_ | with_reducible refine OKv_go ?_ | with_reducible refine OKr_go ?_); simp [-cellOK])); repeat' (first | refine awp_seq ?_ | refine awp_block ?_ | (refine awp_skip ?_; try simp) | (refine awp_exit ?_; try simp) | (refine awp_ret ?_; try simp) | (refine retP_same (by simp) ?_; simp) | (refine retP_no (by simp) (by simp [noIds]) (by repeat (first | assumption | exact Ext.refl _ | refine ext_new' ?_ | refine Ext.setF ?_ (by first | assumption | (simp [new_nx', St.set, fresh_none]; done) | exact ext_fresh (by assumption)))) ?_; simp [-cellOK, new_m, set_m, new_nx']) | ((first | refine awp_reg ?_ | refine awp_drawT (fun _ => false) mixed (by decide +kernel) ?_ | refine awp_drawT isCallO mixed (by decide +kernel) ?_); simp [-cellOK]) | (refine guarded_split ?_ ?_ <;> (intro hg; simp only [hg]; simp [-cellOK])) | (apply awp_cond_t; focus (simp [-cellOK]; done)) | (apply awp_cond_f; focus (simp [-cellOK]; done)) | (refine awp_cond ?_; simp [-cellOK]; refine ⟨?_, ?_⟩ <;> intro hc) | fail)
  | .node l k v r, h => by
    have y1 := l.sz_nn
    have y2 := r.sz_nn
    have hz : (Tr.node l k v r).sz = 1 + l.sz + r.sz := rfl
    rw [av_node]
    obtain ⟨H, hH⟩ : ∃ H, (Tr.node l k v r).ht = H := ⟨_, rfl⟩
    obtain ⟨Z, hZ⟩ : ∃ Z, (Tr.node l k v r).sz = Z := ⟨_, rfl⟩
    rw [hH, hZ]
    by_cases h1 : k < b
    · have i1 := trCut_calls b r (by omega)
      have cs := Tr.cut_sz b r
      have x1 := (r.cut b).1.sz_nn
      have x2 := (r.cut b).2.sz_nn
      have m := trJoin_calls _ l k v (r.cut b).1 (Nat.lt_succ_self _) (by omega)
      have e : Tr.cut (.node l k v r) b = (Tr.join l k v (r.cut b).1, (r.cut b).2) := by simp only [Tr.cut, if_pos h1]
      rw [e]
      refine pbody Try.func147 rfl (N := 59) rfl rfl (by simp) (by simp [noIds]) fun σ => ?_
      generalize Tr.join l k v (r.cut b).1 = T at m ⊢
      generalize (r.cut b).1 = U at i1 m
      generalize (r.cut b).2 = V at i1 ⊢
      (try ((first | with_reducible refine dops_go ?_ | with_reducible refine OKv_go ?_ | with_reducible refine OKr_go ?_); simp [-cellOK, pr_cells, pr_fold, h1])); repeat' (first | refine awp_seq ?_ | refine awp_block ?_ | (refine awp_skip ?_; try simp) | (refine awp_exit ?_; try simp) | (refine awp_ret ?_; try simp) | (refine retP_same (by simp) ?_; simp) | (refine retP_no (by simp) (by simp [noIds]) (by repeat (first | assumption | exact Ext.refl _ | refine ext_new' ?_ | refine Ext.setF ?_ (by first | assumption | (simp [new_nx', St.set, fresh_none]; done) | exact ext_fresh (by assumption)))) ?_; simp [-cellOK, pr_cells, pr_fold, h1, new_m, set_m, new_nx']) | ((first | refine awp_reg ?_ | refine awp_drawT (fun _ => false) mixed (by decide +kernel) ?_ | refine awp_drawT isCallO mixed (by decide +kernel) ?_ | refine PCalls.use (i1) ?_ | refine Or.inl ⟨_, Or.inl (i1), ?_⟩ | refine PCalls.use (m) ?_ | refine Or.inl ⟨_, Or.inl (m), ?_⟩); simp [-cellOK, pr_cells, pr_fold, h1]) | (refine guarded_split ?_ ?_ <;> (intro hg; simp only [hg]; simp [-cellOK, pr_cells, pr_fold, h1])) | (apply awp_cond_t; focus (simp [-cellOK, pr_cells, pr_fold, h1]; done)) | (apply awp_cond_f; focus (simp [-cellOK, pr_cells, pr_fold, h1]; done)) | (refine awp_cond ?_; simp [-cellOK, pr_cells, pr_fold, h1]; refine ⟨?_, ?_⟩ <;> intro hc) | fail)
    · have i1 := trCut_calls b l (by omega)
      have cs := Tr.cut_sz b l
      have x1 := (l.cut b).1.sz_nn
      have x2 := (l.cut b).2.sz_nn
      have m := trJoin_calls _ (l.cut b).2 k v r (Nat.lt_succ_self _) (by omega)
      have e : Tr.cut (.node l k v r) b = ((l.cut b).1, Tr.join (l.cut b).2 k v r) := by simp only [Tr.cut, if_neg h1]
      rw [e]
      refine pbody Try.func147 rfl (N := 59) rfl rfl (by simp) (by simp [noIds]) fun σ => ?_
      generalize Tr.join (l.cut b).2 k v r = T at m ⊢
      generalize (l.cut b).2 = U at i1 m
      generalize (l.cut b).1 = V at i1 ⊢
      (try ((first | with_reducible refine dops_go ?_ | with_reducible refine OKv_go ?_ | with_reducible refine OKr_go ?_); simp [-cellOK, pr_cells, pr_fold, h1])); repeat' (first | refine awp_seq ?_ | refine awp_block ?_ | (refine awp_skip ?_; try simp) | (refine awp_exit ?_; try simp) | (refine awp_ret ?_; try simp) | (refine retP_same (by simp) ?_; simp) | (refine retP_no (by simp) (by simp [noIds]) (by repeat (first | assumption | exact Ext.refl _ | refine ext_new' ?_ | refine Ext.setF ?_ (by first | assumption | (simp [new_nx', St.set, fresh_none]; done) | exact ext_fresh (by assumption)))) ?_; simp [-cellOK, pr_cells, pr_fold, h1, new_m, set_m, new_nx']) | ((first | refine awp_reg ?_ | refine awp_drawT (fun _ => false) mixed (by decide +kernel) ?_ | refine awp_drawT isCallO mixed (by decide +kernel) ?_ | refine PCalls.use (i1) ?_ | refine Or.inl ⟨_, Or.inl (i1), ?_⟩ | refine PCalls.use (m) ?_ | refine Or.inl ⟨_, Or.inl (m), ?_⟩); simp [-cellOK, pr_cells, pr_fold, h1]) | (refine guarded_split ?_ ?_ <;> (intro hg; simp only [hg]; simp [-cellOK, pr_cells, pr_fold, h1])) | (apply awp_cond_t; focus (simp [-cellOK, pr_cells, pr_fold, h1]; done)) | (apply awp_cond_f; focus (simp [-cellOK, pr_cells, pr_fold, h1]; done)) | (refine awp_cond ?_; simp [-cellOK, pr_cells, pr_fold, h1]; refine ⟨?_, ?_⟩ <;> intro hc) | fail)
theorem trSplit_calls (t : Tr) (b : Int) (h : t.sz < 2 ^ 48) : PCalls Try.prog 134 [trP t, .raw (.int .u64 b)] (.tup [trP (t.cut b).1, trP (t.cut b).2]) := by
  have hc := trCut_calls b t h
  generalize (t.cut b).1 = U at hc ⊢
  generalize (t.cut b).2 = V at hc ⊢
  refine pbody Try.func134 rfl (N := 21) rfl rfl (by simp) (by simp [noIds]) fun σ => ?_
  (try ((first | with_reducible refine dops_go ?_ | with_reducible refine OKv_go ?_ | with_reducible refine OKr_go ?_); simp [-cellOK])); repeat' (first | refine awp_seq ?_ | refine awp_block ?_ | (refine awp_skip ?_; try simp) | (refine awp_exit ?_; try simp) | (refine awp_ret ?_; try simp) | ((first | refine awp_reg ?_ | refine awp_drawT (fun _ => false) mixed (by decide +kernel) ?_ | refine awp_drawT isCallO mixed (by decide +kernel) ?_ | refine PCalls.use (hc) ?_ | refine Or.inl ⟨_, Or.inl (hc), ?_⟩ | refine PCalls.use (top_calls t) ?_ | refine Or.inl ⟨_, Or.inl (top_calls t), ?_⟩); simp [-cellOK]) | (refine guarded_split ?_ ?_ <;> (intro hg; simp only [hg]; simp [-cellOK])) | (apply awp_cond_t; focus (simp [-cellOK]; done)) | (apply awp_cond_f; focus (simp [-cellOK]; done)) | (refine awp_cond ?_; simp [-cellOK]; refine ⟨?_, ?_⟩ <;> intro hc) | fail)
  refine retP_give (x := .tup [.rp ⟨17, σ.nx 17, 1⟩ 0 0, .rp ⟨20, σ.nx 20, 1⟩ 0 0]) (.inr rfl) (by repeat (first | assumption | exact Ext.refl _ | refine ext_new' ?_ | refine Ext.setF ?_ (by first | assumption | (simp [new_nx', St.set, fresh_none]; done) | exact ext_fresh (by assumption)))) ?_ ?_
  · simp [new_nx']
  · simp [giveUps, giveUp, fresh_none, new_m, new_nx', trP]
end Go.Proofs.Ytanimmdlgmkmkaa.Av


/- Trees: a key goes. -/
namespace Go.Proofs.Ytanimmdlgmkmkaa.Av
open Go
set_option linter.unusedSimpArgs false
set_option linter.unusedVariables false
set_option maxRecDepth 100000
set_option maxHeartbeats 4000000
set_option pp.maxSteps 600

theorem Tr.least_sz : ∀ t : Tr, t ≠ .nil → t.least.2.sz = t.sz - 1 := fun t h => by
  have := Tr.least_toL t h
  rw [Tr.sz_toL, Tr.sz_toL t, this]
  simp only [List.length_cons]; omega
theorem trLeast_calls : ∀ t : Tr, t ≠ .nil → t.sz < 2 ^ 48 → PCalls Try.prog 156 [t.av] (.tup [prAV t.least.1.1 t.least.1.2, t.least.2.av])
  | .nil, h, _ => absurd rfl h
  | .node .nil k v r, _, h => by
    have e : (Tr.node .nil k v r).least = ((k, v), r) := by simp only [Tr.least]
    rw [e, av_node]
    refine pbody Try.func156 rfl (N := 38) rfl rfl (by simp) (by simp [noIds]) fun σ => ?_
    have f2 : σ.m ⟨2, σ.nx 2, 2⟩ = none := fresh_none _ _ _
    (try ((first | with_reducible refine dops_go ?_ | with_reducible refine OKv_go ?_ | with_reducible refine OKr_go ?_); simp [-cellOK, pr_cells, pr_fold, pr_put, pr_putO])); repeat' (first | refine awp_seq ?_ | refine awp_block ?_ | (refine awp_skip ?_; try simp) | (refine awp_exit ?_; try simp) | (refine awp_ret ?_; try simp) | (refine retP_same (by simp) ?_; simp) | (refine retP_no (by simp) (by simp [noIds]) (by repeat (first | assumption | exact Ext.refl _ | refine ext_new' ?_ | refine Ext.setF ?_ (by first | assumption | (simp [new_nx', St.set, fresh_none]; done) | exact ext_fresh (by assumption)))) ?_; simp [-cellOK, pr_cells, pr_fold, pr_put, pr_putO, new_m, set_m, new_nx']) | ((first | refine awp_reg ?_ | refine awp_drawT (fun _ => false) mixed (by decide +kernel) ?_ | refine awp_drawT isCallO mixed (by decide +kernel) ?_); simp [-cellOK, pr_cells, pr_fold, pr_put, pr_putO]) | (refine guarded_split ?_ ?_ <;> (intro hg; simp only [hg]; simp [-cellOK, pr_cells, pr_fold, pr_put, pr_putO])) | (apply awp_cond_t; focus (simp [-cellOK, pr_cells, pr_fold, pr_put, pr_putO]; done)) | (apply awp_cond_f; focus (simp [-cellOK, pr_cells, pr_fold, pr_put, pr_putO]; done)) | (refine awp_cond ?_; simp [-cellOK, pr_cells, pr_fold, pr_put, pr_putO]; refine ⟨?_, ?_⟩ <;> intro hc) | fail)
    refine awp_drawT (lsO [14, 18]) mixed (by decide +kernel) ?_
    (try ((first | with_reducible refine dops_go ?_ | with_reducible refine OKv_go ?_ | with_reducible refine OKr_go ?_); simp [-cellOK, pr_cells, pr_fold, pr_put, pr_putO])); repeat' (first | refine awp_seq ?_ | refine awp_block ?_ | (refine awp_skip ?_; try simp) | (refine awp_exit ?_; try simp) | (refine awp_ret ?_; try simp) | (refine retP_same (by simp) ?_; simp) | (refine retP_no (by simp) (by simp [noIds]) (by repeat (first | assumption | exact Ext.refl _ | refine ext_new' ?_ | refine Ext.setF ?_ (by first | assumption | (simp [new_nx', St.set, fresh_none]; done) | exact ext_fresh (by assumption)))) ?_; simp [-cellOK, pr_cells, pr_fold, pr_put, pr_putO, new_m, set_m, new_nx']) | ((first | refine awp_reg ?_ | refine awp_drawT (fun _ => false) mixed (by decide +kernel) ?_ | refine awp_drawT isCallO mixed (by decide +kernel) ?_); simp [-cellOK, pr_cells, pr_fold, pr_put, pr_putO]) | (refine guarded_split ?_ ?_ <;> (intro hg; simp only [hg]; simp [-cellOK, pr_cells, pr_fold, pr_put, pr_putO])) | (apply awp_cond_t; focus (simp [-cellOK, pr_cells, pr_fold, pr_put, pr_putO]; done)) | (apply awp_cond_f; focus (simp [-cellOK, pr_cells, pr_fold, pr_put, pr_putO]; done)) | (refine awp_cond ?_; simp [-cellOK, pr_cells, pr_fold, pr_put, pr_putO]; refine ⟨?_, ?_⟩ <;> intro hc) | fail)
  | .node (.node a b c d) k v r, _, h => by
    have hz : (Tr.node (.node a b c d) k v r).sz = 1 + (Tr.node a b c d).sz + r.sz := rfl
    have y1 := (Tr.node a b c d).sz_nn
    have y2 := r.sz_nn
    have i1 := trLeast_calls (.node a b c d) (by simp) (by omega)
    have ls := Tr.least_sz (.node a b c d) (by simp)
    have m := even_calls (Tr.node a b c d).least.2 k v r (by omega)
    have e : (Tr.node (.node a b c d) k v r).least = ((Tr.node a b c d).least.1, Tr.even (Tr.node a b c d).least.2 k v r) := by simp only [Tr.least]
    rw [e, av_node]
    have hm := av_node a b c d
    generalize Tr.even (Tr.node a b c d).least.2 k v r = T at m ⊢
    generalize (Tr.node a b c d).least.2 = U at i1 m
    generalize (Tr.node a b c d).least.1 = q at i1 ⊢
    generalize (Tr.node (.node a b c d) k v r).ht = H
    generalize (Tr.node (.node a b c d) k v r).sz = Z
    generalize (Tr.node a b c d).ht = H2 at hm
    generalize (Tr.node a b c d).sz = Z2 at hm
    rw [hm] at i1 ⊢
    refine pbody Try.func156 rfl (N := 38) rfl rfl (by simp) (by simp [noIds]) fun σ => ?_
    have f2 : σ.m ⟨2, σ.nx 2, 2⟩ = none := fresh_none _ _ _
    (try ((first | with_reducible refine dops_go ?_ | with_reducible refine OKv_go ?_ | with_reducible refine OKr_go ?_); simp [-cellOK, pr_cells, pr_fold, pr_put, pr_putO, new_m, set_m, new_nx'])); repeat' (first | refine awp_seq ?_ | refine awp_block ?_ | (refine awp_skip ?_; try simp) | (refine awp_exit ?_; try simp) | (refine awp_ret ?_; try simp) | (refine retP_same (by simp) ?_; simp) | (refine retP_no (by simp) (by simp [noIds]) (by repeat (first | assumption | exact Ext.refl _ | refine ext_new' ?_ | refine Ext.setF ?_ (by first | assumption | (simp [new_nx', St.set, fresh_none]; done) | exact ext_fresh (by assumption)))) ?_; simp [-cellOK, pr_cells, pr_fold, pr_put, pr_putO, new_m, set_m, new_nx', new_m, set_m, new_nx']) | ((first | refine awp_reg ?_ | refine awp_drawT (fun _ => false) mixed (by decide +kernel) ?_ | refine awp_drawT isCallO mixed (by decide +kernel) ?_ | refine PCalls.use (i1) ?_ | refine Or.inl ⟨_, Or.inl (i1), ?_⟩ | refine PCalls.use (m) ?_ | refine Or.inl ⟨_, Or.inl (m), ?_⟩); simp [-cellOK, pr_cells, pr_fold, pr_put, pr_putO, new_m, set_m, new_nx']) | (refine guarded_split ?_ ?_ <;> (intro hg; simp only [hg]; simp [-cellOK, pr_cells, pr_fold, pr_put, pr_putO, new_m, set_m, new_nx'])) | (apply awp_cond_t; focus (simp [-cellOK, pr_cells, pr_fold, pr_put, pr_putO, new_m, set_m, new_nx']; done)) | (apply awp_cond_f; focus (simp [-cellOK, pr_cells, pr_fold, pr_put, pr_putO, new_m, set_m, new_nx']; done)) | (refine awp_cond ?_; simp [-cellOK, pr_cells, pr_fold, pr_put, pr_putO, new_m, set_m, new_nx']; refine ⟨?_, ?_⟩ <;> intro hc) | fail)
theorem Tr.without_sz (k : Int) : ∀ t : Tr, (t.without k).sz ≤ t.sz
  | .nil => by simp [Tr.without]
  | .node l k' v' r => by
    have h1 := Tr.without_sz k l
    have h2 := Tr.without_sz k r
    have y1 := l.sz_nn
    have y2 := r.sz_nn
    simp only [Tr.without]
    split
    · rw [Tr.even_sz]; simp only [Tr.sz]; omega
    · split
      · rw [Tr.even_sz]; simp only [Tr.sz]; omega
      · cases r with
        | nil => simp only [Tr.sz]; omega
        | node a b c d =>
          have := Tr.least_sz (.node a b c d) (by simp)
          simp only [Tr.even_sz, this]
          simp only [Tr.sz]; omega
theorem trWithout_calls (k : Int) : ∀ t : Tr, t.get k ≠ none → t.sz < 2 ^ 48 → PCalls Try.prog 153 [t.av, .raw (.int .u64 k)] (t.without k).av
  | .nil, h, _ => absurd rfl h
  | .node l k' v' r, hg, h => by
    have hz : (Tr.node l k' v' r).sz = 1 + l.sz + r.sz := rfl
    have y1 := l.sz_nn
    have y2 := r.sz_nn
    simp only [Tr.get] at hg
    by_cases h1 : k < k'
    · rw [if_pos h1] at hg
      have i1 := trWithout_calls k l hg (by omega)
      have ws := Tr.without_sz k l
      have m := even_calls (l.without k) k' v' r (by omega)
      have e : (Tr.node l k' v' r).without k = Tr.even (l.without k) k' v' r := by simp only [Tr.without, if_pos h1]
      rw [e, av_node]
      generalize Tr.even (l.without k) k' v' r = T at m ⊢
      generalize l.without k = U at i1 m
      generalize (Tr.node l k' v' r).ht = H
      generalize (Tr.node l k' v' r).sz = Z
      refine pbody Try.func153 rfl (N := 78) rfl rfl (by simp) (by simp [noIds]) fun σ => ?_
      (try ((first | with_reducible refine dops_go ?_ | with_reducible refine OKv_go ?_ | with_reducible refine OKr_go ?_); simp [-cellOK, pr_cells, pr_fold, h1])); repeat' (first | refine awp_seq ?_ | refine awp_block ?_ | (refine awp_skip ?_; try simp) | (refine awp_exit ?_; try simp) | (refine awp_ret ?_; try simp) | (refine retP_same (by simp) ?_; simp) | (refine retP_no (by simp) (by simp [noIds]) (by repeat (first | assumption | exact Ext.refl _ | refine ext_new' ?_ | refine Ext.setF ?_ (by first | assumption | (simp [new_nx', St.set, fresh_none]; done) | exact ext_fresh (by assumption)))) ?_; simp [-cellOK, pr_cells, pr_fold, h1, new_m, set_m, new_nx']) | ((first | refine awp_reg ?_ | refine awp_drawT (fun _ => false) mixed (by decide +kernel) ?_ | refine awp_drawT isCallO mixed (by decide +kernel) ?_ | refine PCalls.use (i1) ?_ | refine Or.inl ⟨_, Or.inl (i1), ?_⟩ | refine PCalls.use (m) ?_ | refine Or.inl ⟨_, Or.inl (m), ?_⟩); simp [-cellOK, pr_cells, pr_fold, h1]) | (refine guarded_split ?_ ?_ <;> (intro hg; simp only [hg]; simp [-cellOK, pr_cells, pr_fold, h1])) | (apply awp_cond_t; focus (simp [-cellOK, pr_cells, pr_fold, h1]; done)) | (apply awp_cond_f; focus (simp [-cellOK, pr_cells, pr_fold, h1]; done)) | (refine awp_cond ?_; simp [-cellOK, pr_cells, pr_fold, h1]; refine ⟨?_, ?_⟩ <;> intro hc) | fail)
    · rw [if_neg h1] at hg
      by_cases h2 : k' < k
      · rw [if_pos h2] at hg
        have i1 := trWithout_calls k r hg (by omega)
        have ws := Tr.without_sz k r
        have m := even_calls l k' v' (r.without k) (by omega)
        have e : (Tr.node l k' v' r).without k = Tr.even l k' v' (r.without k) := by simp only [Tr.without, if_neg h1, if_pos h2]
        rw [e, av_node]
        generalize Tr.even l k' v' (r.without k) = T at m ⊢
        generalize r.without k = U at i1 m
        generalize (Tr.node l k' v' r).ht = H
        generalize (Tr.node l k' v' r).sz = Z
        refine pbody Try.func153 rfl (N := 78) rfl rfl (by simp) (by simp [noIds]) fun σ => ?_
        (try ((first | with_reducible refine dops_go ?_ | with_reducible refine OKv_go ?_ | with_reducible refine OKr_go ?_); simp [-cellOK, pr_cells, pr_fold, h1, h2])); repeat' (first | refine awp_seq ?_ | refine awp_block ?_ | (refine awp_skip ?_; try simp) | (refine awp_exit ?_; try simp) | (refine awp_ret ?_; try simp) | (refine retP_same (by simp) ?_; simp) | (refine retP_no (by simp) (by simp [noIds]) (by repeat (first | assumption | exact Ext.refl _ | refine ext_new' ?_ | refine Ext.setF ?_ (by first | assumption | (simp [new_nx', St.set, fresh_none]; done) | exact ext_fresh (by assumption)))) ?_; simp [-cellOK, pr_cells, pr_fold, h1, h2, new_m, set_m, new_nx']) | ((first | refine awp_reg ?_ | refine awp_drawT (fun _ => false) mixed (by decide +kernel) ?_ | refine awp_drawT isCallO mixed (by decide +kernel) ?_ | refine PCalls.use (i1) ?_ | refine Or.inl ⟨_, Or.inl (i1), ?_⟩ | refine PCalls.use (m) ?_ | refine Or.inl ⟨_, Or.inl (m), ?_⟩); simp [-cellOK, pr_cells, pr_fold, h1, h2]) | (refine guarded_split ?_ ?_ <;> (intro hg; simp only [hg]; simp [-cellOK, pr_cells, pr_fold, h1, h2])) | (apply awp_cond_t; focus (simp [-cellOK, pr_cells, pr_fold, h1, h2]; done)) | (apply awp_cond_f; focus (simp [-cellOK, pr_cells, pr_fold, h1, h2]; done)) | (refine awp_cond ?_; simp [-cellOK, pr_cells, pr_fold, h1, h2]; refine ⟨?_, ?_⟩ <;> intro hc) | fail)
      · cases r with
        | nil =>
          have e : (Tr.node l k' v' .nil).without k = l := by simp only [Tr.without, if_neg h1, if_neg h2]
          rw [e, av_node]
          generalize (Tr.node l k' v' .nil).ht = H
          generalize (Tr.node l k' v' .nil).sz = Z
          refine pbody Try.func153 rfl (N := 78) rfl rfl (by simp) (by simp [noIds]) fun σ => ?_
          (try ((first | with_reducible refine dops_go ?_ | with_reducible refine OKv_go ?_ | with_reducible refine OKr_go ?_); simp [-cellOK, pr_cells, pr_fold, h1, h2])); repeat' (first | refine awp_seq ?_ | refine awp_block ?_ | (refine awp_skip ?_; try simp) | (refine awp_exit ?_; try simp) | (refine awp_ret ?_; try simp) | (refine retP_same (by simp) ?_; simp) | (refine retP_no (by simp) (by simp [noIds]) (by repeat (first | assumption | exact Ext.refl _ | refine ext_new' ?_ | refine Ext.setF ?_ (by first | assumption | (simp [new_nx', St.set, fresh_none]; done) | exact ext_fresh (by assumption)))) ?_; simp [-cellOK, pr_cells, pr_fold, h1, h2, new_m, set_m, new_nx']) | ((first | refine awp_reg ?_ | refine awp_drawT (fun _ => false) mixed (by decide +kernel) ?_ | refine awp_drawT isCallO mixed (by decide +kernel) ?_); simp [-cellOK, pr_cells, pr_fold, h1, h2]) | (refine guarded_split ?_ ?_ <;> (intro hg; simp only [hg]; simp [-cellOK, pr_cells, pr_fold, h1, h2])) | (apply awp_cond_t; focus (simp [-cellOK, pr_cells, pr_fold, h1, h2]; done)) | (apply awp_cond_f; focus (simp [-cellOK, pr_cells, pr_fold, h1, h2]; done)) | (refine awp_cond ?_; simp [-cellOK, pr_cells, pr_fold, h1, h2]; refine ⟨?_, ?_⟩ <;> intro hc) | fail)
        | node a b c d =>
          have i1 := trLeast_calls (.node a b c d) (by simp) (by omega)
          have ls := Tr.least_sz (.node a b c d) (by simp)
          have m := even_calls l (Tr.node a b c d).least.1.1 (Tr.node a b c d).least.1.2 (Tr.node a b c d).least.2 (by omega)
          have e : (Tr.node l k' v' (.node a b c d)).without k = Tr.even l (Tr.node a b c d).least.1.1 (Tr.node a b c d).least.1.2 (Tr.node a b c d).least.2 := by simp only [Tr.without, if_neg h1, if_neg h2]
          rw [e, av_node]
          have hm := av_node a b c d
          generalize Tr.even l (Tr.node a b c d).least.1.1 (Tr.node a b c d).least.1.2 (Tr.node a b c d).least.2 = T at m ⊢
          generalize (Tr.node a b c d).least.2 = U at i1 m
          generalize (Tr.node a b c d).least.1 = q at i1 m
          generalize (Tr.node l k' v' (.node a b c d)).ht = H
          generalize (Tr.node l k' v' (.node a b c d)).sz = Z
          generalize (Tr.node a b c d).ht = H2 at hm
          generalize (Tr.node a b c d).sz = Z2 at hm
          rw [hm] at i1 ⊢
          refine pbody Try.func153 rfl (N := 78) rfl rfl (by simp) (by simp [noIds]) fun σ => ?_
          (try ((first | with_reducible refine dops_go ?_ | with_reducible refine OKv_go ?_ | with_reducible refine OKr_go ?_); simp [-cellOK, pr_cells, pr_fold, pr_put, pr_putO, h1, h2, new_m, set_m, new_nx'])); repeat' (first | refine awp_seq ?_ | refine awp_block ?_ | (refine awp_skip ?_; try simp) | (refine awp_exit ?_; try simp) | (refine awp_ret ?_; try simp) | (refine retP_same (by simp) ?_; simp) | (refine retP_no (by simp) (by simp [noIds]) (by repeat (first | assumption | exact Ext.refl _ | refine ext_new' ?_ | refine Ext.setF ?_ (by first | assumption | (simp [new_nx', St.set, fresh_none]; done) | exact ext_fresh (by assumption)))) ?_; simp [-cellOK, pr_cells, pr_fold, pr_put, pr_putO, h1, h2, new_m, set_m, new_nx', new_m, set_m, new_nx']) | ((first | refine awp_reg ?_ | refine awp_drawT (fun _ => false) mixed (by decide +kernel) ?_ | refine awp_drawT isCallO mixed (by decide +kernel) ?_ | refine PCalls.use (i1) ?_ | refine Or.inl ⟨_, Or.inl (i1), ?_⟩ | refine PCalls.use (m) ?_ | refine Or.inl ⟨_, Or.inl (m), ?_⟩); simp [-cellOK, pr_cells, pr_fold, pr_put, pr_putO, h1, h2, new_m, set_m, new_nx']) | (refine guarded_split ?_ ?_ <;> (intro hg; simp only [hg]; simp [-cellOK, pr_cells, pr_fold, pr_put, pr_putO, h1, h2, new_m, set_m, new_nx'])) | (apply awp_cond_t; focus (simp [-cellOK, pr_cells, pr_fold, pr_put, pr_putO, h1, h2, new_m, set_m, new_nx']; done)) | (apply awp_cond_f; focus (simp [-cellOK, pr_cells, pr_fold, pr_put, pr_putO, h1, h2, new_m, set_m, new_nx']; done)) | (refine awp_cond ?_; simp [-cellOK, pr_cells, pr_fold, pr_put, pr_putO, h1, h2, new_m, set_m, new_nx']; refine ⟨?_, ?_⟩ <;> intro hc) | fail)
theorem trDrop_calls (t : Tr) (k : Int) (hg : t.get k ≠ none) (h : t.sz < 2 ^ 48) : PCalls Try.prog 145 [trP t, .raw (.int .u64 k)] (.tup [trP (t.without k), .raw (.int .i64 0)]) := by
  have h1 := trGet_calls t k
  have h2 := trWithout_calls k t hg h
  generalize t.without k = U at h2 ⊢
  obtain ⟨x, hx⟩ := Option.ne_none_iff_exists'.1 hg
  rw [hx] at h1
  refine pbody Try.func145 rfl (N := 22) rfl rfl (by simp) (by simp [noIds]) fun σ => ?_
  (try ((first | with_reducible refine dops_go ?_ | with_reducible refine OKv_go ?_ | with_reducible refine OKr_go ?_); simp [-cellOK])); repeat' (first | refine awp_seq ?_ | refine awp_block ?_ | (refine awp_skip ?_; try simp) | (refine awp_exit ?_; try simp) | (refine awp_ret ?_; try simp) | ((first | refine awp_reg ?_ | refine awp_drawT (fun _ => false) mixed (by decide +kernel) ?_ | refine awp_drawT isCallO mixed (by decide +kernel) ?_ | refine PCalls.use (h1) ?_ | refine Or.inl ⟨_, Or.inl (h1), ?_⟩ | refine PCalls.use (h2) ?_ | refine Or.inl ⟨_, Or.inl (h2), ?_⟩ | refine PCalls.use (top_calls t) ?_ | refine Or.inl ⟨_, Or.inl (top_calls t), ?_⟩); simp [-cellOK]) | (refine guarded_split ?_ ?_ <;> (intro hg; simp only [hg]; simp [-cellOK])) | (apply awp_cond_t; focus (simp [-cellOK]; done)) | (apply awp_cond_f; focus (simp [-cellOK]; done)) | (refine awp_cond ?_; simp [-cellOK]; refine ⟨?_, ?_⟩ <;> intro hc) | fail)
  refine retP_give (x := .tup [.rp ⟨21, σ.nx 21, 1⟩ 0 0, .raw (.int .i64 0)]) (.inr rfl) (by repeat (first | assumption | exact Ext.refl _ | refine ext_new' ?_ | refine Ext.setF ?_ (by first | assumption | (simp [new_nx', St.set, fresh_none]; done) | exact ext_fresh (by assumption)))) ?_ ?_
  · simp [new_nx']
  · simp [giveUps, giveUp, fresh_none, new_m, new_nx', trP]
end Go.Proofs.Ytanimmdlgmkmkaa.Av


/- Tables of atoms: how they lie; a key's count; ends; a range more. -/
namespace Go.Proofs.Ytanimmdlgmkmkaa.Av
open Go
set_option linter.unusedSimpArgs false
set_option linter.unusedVariables false
set_option maxRecDepth 100000
set_option maxHeartbeats 4000000
set_option pp.maxSteps 600

structure Tab where
  b : Tr
  g : Tr
  n : Int
def tabP (T : Tab) : AV := .pp [trP T.b, trP T.g, .raw (.int .i64 T.n)] 0
def tabO : Option Tab → AV
  | none => .raw (.pointer none)
  | some T => tabP T
@[simp] theorem tabP_ids (K : Id → Prop) (T : Tab) : (tabP T).ids K := by simp [tabP, AV.ids]
@[simp] theorem tabO_ids (K : Id → Prop) (T : Option Tab) : (tabO T).ids K := by cases T <;> simp [tabO]
@[simp] theorem tabP_ok (T : Tab) : cellOK (tabP T) = true := rfl
@[simp] theorem tabP_cells (T : Tab) : (tabP T).cells = [tabP T] := rfl
@[simp] theorem tabP_flat1 (T : Tab) : (tabP T).flat1 = true := rfl
def newTab : Tab := ⟨.node .nil 0 1 .nil, .nil, 0⟩
theorem tabNew_calls : PCalls Try.prog 48 [] (tabP newTab) := by
  have h := trPut_calls .nil 0 1 (by simp [Tr.sz]) (by simp [Tr.sz])
  have e : Tr.with_ .nil 0 1 = .node .nil 0 1 .nil := rfl
  rw [e] at h
  unfold tabP newTab
  generalize Tr.node .nil 0 1 .nil = U at h ⊢
  refine pbody Try.func48 rfl (N := 12) rfl rfl (by simp) (by simp [noIds, AV.ids]) fun σ => ?_
  (try ((first | with_reducible refine dops_go ?_ | with_reducible refine OKv_go ?_ | with_reducible refine OKr_go ?_); simp [-cellOK])); repeat' (first | refine awp_seq ?_ | refine awp_block ?_ | (refine awp_skip ?_; try simp) | (refine awp_exit ?_; try simp) | (refine awp_ret ?_; try simp) | ((first | refine awp_reg ?_ | refine awp_drawT (fun _ => false) mixed (by decide +kernel) ?_ | refine awp_drawT isCallO mixed (by decide +kernel) ?_ | refine PCalls.use (trNew_calls) ?_ | refine Or.inl ⟨_, Or.inl (trNew_calls), ?_⟩ | refine PCalls.use (h) ?_ | refine Or.inl ⟨_, Or.inl (h), ?_⟩); simp [-cellOK]) | (refine guarded_split ?_ ?_ <;> (intro hg; simp only [hg]; simp [-cellOK])) | (apply awp_cond_t; focus (simp [-cellOK]; done)) | (apply awp_cond_f; focus (simp [-cellOK]; done)) | (refine awp_cond ?_; simp [-cellOK]; refine ⟨?_, ?_⟩ <;> intro hc) | fail)
  refine retP_give (x := .rp ⟨11, σ.nx 11, 3⟩ 0 0) (.inr rfl) (by repeat (first | assumption | exact Ext.refl _ | refine ext_new' ?_ | refine Ext.setF ?_ (by first | assumption | (simp [new_nx', St.set, fresh_none]; done) | exact ext_fresh (by assumption)))) ?_ ?_
  · simp [new_nx']
  · simp [giveUps, giveUp, fresh_none, new_m, new_nx']
theorem tabOwn_calls (T : Option Tab) : PCalls Try.prog 90 [tabO T] (tabP (T.getD newTab)) := by
  refine pbody Try.func90 rfl (N := 7) rfl rfl (by simp) (by simp [noIds]) fun σ => ?_
  cases T with
  | none => (try ((first | with_reducible refine dops_go ?_ | with_reducible refine OKv_go ?_ | with_reducible refine OKr_go ?_); simp [-cellOK, tabO])); repeat' (first | refine awp_seq ?_ | refine awp_block ?_ | (refine awp_skip ?_; try simp) | (refine awp_exit ?_; try simp) | (refine awp_ret ?_; try simp) | (refine retP_same (by simp) ?_; simp) | (refine retP_no (by simp) (by simp [noIds]) (by repeat (first | assumption | exact Ext.refl _ | refine ext_new' ?_ | refine Ext.setF ?_ (by first | assumption | (simp [new_nx', St.set, fresh_none]; done) | exact ext_fresh (by assumption)))) ?_; simp [-cellOK, tabO, new_m, set_m, new_nx']) | ((first | refine awp_reg ?_ | refine awp_drawT (fun _ => false) mixed (by decide +kernel) ?_ | refine awp_drawT isCallO mixed (by decide +kernel) ?_ | refine PCalls.use (tabNew_calls) ?_ | refine Or.inl ⟨_, Or.inl (tabNew_calls), ?_⟩); simp [-cellOK, tabO]) | (refine guarded_split ?_ ?_ <;> (intro hg; simp only [hg]; simp [-cellOK, tabO])) | (apply awp_cond_t; focus (simp [-cellOK, tabO]; done)) | (apply awp_cond_f; focus (simp [-cellOK, tabO]; done)) | (refine awp_cond ?_; simp [-cellOK, tabO]; refine ⟨?_, ?_⟩ <;> intro hc) | fail)
  | some T =>
    have e : tabP T = .pp [trP T.b, trP T.g, .raw (.int .i64 T.n)] 0 := rfl
    simp only [tabO, Option.getD_some, e]
    (try ((first | with_reducible refine dops_go ?_ | with_reducible refine OKv_go ?_ | with_reducible refine OKr_go ?_); simp [-cellOK])); repeat' (first | refine awp_seq ?_ | refine awp_block ?_ | (refine awp_skip ?_; try simp) | (refine awp_exit ?_; try simp) | (refine awp_ret ?_; try simp) | (refine retP_same (by simp) ?_; simp) | (refine retP_no (by simp) (by simp [noIds]) (by repeat (first | assumption | exact Ext.refl _ | refine ext_new' ?_ | refine Ext.setF ?_ (by first | assumption | (simp [new_nx', St.set, fresh_none]; done) | exact ext_fresh (by assumption)))) ?_; simp [-cellOK, new_m, set_m, new_nx']) | ((first | refine awp_reg ?_ | refine awp_drawT (fun _ => false) mixed (by decide +kernel) ?_ | refine awp_drawT isCallO mixed (by decide +kernel) ?_); simp [-cellOK]) | (refine guarded_split ?_ ?_ <;> (intro hg; simp only [hg]; simp [-cellOK])) | (apply awp_cond_t; focus (simp [-cellOK]; done)) | (apply awp_cond_f; focus (simp [-cellOK]; done)) | (refine awp_cond ?_; simp [-cellOK]; refine ⟨?_, ?_⟩ <;> intro hc) | fail)
/-- A tree with so many more at a key; a key of none goes. -/
def moreT (t : Tr) (k by_ : Int) : Tr := if (t.get k).getD 0 + by_ = 0 then t.without k else t.with_ k ((t.get k).getD 0 + by_)
structure MoreOK (t : Tr) (k by_ : Int) : Prop where
  sz : t.sz < 2 ^ 40
  lo : -2 ^ 40 < (t.get k).getD 0 + by_
  hi : (t.get k).getD 0 + by_ < 2 ^ 40
  drop : (t.get k).getD 0 + by_ = 0 → t.get k ≠ none
  room : t.get k = none → t.sz < 1024
theorem more_calls (t : Tr) (k by_ : Int) (h : MoreOK t k by_) : PCalls Try.prog 124 [trP t, .raw (.int .u64 k), .raw (.int .i64 by_)] (trP (moreT t k by_)) := by
  have hg := trGet_calls t k
  have w := wrap64 (n := (t.get k).getD 0 + by_) (by have := h.lo; omega) (by have := h.hi; omega)
  have hsz := h.sz
  by_cases h0 : (t.get k).getD 0 + by_ = 0
  · have hd := trDrop_calls t k (h.drop h0) (by omega)
    have e : moreT t k by_ = t.without k := by unfold moreT; rw [if_pos h0]
    rw [e]
    generalize t.without k = U at hd ⊢
    refine pbody Try.func124 rfl (N := 36) rfl rfl (by simp) (by simp [noIds]) fun σ => ?_
    generalize (t.get k).getD 0 = x at *
    generalize (t.get k).isSome = b at *
    rw [h0] at w
    have h0' : IntKind.i64.wrap (x + by_) = 0 := by rw [h0, w]
    (try ((first | with_reducible refine dops_go ?_ | with_reducible refine OKv_go ?_ | with_reducible refine OKr_go ?_); simp [-cellOK, h0, h0', w])); repeat' (first | refine awp_seq ?_ | refine awp_block ?_ | (refine awp_skip ?_; try simp) | (refine awp_exit ?_; try simp) | (refine awp_ret ?_; try simp) | (refine retP_same (by simp) ?_; simp) | (refine retP_no (by simp) (by simp [noIds]) (by repeat (first | assumption | exact Ext.refl _ | refine ext_new' ?_ | refine Ext.setF ?_ (by first | assumption | (simp [new_nx', St.set, fresh_none]; done) | exact ext_fresh (by assumption)))) ?_; simp [-cellOK, h0, h0', w, new_m, set_m, new_nx']) | ((first | refine awp_reg ?_ | refine awp_drawT (fun _ => false) mixed (by decide +kernel) ?_ | refine awp_drawT isCallO mixed (by decide +kernel) ?_ | refine PCalls.use (hg) ?_ | refine Or.inl ⟨_, Or.inl (hg), ?_⟩ | refine PCalls.use (hd) ?_ | refine Or.inl ⟨_, Or.inl (hd), ?_⟩); simp [-cellOK, h0, h0', w]) | (refine guarded_split ?_ ?_ <;> (intro hg; simp only [hg]; simp [-cellOK, h0, h0', w])) | (apply awp_cond_t; focus (simp [-cellOK, h0, h0', w]; done)) | (apply awp_cond_f; focus (simp [-cellOK, h0, h0', w]; done)) | (refine awp_cond ?_; simp [-cellOK, h0, h0', w]; refine ⟨?_, ?_⟩ <;> intro hc) | fail)
  · have hp := trPut_calls t k ((t.get k).getD 0 + by_) (by omega) h.room
    have e : moreT t k by_ = t.with_ k ((t.get k).getD 0 + by_) := by unfold moreT; rw [if_neg h0]
    rw [e]
    generalize t.with_ k ((t.get k).getD 0 + by_) = U at hp ⊢
    refine pbody Try.func124 rfl (N := 36) rfl rfl (by simp) (by simp [noIds]) fun σ => ?_
    generalize (t.get k).getD 0 = x at *
    generalize (t.get k).isSome = b at *
    (try ((first | with_reducible refine dops_go ?_ | with_reducible refine OKv_go ?_ | with_reducible refine OKr_go ?_); simp [-cellOK, w, h0])); repeat' (first | refine awp_seq ?_ | refine awp_block ?_ | (refine awp_skip ?_; try simp) | (refine awp_exit ?_; try simp) | (refine awp_ret ?_; try simp) | (refine retP_same (by simp) ?_; simp) | (refine retP_no (by simp) (by simp [noIds]) (by repeat (first | assumption | exact Ext.refl _ | refine ext_new' ?_ | refine Ext.setF ?_ (by first | assumption | (simp [new_nx', St.set, fresh_none]; done) | exact ext_fresh (by assumption)))) ?_; simp [-cellOK, w, h0, new_m, set_m, new_nx']) | ((first | refine awp_reg ?_ | refine awp_drawT (fun _ => false) mixed (by decide +kernel) ?_ | refine awp_drawT isCallO mixed (by decide +kernel) ?_ | refine PCalls.use (hg) ?_ | refine Or.inl ⟨_, Or.inl (hg), ?_⟩ | refine PCalls.use (hp) ?_ | refine Or.inl ⟨_, Or.inl (hp), ?_⟩); simp [-cellOK, w, h0]) | (refine guarded_split ?_ ?_ <;> (intro hg; simp only [hg]; simp [-cellOK, w, h0])) | (apply awp_cond_t; focus (simp [-cellOK, w, h0]; done)) | (apply awp_cond_f; focus (simp [-cellOK, w, h0]; done)) | (refine awp_cond ?_; simp [-cellOK, w, h0]; refine ⟨?_, ?_⟩ <;> intro hc) | fail)

/-- A range of addresses. -/
structure RgOK (r : Rg) : Prop where
  lo0 : 0 ≤ r.lo
  lo1 : r.lo < 4294967296
  hi0 : 0 ≤ r.hi
  hi1 : r.hi < 4294967296
def keyR (r : Rg) : Int := r.lo * 4294967296 + r.hi
theorem rg_cells (r : Rg) : (rgAV r).cells = [.raw (.int .u32 r.lo), .raw (.int .u32 r.hi)] := rfl
theorem rg_fold (r : Rg) : AV.agg [.raw (.int .u32 r.lo), .raw (.int .u32 r.hi)] = rgAV r := rfl
theorem or_key {lo hi : Int} (h0 : 0 ≤ lo) (h1 : lo < 4294967296) (h2 : 0 ≤ hi) (h3 : hi < 4294967296) :
    (BitVec.ofInt 64 (lo * 4294967296) ||| BitVec.ofInt 64 hi).toNat = (lo * 4294967296 + hi).toNat := by
  obtain ⟨a, rfl⟩ := Int.eq_ofNat_of_zero_le h0
  obtain ⟨b, rfl⟩ := Int.eq_ofNat_of_zero_le h2
  have e1 : ((a : Int) * 4294967296) = ((a * 4294967296 : Nat) : Int) := by omega
  have e2 : ((a : Int) * 4294967296 + b) = ((a * 4294967296 + b : Nat) : Int) := by omega
  rw [BitVec.toNat_or, e2, e1, BitVec.ofInt_natCast, BitVec.ofInt_natCast, BitVec.toNat_ofNat, BitVec.toNat_ofNat, Int.toNat_natCast]
  rw [Nat.mod_eq_of_lt (by omega), Nat.mod_eq_of_lt (by omega)]
  have := Nat.shiftLeft_add_eq_or_of_lt (a := a) (b := b) (i := 32) (by omega)
  rw [Nat.shiftLeft_eq] at this
  exact this.symm
theorem key_calls (r : Rg) (h : RgOK r) : PCalls Try.prog 125 [rgAV r] (.raw (.int .u64 (keyR r))) := by
  obtain ⟨a1, a2, a3, a4⟩ := h
  have w1 : IntKind.u64.wrap r.lo = r.lo := wrapU64 (by omega) (by omega)
  have w2 : IntKind.u64.wrap r.hi = r.hi := wrapU64 (by omega) (by omega)
  have w3 : IntKind.u64.wrap (r.lo * 4294967296) = r.lo * 4294967296 := wrapU64 (by omega) (by omega)
  have w4 : ((r.lo * 4294967296 % 18446744073709551616).toNat ||| (r.hi % 18446744073709551616).toNat) = (keyR r).toNat := by
    have := or_key a1 a2 a3 a4
    rw [BitVec.toNat_or, BitVec.toNat_ofInt, BitVec.toNat_ofInt] at this
    exact this
  have hk : ((keyR r).toNat : Int) = keyR r := by unfold keyR; omega
  have w5 : IntKind.u64.wrap (keyR r) = keyR r := wrapU64 (by unfold keyR; omega) (by unfold keyR; omega)
  have b1 : IntKind.u64.bits = 64 := rfl
  refine pbody Try.func125 rfl (N := 11) rfl rfl (by simp) (by simp [noIds]) fun σ => ?_
  generalize keyR r = y at *
  (try ((first | with_reducible refine dops_go ?_ | with_reducible refine OKv_go ?_ | with_reducible refine OKr_go ?_); simp [-cellOK, rg_cells, w1, w2, w3, w4, w5, hk, b1])); repeat' (first | refine awp_seq ?_ | refine awp_block ?_ | (refine awp_skip ?_; try simp) | (refine awp_exit ?_; try simp) | (refine awp_ret ?_; try simp) | (refine retP_same (by simp) ?_; simp) | (refine retP_no (by simp) (by simp [noIds]) (by repeat (first | assumption | exact Ext.refl _ | refine ext_new' ?_ | refine Ext.setF ?_ (by first | assumption | (simp [new_nx', St.set, fresh_none]; done) | exact ext_fresh (by assumption)))) ?_; simp [-cellOK, rg_cells, w1, w2, w3, w4, w5, hk, b1, new_m, set_m, new_nx']) | ((first | refine awp_reg ?_ | refine awp_drawT (fun _ => false) mixed (by decide +kernel) ?_ | refine awp_drawT isCallO mixed (by decide +kernel) ?_); simp [-cellOK, rg_cells, w1, w2, w3, w4, w5, hk, b1]) | (refine guarded_split ?_ ?_ <;> (intro hg; simp only [hg]; simp [-cellOK, rg_cells, w1, w2, w3, w4, w5, hk, b1])) | (apply awp_cond_t; focus (simp [-cellOK, rg_cells, w1, w2, w3, w4, w5, hk, b1]; done)) | (apply awp_cond_f; focus (simp [-cellOK, rg_cells, w1, w2, w3, w4, w5, hk, b1]; done)) | (refine awp_cond ?_; simp [-cellOK, rg_cells, w1, w2, w3, w4, w5, hk, b1]; refine ⟨?_, ?_⟩ <;> intro hc) | fail)
end Go.Proofs.Ytanimmdlgmkmkaa.Av


/- Tables of atoms: ends; a range more, or less; how many, which, where. -/
namespace Go.Proofs.Ytanimmdlgmkmkaa.Av
open Go
set_option linter.unusedSimpArgs false
set_option linter.unusedVariables false
set_option maxRecDepth 100000
set_option maxHeartbeats 4000000
set_option pp.maxSteps 600

def uuAV (x : Int) : AV := .raw (.int .u64 x)
def uusAV (l : List Int) : AV := .sl 1 (l.map uuAV) false
@[simp] theorem uus_ids (K : Id → Prop) (l : List Int) : (uusAV l).ids K := by simp only [uusAV, AV.ids]; exact idsL_map (fun x => by simp [uuAV]) l
def endsR (r : Rg) : List Int := if r.hi < 4294967295 then [r.lo, r.hi + 1] else [r.lo]
theorem ends_calls (r : Rg) (h : RgOK r) : PCalls Try.prog 126 [rgAV r] (uusAV (endsR r)) := by
  obtain ⟨a1, a2, a3, a4⟩ := h
  have w1 : IntKind.u64.wrap r.lo = r.lo := wrapU64 (by omega) (by omega)
  have w2 : IntKind.u64.wrap r.hi = r.hi := wrapU64 (by omega) (by omega)
  have w3 : IntKind.u64.wrap (r.hi + 1) = r.hi + 1 := wrapU64 (by omega) (by omega)
  refine pbody Try.func126 rfl (N := 19) rfl rfl (by simp) (by simp [noIds]) fun σ => ?_
  unfold endsR
  by_cases q : r.hi < 4294967295
  · rw [if_pos q]
    (try ((first | with_reducible refine dops_go ?_ | with_reducible refine OKv_go ?_ | with_reducible refine OKr_go ?_); simp [-cellOK, rg_cells, w1, w2, w3, q, -opAppend])); repeat' (first | refine awp_seq ?_ | refine awp_block ?_ | (refine awp_skip ?_; try simp) | (refine awp_exit ?_; try simp) | (refine awp_ret ?_; try simp) | (refine retP_same (by simp) ?_; simp) | (refine retP_no (by simp) (by simp [noIds]) (by repeat (first | assumption | exact Ext.refl _ | refine ext_new' ?_ | refine Ext.setF ?_ (by first | assumption | (simp [new_nx', St.set, fresh_none]; done) | exact ext_fresh (by assumption)))) ?_; simp [-cellOK, rg_cells, w1, w2, w3, q, -opAppend, new_m, set_m, new_nx']) | ((first | refine awp_reg ?_ | refine awp_drawT (fun _ => false) mixed (by decide +kernel) ?_ | refine awp_drawT isCallO mixed (by decide +kernel) ?_); simp [-cellOK, rg_cells, w1, w2, w3, q, -opAppend]) | (refine guarded_split ?_ ?_ <;> (intro hg; simp only [hg]; simp [-cellOK, rg_cells, w1, w2, w3, q, -opAppend])) | (apply awp_cond_t; focus (simp [-cellOK, rg_cells, w1, w2, w3, q, -opAppend]; done)) | (apply awp_cond_f; focus (simp [-cellOK, rg_cells, w1, w2, w3, q, -opAppend]; done)) | (refine awp_cond ?_; simp [-cellOK, rg_cells, w1, w2, w3, q, -opAppend]; refine ⟨?_, ?_⟩ <;> intro hc) | fail)
    refine okr_append slt182 (σ0 := σ) (es := [uuAV r.lo]) (OwnL.of (j := ⟨7, σ.nx 7, 1⟩) rfl (by simp [new_m, new_nx', uuAV]) (fresh_none _ _ _) rfl) ((by repeat (first | assumption | exact Ext.refl _ | refine ext_new' ?_ | refine Ext.setF ?_ (by first | assumption | (simp [new_nx', St.set, fresh_none]; done) | exact ext_fresh (by assumption))))) (ys := [uuAV (r.hi + 1)]) (by simp [uuAV, new_m, new_nx']) (.inr rfl) (by simp [uuAV]) (by simp) ?_
    intro v' τ' hO hE _ _
    (try ((first | with_reducible refine dops_go ?_ | with_reducible refine OKv_go ?_ | with_reducible refine OKr_go ?_); simp [-cellOK])); repeat' (first | refine awp_seq ?_ | refine awp_block ?_ | (refine awp_skip ?_; try simp) | (refine awp_exit ?_; try simp) | (refine awp_ret ?_; try simp) | ((first | refine awp_reg ?_ | refine awp_drawT (fun _ => false) mixed (by decide +kernel) ?_ | refine awp_drawT isCallO mixed (by decide +kernel) ?_); simp [-cellOK]) | (refine guarded_split ?_ ?_ <;> (intro hg; simp only [hg]; simp [-cellOK])) | (apply awp_cond_t; focus (simp [-cellOK]; done)) | (apply awp_cond_f; focus (simp [-cellOK]; done)) | (refine awp_cond ?_; simp [-cellOK]; refine ⟨?_, ?_⟩ <;> intro hc) | fail)
    exact retP_own (.inr rfl) (by simp) hO hE
  · rw [if_neg q]
    (try ((first | with_reducible refine dops_go ?_ | with_reducible refine OKv_go ?_ | with_reducible refine OKr_go ?_); simp [-cellOK, rg_cells, w1, w2, w3, q])); repeat' (first | refine awp_seq ?_ | refine awp_block ?_ | (refine awp_skip ?_; try simp) | (refine awp_exit ?_; try simp) | (refine awp_ret ?_; try simp) | ((first | refine awp_reg ?_ | refine awp_drawT (fun _ => false) mixed (by decide +kernel) ?_ | refine awp_drawT isCallO mixed (by decide +kernel) ?_); simp [-cellOK, rg_cells, w1, w2, w3, q]) | (refine guarded_split ?_ ?_ <;> (intro hg; simp only [hg]; simp [-cellOK, rg_cells, w1, w2, w3, q])) | (apply awp_cond_t; focus (simp [-cellOK, rg_cells, w1, w2, w3, q]; done)) | (apply awp_cond_f; focus (simp [-cellOK, rg_cells, w1, w2, w3, q]; done)) | (refine awp_cond ?_; simp [-cellOK, rg_cells, w1, w2, w3, q]; refine ⟨?_, ?_⟩ <;> intro hc) | fail)
    refine retP_give (x := .rs ⟨7, σ.nx 7, 1⟩ 0 1) (.inr rfl) (by repeat (first | assumption | exact Ext.refl _ | refine ext_new' ?_ | refine Ext.setF ?_ (by first | assumption | (simp [new_nx', St.set, fresh_none]; done) | exact ext_fresh (by assumption)))) ?_ ?_
    · simp [new_nx']
    · simp [giveUps, giveUp, fresh_none, new_m, new_nx', uusAV, uuAV]

def Tab.with_ (T : Tab) (r : Rg) (by_ : Int) : Tab := ⟨(endsR r).foldl (fun b e => moreT b e by_) T.b, moreT T.g (keyR r) by_, T.n + by_⟩
structure WithOK (T : Tab) (r : Rg) (by_ : Int) : Prop where
  rg : RgOK r
  n0 : -2 ^ 40 < T.n + by_
  n1 : T.n + by_ < 2 ^ 40
  key : MoreOK T.g (keyR r) by_
  ends : ∀ (i : Nat) (e : Int), (endsR r)[i]? = some e → MoreOK (((endsR r).take i).foldl (fun b e => moreT b e by_) T.b) e by_
theorem tabP_eq (T : Tab) : tabP T = .pp [trP T.b, trP T.g, .raw (.int .i64 T.n)] 0 := rfl
theorem trP_setPart (t : Tr) (off : Nat) (x : AV) : setPart (trP t) off [x] = x := rfl
theorem with_calls (T : Tab) (r : Rg) (by_ : Int) (h : WithOK T r by_) : PCalls Try.prog 91 [tabP T, rgAV r, .raw (.int .i64 by_)] (tabP (T.with_ r by_)) := by
  have w := wrap64 (n := T.n + by_) (by have := h.n0; omega) (by have := h.n1; omega)
  have hk := key_calls r h.rg
  have hm := more_calls T.g (keyR r) by_ h.key
  have he := ends_calls r h.rg
  have hlen : (endsR r).length ≤ 2 := by unfold endsR; split <;> simp
  have hends := h.ends
  rw [tabP_eq (T.with_ r by_)]
  unfold Tab.with_
  simp only []
  generalize moreT T.g (keyR r) by_ = G at hm ⊢
  generalize endsR r = E at he hlen hends ⊢
  rw [tabP_eq]
  refine pbody Try.func91 rfl (N := 49) rfl rfl (by simp) (by simp [noIds]) fun σ => ?_
  have f29 : σ.m ⟨29, σ.nx 29, 3⟩ = none := fresh_none _ _ _
  (try ((first | with_reducible refine dops_go ?_ | with_reducible refine OKv_go ?_ | with_reducible refine OKr_go ?_); simp [-cellOK, rg_cells, rg_fold, w])); repeat' (first | refine awp_seq ?_ | refine awp_block ?_ | (refine awp_skip ?_; try simp) | (refine awp_exit ?_; try simp) | (refine awp_ret ?_; try simp) | (refine retP_same (by simp) ?_; simp) | (refine retP_no (by simp) (by simp [noIds]) (by repeat (first | assumption | exact Ext.refl _ | refine ext_new' ?_ | refine Ext.setF ?_ (by first | assumption | (simp [new_nx', St.set, fresh_none]; done) | exact ext_fresh (by assumption)))) ?_; simp [-cellOK, rg_cells, rg_fold, w, new_m, set_m, new_nx']) | ((first | refine awp_reg ?_ | refine awp_drawT (fun _ => false) mixed (by decide +kernel) ?_ | refine awp_drawT isCallO mixed (by decide +kernel) ?_ | refine PCalls.use (hk) ?_ | refine Or.inl ⟨_, Or.inl (hk), ?_⟩ | refine PCalls.use (hm) ?_ | refine Or.inl ⟨_, Or.inl (hm), ?_⟩ | refine PCalls.use (he) ?_ | refine Or.inl ⟨_, Or.inl (he), ?_⟩); simp [-cellOK, rg_cells, rg_fold, w]) | (refine guarded_split ?_ ?_ <;> (intro hg; simp only [hg]; simp [-cellOK, rg_cells, rg_fold, w])) | (apply awp_cond_t; focus (simp [-cellOK, rg_cells, rg_fold, w]; done)) | (apply awp_cond_f; focus (simp [-cellOK, rg_cells, rg_fold, w]; done)) | (refine awp_cond ?_; simp [-cellOK, rg_cells, rg_fold, w]; refine ⟨?_, ?_⟩ <;> intro hc) | fail)
  refine awp_loopH (fun n A τ => Ext σ τ ∧ A 2 = .raw (.int .i64 by_) ∧ A 7 = .rp ⟨29, σ.nx 29, 3⟩ 0 0 ∧ A 31 = uusAV E ∧ A 32 = .raw (.int .i64 E.length) ∧ ∃ i : Nat, A 33 = .raw (.int .i64 i) ∧ i ≤ E.length ∧ n = E.length - i ∧ τ.m ⟨29, σ.nx 29, 3⟩ = some (.buf [.agg [trP ((E.take i).foldl (fun b e => moreT b e by_) T.b), trP G, .raw (.int .i64 (T.n + by_))]])) E.length ?_ ?_
  · exact ⟨(by repeat (first | assumption | exact Ext.refl _ | refine ext_new' ?_ | refine Ext.setF ?_ (by first | assumption | (simp [new_nx', St.set, fresh_none]; done) | exact ext_fresh (by assumption)))), by simp, by simp [new_nx'], by simp [uusAV], by simp [uusAV], 0, by simp, by omega, by omega, by simp [new_m, new_nx']⟩
  rintro n A τ ⟨hE, a2, a7, a31, a32, i, a33, hi, rfl, hmm⟩ I1 hI1
  by_cases hlt : i < E.length
  · have hx : E[i]? = some E[i] := List.getElem?_eq_getElem hlt
    have w1 : IntKind.i64.wrap ((i : Int) + 1) = ((i + 1 : Nat) : Int) := by rw [wrap64 (by omega) (by omega)]; omega
    have hmo := more_calls _ _ by_ (hends i _ hx)
    have hf : (E.take (i + 1)).foldl (fun b e => moreT b e by_) T.b = moreT ((E.take i).foldl (fun b e => moreT b e by_) T.b) E[i] by_ := by
      rw [List.take_add_one, hx, List.foldl_append]; rfl
    rw [← hf] at hmo
    generalize (E.take i).foldl (fun b e => moreT b e by_) T.b = B at hmo hmm hf
    obtain ⟨B', hB'⟩ : ∃ x, (E.take (i + 1)).foldl (fun b e => moreT b e by_) T.b = x := ⟨_, rfl⟩
    rw [hB'] at hmo
    (try ((first | with_reducible refine dops_go ?_ | with_reducible refine OKv_go ?_ | with_reducible refine OKr_go ?_); simp [-cellOK, a2, a7, a31, a32, a33, hlt, hx, hmm, w1, uusAV, uuAV, trP_setPart])); repeat' (first | refine awp_seq ?_ | refine awp_block ?_ | (refine awp_skip ?_; try simp) | (refine awp_exit ?_; try simp) | (refine awp_ret ?_; try simp) | (refine retP_same (by simp) ?_; simp) | (refine retP_no (by simp) (by simp [noIds]) (by repeat (first | assumption | exact Ext.refl _ | refine ext_new' ?_ | refine Ext.setF ?_ (by first | assumption | (simp [new_nx', St.set, fresh_none]; done) | exact ext_fresh (by assumption)))) ?_; simp [-cellOK, a2, a7, a31, a32, a33, hlt, hx, hmm, w1, uusAV, uuAV, trP_setPart, new_m, set_m, new_nx']) | ((first | refine awp_reg ?_ | refine awp_drawT (fun _ => false) mixed (by decide +kernel) ?_ | refine awp_drawT isCallO mixed (by decide +kernel) ?_ | refine PCalls.use (hmo) ?_ | refine Or.inl ⟨_, Or.inl (hmo), ?_⟩); simp [-cellOK, a2, a7, a31, a32, a33, hlt, hx, hmm, w1, uusAV, uuAV, trP_setPart]) | (refine guarded_split ?_ ?_ <;> (intro hg; simp only [hg]; simp [-cellOK, a2, a7, a31, a32, a33, hlt, hx, hmm, w1, uusAV, uuAV, trP_setPart])) | (apply awp_cond_t; focus (simp [-cellOK, a2, a7, a31, a32, a33, hlt, hx, hmm, w1, uusAV, uuAV, trP_setPart]; done)) | (apply awp_cond_f; focus (simp [-cellOK, a2, a7, a31, a32, a33, hlt, hx, hmm, w1, uusAV, uuAV, trP_setPart]; done)) | (refine awp_cond ?_; simp [-cellOK, a2, a7, a31, a32, a33, hlt, hx, hmm, w1, uusAV, uuAV, trP_setPart]; refine ⟨?_, ?_⟩ <;> intro hc) | fail)
    refine hI1 (E.length - (i + 1)) _ _ (by omega) ⟨Ext.setF hE f29, by simp [a2], by simp [a7], by simp [a31, uusAV], by simp [a32], i + 1, by simp, by omega, rfl, ?_⟩
    simp [set_m, hmm, hB']
  · have : i = E.length := by omega
    subst this
    rw [List.take_length] at hmm
    generalize E.foldl (fun b e => moreT b e by_) T.b = B at hmm ⊢
    (try ((first | with_reducible refine dops_go ?_ | with_reducible refine OKv_go ?_ | with_reducible refine OKr_go ?_); simp [-cellOK, a2, a7, a31, a32, a33])); repeat' (first | refine awp_seq ?_ | refine awp_block ?_ | (refine awp_skip ?_; try simp) | (refine awp_exit ?_; try simp) | (refine awp_ret ?_; try simp) | ((first | refine awp_reg ?_ | refine awp_drawT (fun _ => false) mixed (by decide +kernel) ?_ | refine awp_drawT isCallO mixed (by decide +kernel) ?_); simp [-cellOK, a2, a7, a31, a32, a33]) | (refine guarded_split ?_ ?_ <;> (intro hg; simp only [hg]; simp [-cellOK, a2, a7, a31, a32, a33])) | (apply awp_cond_t; focus (simp [-cellOK, a2, a7, a31, a32, a33]; done)) | (apply awp_cond_f; focus (simp [-cellOK, a2, a7, a31, a32, a33]; done)) | (refine awp_cond ?_; simp [-cellOK, a2, a7, a31, a32, a33]; refine ⟨?_, ?_⟩ <;> intro hc) | fail)
    refine retP_give (x := .rp ⟨29, σ.nx 29, 3⟩ 0 0) (.inr rfl) hE ?_ ?_
    · simp
    · simp [giveUps, giveUp, f29, hmm]

/-- A range once more. -/
def addT (T : Option Tab) (r : Rg) : Option Tab × Int := if r.hi < r.lo then (none, 51) else if 500 ≤ (T.getD newTab).n then (none, 41) else (some ((T.getD newTab).with_ r 1), 0)
theorem add_calls (T : Option Tab) (r : Rg) (h : r.lo ≤ r.hi → (T.getD newTab).n < 500 → WithOK (T.getD newTab) r 1) : PCalls Try.prog 49 [tabO T, rgAV r] (.tup [tabO (addT T r).1, .raw (.int .i64 (addT T r).2)]) := by
  have ho := tabOwn_calls T
  unfold addT
  refine pbody Try.func49 rfl (N := 23) rfl rfl (by simp) (by simp [noIds]) fun σ => ?_
  by_cases q1 : r.hi < r.lo
  · rw [if_pos q1]
    rw [tabP_eq] at ho
    (try ((first | with_reducible refine dops_go ?_ | with_reducible refine OKv_go ?_ | with_reducible refine OKr_go ?_); simp [-cellOK, rg_cells, rg_fold, q1, tabO])); repeat' (first | refine awp_seq ?_ | refine awp_block ?_ | (refine awp_skip ?_; try simp) | (refine awp_exit ?_; try simp) | (refine awp_ret ?_; try simp) | (refine retP_same (by simp) ?_; simp) | (refine retP_no (by simp) (by simp [noIds]) (by repeat (first | assumption | exact Ext.refl _ | refine ext_new' ?_ | refine Ext.setF ?_ (by first | assumption | (simp [new_nx', St.set, fresh_none]; done) | exact ext_fresh (by assumption)))) ?_; simp [-cellOK, rg_cells, rg_fold, q1, tabO, new_m, set_m, new_nx']) | ((first | refine awp_reg ?_ | refine awp_drawT (fun _ => false) mixed (by decide +kernel) ?_ | refine awp_drawT isCallO mixed (by decide +kernel) ?_ | refine PCalls.use (ho) ?_ | refine Or.inl ⟨_, Or.inl (ho), ?_⟩); simp [-cellOK, rg_cells, rg_fold, q1, tabO]) | (refine guarded_split ?_ ?_ <;> (intro hg; simp only [hg]; simp [-cellOK, rg_cells, rg_fold, q1, tabO])) | (apply awp_cond_t; focus (simp [-cellOK, rg_cells, rg_fold, q1, tabO]; done)) | (apply awp_cond_f; focus (simp [-cellOK, rg_cells, rg_fold, q1, tabO]; done)) | (refine awp_cond ?_; simp [-cellOK, rg_cells, rg_fold, q1, tabO]; refine ⟨?_, ?_⟩ <;> intro hc) | fail)
  · rw [if_neg q1]
    by_cases q2 : 500 ≤ (T.getD newTab).n
    · rw [if_pos q2]
      rw [tabP_eq] at ho
      (try ((first | with_reducible refine dops_go ?_ | with_reducible refine OKv_go ?_ | with_reducible refine OKr_go ?_); simp [-cellOK, rg_cells, rg_fold, q1, q2, tabO])); repeat' (first | refine awp_seq ?_ | refine awp_block ?_ | (refine awp_skip ?_; try simp) | (refine awp_exit ?_; try simp) | (refine awp_ret ?_; try simp) | (refine retP_same (by simp) ?_; simp) | (refine retP_no (by simp) (by simp [noIds]) (by repeat (first | assumption | exact Ext.refl _ | refine ext_new' ?_ | refine Ext.setF ?_ (by first | assumption | (simp [new_nx', St.set, fresh_none]; done) | exact ext_fresh (by assumption)))) ?_; simp [-cellOK, rg_cells, rg_fold, q1, q2, tabO, new_m, set_m, new_nx']) | ((first | refine awp_reg ?_ | refine awp_drawT (fun _ => false) mixed (by decide +kernel) ?_ | refine awp_drawT isCallO mixed (by decide +kernel) ?_ | refine PCalls.use (ho) ?_ | refine Or.inl ⟨_, Or.inl (ho), ?_⟩); simp [-cellOK, rg_cells, rg_fold, q1, q2, tabO]) | (refine guarded_split ?_ ?_ <;> (intro hg; simp only [hg]; simp [-cellOK, rg_cells, rg_fold, q1, q2, tabO])) | (apply awp_cond_t; focus (simp [-cellOK, rg_cells, rg_fold, q1, q2, tabO]; done)) | (apply awp_cond_f; focus (simp [-cellOK, rg_cells, rg_fold, q1, q2, tabO]; done)) | (refine awp_cond ?_; simp [-cellOK, rg_cells, rg_fold, q1, q2, tabO]; refine ⟨?_, ?_⟩ <;> intro hc) | fail)
    · rw [if_neg q2]
      have hw := with_calls (T.getD newTab) r 1 (h (by omega) (by omega))
      generalize (T.getD newTab).with_ r 1 = U at hw ⊢
      rw [tabP_eq (T.getD newTab)] at ho hw
      (try ((first | with_reducible refine dops_go ?_ | with_reducible refine OKv_go ?_ | with_reducible refine OKr_go ?_); simp [-cellOK, rg_cells, rg_fold, q1, q2, tabO])); repeat' (first | refine awp_seq ?_ | refine awp_block ?_ | (refine awp_skip ?_; try simp) | (refine awp_exit ?_; try simp) | (refine awp_ret ?_; try simp) | (refine retP_same (by simp) ?_; simp) | (refine retP_no (by simp) (by simp [noIds]) (by repeat (first | assumption | exact Ext.refl _ | refine ext_new' ?_ | refine Ext.setF ?_ (by first | assumption | (simp [new_nx', St.set, fresh_none]; done) | exact ext_fresh (by assumption)))) ?_; simp [-cellOK, rg_cells, rg_fold, q1, q2, tabO, new_m, set_m, new_nx']) | ((first | refine awp_reg ?_ | refine awp_drawT (fun _ => false) mixed (by decide +kernel) ?_ | refine awp_drawT isCallO mixed (by decide +kernel) ?_ | refine PCalls.use (ho) ?_ | refine Or.inl ⟨_, Or.inl (ho), ?_⟩ | refine PCalls.use (hw) ?_ | refine Or.inl ⟨_, Or.inl (hw), ?_⟩); simp [-cellOK, rg_cells, rg_fold, q1, q2, tabO]) | (refine guarded_split ?_ ?_ <;> (intro hg; simp only [hg]; simp [-cellOK, rg_cells, rg_fold, q1, q2, tabO])) | (apply awp_cond_t; focus (simp [-cellOK, rg_cells, rg_fold, q1, q2, tabO]; done)) | (apply awp_cond_f; focus (simp [-cellOK, rg_cells, rg_fold, q1, q2, tabO]; done)) | (refine awp_cond ?_; simp [-cellOK, rg_cells, rg_fold, q1, q2, tabO]; refine ⟨?_, ?_⟩ <;> intro hc) | fail)
def cntT (T : Option Tab) (r : Rg) : Int := ((T.getD newTab).g.get (keyR r)).getD 0
def dropT (T : Option Tab) (r : Rg) : Option Tab × Int := if cntT T r = 0 then (none, 51) else (some ((T.getD newTab).with_ r (-1)), 0)
/-- The i-th atom. -/
def atomT (T : Option Tab) (i : Int) : Option Rg := ((T.getD newTab).b.atI i).map fun p => ⟨IntKind.u32.wrap p.1, IntKind.u32.wrap (match (T.getD newTab).b.atI (i + 1) with | some q => IntKind.u64.wrap (q.1 - 1) | none => 4294967295)⟩
theorem atom_calls (T : Option Tab) (i : Int) (hz : (T.getD newTab).b.sz < 2 ^ 40) : PCalls Try.prog 52 [tabO T, .raw (.int .i64 i)] (.tup [rgAV ((atomT T i).getD ⟨0, 0⟩), .raw (.bool (atomT T i).isSome)]) := by
  have ho := tabOwn_calls T
  have h1 := trAt_calls (T.getD newTab).b i (by omega)
  have h2 := trAt_calls (T.getD newTab).b (i + 1) (by omega)
  rw [tabP_eq] at ho
  unfold atomT
  have hrp : ∀ x y : Int, setPart (AV.agg [.raw (.int .u32 0), .raw (.int .u32 0)]) 0 [.raw (.int .u32 x), .raw (.int .u32 y)] = rgAV ⟨x, y⟩ := fun _ _ => rfl
  have hrf : ∀ x y : Int, AV.agg [.raw (.int .u32 x), .raw (.int .u32 y)] = rgAV ⟨x, y⟩ := fun _ _ => rfl
  have hrq : ∀ x y : Int, setPart (rgAV ⟨0, 0⟩) 0 [.raw (.int .u32 x), .raw (.int .u32 y)] = rgAV ⟨x, y⟩ := fun _ _ => rfl
  refine pbody Try.func52 rfl (N := 43) rfl rfl (by simp) (by simp [noIds]) fun σ => ?_
  cases hq : (T.getD newTab).b.atI i with
  | none =>
    rw [hq] at h1
    (try ((first | with_reducible refine dops_go ?_ | with_reducible refine OKv_go ?_ | with_reducible refine OKr_go ?_); simp [-cellOK, rg_cells, hrf, hrq, hrp, pr_cells, pr_fold, pr_put, pr_putO, tabO])); repeat' (first | refine awp_seq ?_ | refine awp_block ?_ | (refine awp_skip ?_; try simp) | (refine awp_exit ?_; try simp) | (refine awp_ret ?_; try simp) | (refine retP_same (by simp) ?_; simp) | (refine retP_no (by simp) (by simp [noIds]) (by repeat (first | assumption | exact Ext.refl _ | refine ext_new' ?_ | refine Ext.setF ?_ (by first | assumption | (simp [new_nx', St.set, fresh_none]; done) | exact ext_fresh (by assumption)))) ?_; simp [-cellOK, rg_cells, hrf, hrq, hrp, pr_cells, pr_fold, pr_put, pr_putO, tabO, new_m, set_m, new_nx']) | ((first | refine awp_reg ?_ | refine awp_drawT (fun _ => false) mixed (by decide +kernel) ?_ | refine awp_drawT isCallO mixed (by decide +kernel) ?_ | refine PCalls.use (ho) ?_ | refine Or.inl ⟨_, Or.inl (ho), ?_⟩ | refine PCalls.use (h1) ?_ | refine Or.inl ⟨_, Or.inl (h1), ?_⟩); simp [-cellOK, rg_cells, hrf, hrq, hrp, pr_cells, pr_fold, pr_put, pr_putO, tabO]) | (refine guarded_split ?_ ?_ <;> (intro hg; simp only [hg]; simp [-cellOK, rg_cells, hrf, hrq, hrp, pr_cells, pr_fold, pr_put, pr_putO, tabO])) | (apply awp_cond_t; focus (simp [-cellOK, rg_cells, hrf, hrq, hrp, pr_cells, pr_fold, pr_put, pr_putO, tabO]; done)) | (apply awp_cond_f; focus (simp [-cellOK, rg_cells, hrf, hrq, hrp, pr_cells, pr_fold, pr_put, pr_putO, tabO]; done)) | (refine awp_cond ?_; simp [-cellOK, rg_cells, hrf, hrq, hrp, pr_cells, pr_fold, pr_put, pr_putO, tabO]; refine ⟨?_, ?_⟩ <;> intro hc) | fail)
  | some p =>
    rw [hq] at h1
    have hi : 0 ≤ i ∧ i < (T.getD newTab).b.sz := by
      unfold Tr.atI at hq
      split at hq
      · rename_i h0
        refine ⟨h0, ?_⟩
        apply Classical.byContradiction
        intro hn
        rw [Tr.at_none _ _ (by omega)] at hq; cases hq
      · cases hq
    have w := wrap64 (n := i + 1) (by omega) (by omega)
    cases hq2 : (T.getD newTab).b.atI (i + 1) with
    | none =>
      rw [hq2] at h2
      (try ((first | with_reducible refine dops_go ?_ | with_reducible refine OKv_go ?_ | with_reducible refine OKr_go ?_); simp [-cellOK, rg_cells, hrf, hrq, hrp, pr_cells, pr_fold, pr_put, pr_putO, tabO, w])); repeat' (first | refine awp_seq ?_ | refine awp_block ?_ | (refine awp_skip ?_; try simp) | (refine awp_exit ?_; try simp) | (refine awp_ret ?_; try simp) | (refine retP_same (by simp) ?_; simp) | (refine retP_no (by simp) (by simp [noIds]) (by repeat (first | assumption | exact Ext.refl _ | refine ext_new' ?_ | refine Ext.setF ?_ (by first | assumption | (simp [new_nx', St.set, fresh_none]; done) | exact ext_fresh (by assumption)))) ?_; simp [-cellOK, rg_cells, hrf, hrq, hrp, pr_cells, pr_fold, pr_put, pr_putO, tabO, w, new_m, set_m, new_nx']) | ((first | refine awp_reg ?_ | refine awp_drawT (fun _ => false) mixed (by decide +kernel) ?_ | refine awp_drawT isCallO mixed (by decide +kernel) ?_ | refine PCalls.use (ho) ?_ | refine Or.inl ⟨_, Or.inl (ho), ?_⟩ | refine PCalls.use (h1) ?_ | refine Or.inl ⟨_, Or.inl (h1), ?_⟩ | refine PCalls.use (h2) ?_ | refine Or.inl ⟨_, Or.inl (h2), ?_⟩); simp [-cellOK, rg_cells, hrf, hrq, hrp, pr_cells, pr_fold, pr_put, pr_putO, tabO, w]) | (refine guarded_split ?_ ?_ <;> (intro hg; simp only [hg]; simp [-cellOK, rg_cells, hrf, hrq, hrp, pr_cells, pr_fold, pr_put, pr_putO, tabO, w])) | (apply awp_cond_t; focus (simp [-cellOK, rg_cells, hrf, hrq, hrp, pr_cells, pr_fold, pr_put, pr_putO, tabO, w]; done)) | (apply awp_cond_f; focus (simp [-cellOK, rg_cells, hrf, hrq, hrp, pr_cells, pr_fold, pr_put, pr_putO, tabO, w]; done)) | (refine awp_cond ?_; simp [-cellOK, rg_cells, hrf, hrq, hrp, pr_cells, pr_fold, pr_put, pr_putO, tabO, w]; refine ⟨?_, ?_⟩ <;> intro hc) | fail)
    | some q =>
      rw [hq2] at h2
      (try ((first | with_reducible refine dops_go ?_ | with_reducible refine OKv_go ?_ | with_reducible refine OKr_go ?_); simp [-cellOK, rg_cells, hrf, hrq, hrp, pr_cells, pr_fold, pr_put, pr_putO, tabO, w])); repeat' (first | refine awp_seq ?_ | refine awp_block ?_ | (refine awp_skip ?_; try simp) | (refine awp_exit ?_; try simp) | (refine awp_ret ?_; try simp) | (refine retP_same (by simp) ?_; simp) | (refine retP_no (by simp) (by simp [noIds]) (by repeat (first | assumption | exact Ext.refl _ | refine ext_new' ?_ | refine Ext.setF ?_ (by first | assumption | (simp [new_nx', St.set, fresh_none]; done) | exact ext_fresh (by assumption)))) ?_; simp [-cellOK, rg_cells, hrf, hrq, hrp, pr_cells, pr_fold, pr_put, pr_putO, tabO, w, new_m, set_m, new_nx']) | ((first | refine awp_reg ?_ | refine awp_drawT (fun _ => false) mixed (by decide +kernel) ?_ | refine awp_drawT isCallO mixed (by decide +kernel) ?_ | refine PCalls.use (ho) ?_ | refine Or.inl ⟨_, Or.inl (ho), ?_⟩ | refine PCalls.use (h1) ?_ | refine Or.inl ⟨_, Or.inl (h1), ?_⟩ | refine PCalls.use (h2) ?_ | refine Or.inl ⟨_, Or.inl (h2), ?_⟩); simp [-cellOK, rg_cells, hrf, hrq, hrp, pr_cells, pr_fold, pr_put, pr_putO, tabO, w]) | (refine guarded_split ?_ ?_ <;> (intro hg; simp only [hg]; simp [-cellOK, rg_cells, hrf, hrq, hrp, pr_cells, pr_fold, pr_put, pr_putO, tabO, w])) | (apply awp_cond_t; focus (simp [-cellOK, rg_cells, hrf, hrq, hrp, pr_cells, pr_fold, pr_put, pr_putO, tabO, w]; done)) | (apply awp_cond_f; focus (simp [-cellOK, rg_cells, hrf, hrq, hrp, pr_cells, pr_fold, pr_put, pr_putO, tabO, w]; done)) | (refine awp_cond ?_; simp [-cellOK, rg_cells, hrf, hrq, hrp, pr_cells, pr_fold, pr_put, pr_putO, tabO, w]; refine ⟨?_, ?_⟩ <;> intro hc) | fail)
def placeT (T : Tab) (b : Int) : Int := (T.b.cut b).1.sz
theorem place_calls (T : Tab) (b : Int) (hz : T.b.sz < 2 ^ 40) : PCalls Try.prog 108 [tabP T, .raw (.int .u64 b)] (.raw (.int .i64 (placeT T b))) := by
  have hs := trSplit_calls T.b b (by omega)
  have hl := trLen_calls (T.b.cut b).1
  unfold placeT
  generalize (T.b.cut b).1 = U at hs hl ⊢
  generalize (T.b.cut b).2 = V at hs
  rw [tabP_eq]
  refine pbody Try.func108 rfl (N := 18) rfl rfl (by simp) (by simp [noIds]) fun σ => ?_
  (try ((first | with_reducible refine dops_go ?_ | with_reducible refine OKv_go ?_ | with_reducible refine OKr_go ?_); simp [-cellOK])); repeat' (first | refine awp_seq ?_ | refine awp_block ?_ | (refine awp_skip ?_; try simp) | (refine awp_exit ?_; try simp) | (refine awp_ret ?_; try simp) | (refine retP_same (by simp) ?_; simp) | (refine retP_no (by simp) (by simp [noIds]) (by repeat (first | assumption | exact Ext.refl _ | refine ext_new' ?_ | refine Ext.setF ?_ (by first | assumption | (simp [new_nx', St.set, fresh_none]; done) | exact ext_fresh (by assumption)))) ?_; simp [-cellOK, new_m, set_m, new_nx']) | ((first | refine awp_reg ?_ | refine awp_drawT (fun _ => false) mixed (by decide +kernel) ?_ | refine awp_drawT isCallO mixed (by decide +kernel) ?_ | refine PCalls.use (hs) ?_ | refine Or.inl ⟨_, Or.inl (hs), ?_⟩ | refine PCalls.use (hl) ?_ | refine Or.inl ⟨_, Or.inl (hl), ?_⟩); simp [-cellOK]) | (refine guarded_split ?_ ?_ <;> (intro hg; simp only [hg]; simp [-cellOK])) | (apply awp_cond_t; focus (simp [-cellOK]; done)) | (apply awp_cond_f; focus (simp [-cellOK]; done)) | (refine awp_cond ?_; simp [-cellOK]; refine ⟨?_, ?_⟩ <;> intro hc) | fail)
/-- Which atom has an address. -/
def ofT (T : Option Tab) (a : Int) : Int := placeT (T.getD newTab) (a + 1) - 1
theorem tabOf_calls (T : Option Tab) (a : Int) (h0 : 0 ≤ a) (h1 : a < 4294967296) (hz : (T.getD newTab).b.sz < 2 ^ 40) : PCalls Try.prog 68 [tabO T, .raw (.int .u32 a)] (.raw (.int .i64 (ofT T a))) := by
  have ho := tabOwn_calls T
  have hp := place_calls (T.getD newTab) (a + 1) hz
  have hpn : 0 ≤ placeT (T.getD newTab) (a + 1) := Tr.sz_nn _
  have hpz : placeT (T.getD newTab) (a + 1) < 2 ^ 40 := by
    have := Tr.cut_sz (a + 1) (T.getD newTab).b
    have h2 := ((T.getD newTab).b.cut (a + 1)).2.sz_nn
    unfold placeT; omega
  unfold ofT
  generalize placeT (T.getD newTab) (a + 1) = x at *
  have w1 : IntKind.u64.wrap a = a := wrapU64 (by omega) (by omega)
  have w2 : IntKind.u64.wrap (a + 1) = a + 1 := wrapU64 (by omega) (by omega)
  have w3 := wrap64 (n := x - 1) (by omega) (by omega)
  refine pbody Try.func68 rfl (N := 12) rfl rfl (by simp) (by simp [noIds]) fun σ => ?_
  (try ((first | with_reducible refine dops_go ?_ | with_reducible refine OKv_go ?_ | with_reducible refine OKr_go ?_); simp [-cellOK, w1, w2, w3])); repeat' (first | refine awp_seq ?_ | refine awp_block ?_ | (refine awp_skip ?_; try simp) | (refine awp_exit ?_; try simp) | (refine awp_ret ?_; try simp) | (refine retP_same (by simp) ?_; simp) | (refine retP_no (by simp) (by simp [noIds]) (by repeat (first | assumption | exact Ext.refl _ | refine ext_new' ?_ | refine Ext.setF ?_ (by first | assumption | (simp [new_nx', St.set, fresh_none]; done) | exact ext_fresh (by assumption)))) ?_; simp [-cellOK, w1, w2, w3, new_m, set_m, new_nx']) | ((first | refine awp_reg ?_ | refine awp_drawT (fun _ => false) mixed (by decide +kernel) ?_ | refine awp_drawT isCallO mixed (by decide +kernel) ?_ | refine PCalls.use (ho) ?_ | refine Or.inl ⟨_, Or.inl (ho), ?_⟩ | refine PCalls.use (hp) ?_ | refine Or.inl ⟨_, Or.inl (hp), ?_⟩); simp [-cellOK, w1, w2, w3]) | (refine guarded_split ?_ ?_ <;> (intro hg; simp only [hg]; simp [-cellOK, w1, w2, w3])) | (apply awp_cond_t; focus (simp [-cellOK, w1, w2, w3]; done)) | (apply awp_cond_f; focus (simp [-cellOK, w1, w2, w3]; done)) | (refine awp_cond ?_; simp [-cellOK, w1, w2, w3]; refine ⟨?_, ?_⟩ <;> intro hc) | fail)
end Go.Proofs.Ytanimmdlgmkmkaa.Av


/- Tables of atoms, the plain law: what a table holds of ranges that were added, and taken away. -/
namespace Go.Proofs.Ytanimmdlgmkmkaa.Av
set_option linter.unusedSimpArgs false
set_option linter.unusedVariables false

theorem nodup_le {α : Type} [DecidableEq α] : ∀ {l m : List α}, l.Nodup → (∀ x ∈ l, x ∈ m) → l.length ≤ m.length
  | [], _, _, _ => by simp
  | a :: l, m, h, hs => by
    have h' := List.nodup_cons.1 h
    have := nodup_le (m := m.erase a) h'.2 fun x hx => by
      have hne : x ≠ a := fun e => h'.1 (e ▸ hx)
      exact (List.mem_erase_of_ne hne).2 (hs x (by simp [hx]))
    have hl := List.length_erase_of_mem (hs a (by simp))
    have hpos : 0 < m.length := List.length_pos_of_mem (hs a (by simp))
    simp only [List.length_cons]
    omega
def optc (n : Nat) : Option Int := if n = 0 then none else some n
theorem optc_getD (n : Nat) : (optc n).getD 0 = n := by
  unfold optc
  split
  · rename_i h; subst h; rfl
  · rfl
theorem optc_none (n : Nat) : optc n = none ↔ n = 0 := by
  unfold optc
  split
  · rename_i h; simp [h]
  · rename_i h; simp [h]

/-- A tree that counts the elements of a list. -/
structure KeyRep (t : Tr) (l : List Int) : Prop where
  srt : Tr.Srt t.toL
  get : ∀ k, t.get k = optc (l.count k)
theorem KeyRep.mem {t : Tr} {l : List Int} (h : KeyRep t l) (k : Int) : k ∈ t.toL.map (·.1) ↔ k ∈ l := by
  have := Tr.get_none h.srt k
  rw [h.get, optc_none, List.count_eq_zero] at this
  constructor
  · intro hk
    apply Classical.byContradiction
    intro hn
    exact this.1 hn hk
  · intro hk
    apply Classical.byContradiction
    intro hn
    exact this.2 hn hk
theorem Tr.Srt.nodup {l : List (Int × Int)} (h : Tr.Srt l) : (l.map (·.1)).Nodup := by
  unfold Tr.Srt at h
  unfold List.Nodup
  rw [List.pairwise_map]
  exact h.imp fun hab => by omega
theorem KeyRep.sz {t : Tr} {l : List Int} (h : KeyRep t l) : t.sz ≤ l.length := by
  have := nodup_le h.srt.nodup fun x hx => (h.mem x).1 hx
  rw [Tr.sz_toL]
  simp at this
  omega
theorem KeyRep.perm {t : Tr} {l m : List Int} (h : KeyRep t l) (p : l.Perm m) : KeyRep t m := ⟨h.srt, fun k => by rw [h.get, p.count_eq]⟩
theorem KeyRep.more {t : Tr} {l : List Int} (h : KeyRep t l) (k : Int) (hl : l.length < 1024) : MoreOK t k 1 ∧ KeyRep (moreT t k 1) (k :: l) := by
  have hs := h.sz
  have hc := List.count_le_length (a := k) (l := l)
  have hg : (t.get k).getD 0 = (l.count k : Nat) := by rw [h.get, optc_getD]
  have hne : ¬ (t.get k).getD 0 + 1 = 0 := by omega
  refine ⟨⟨by omega, by omega, by omega, fun e => absurd e hne, fun _ => by omega⟩, ?_⟩
  unfold moreT
  rw [if_neg hne]
  refine ⟨by rw [Tr.with_toL t _ _ h.srt]; exact Tr.put_srt h.srt _ _, fun k2 => ?_⟩
  rw [Tr.get_with h.srt, List.count_cons, hg]
  by_cases e : k2 = k
  · subst e
    rw [if_pos rfl]
    unfold optc
    simp
  · rw [if_neg e, h.get]
    have : (k == k2) = false := by simp; omega
    simp [this]
theorem Tr.get_without {t : Tr} (h : Tr.Srt t.toL) (k k2 : Int) : (t.without k).get k2 = if k2 = k then none else t.get k2 := by
  have hs : Tr.Srt (t.without k).toL := by rw [Tr.without_toL t k h]; exact h.filter _
  rw [Tr.get_eq _ _ hs, Tr.without_toL t k h, Tr.get_eq _ _ h, List.find?_filter]
  by_cases e : k2 = k
  · subst e
    rw [if_pos rfl]
    have : t.toL.find? (fun a => decide ((!decide (a.1 = k2)) = true ∧ decide (a.1 = k2) = true)) = none := List.find?_eq_none.2 fun e he => by simp
    rw [this]; rfl
  · rw [if_neg e]
    congr 2
    funext a
    by_cases q : a.1 = k2
    · have : ¬ a.1 = k := by omega
      simp [q]; omega
    · simp [q]
theorem KeyRep.less {t : Tr} {l : List Int} {k : Int} (h : KeyRep t (k :: l)) (hl : l.length < 2 ^ 30) : MoreOK t k (-1) ∧ KeyRep (moreT t k (-1)) l := by
  have hs := h.sz
  have hc := List.count_le_length (a := k) (l := l)
  have hg0 : t.get k = some ((l.count k : Nat) + 1) := by
    rw [h.get, List.count_cons_self]; unfold optc; simp
  have hg : (t.get k).getD 0 = (l.count k : Nat) + 1 := by rw [hg0]; rfl
  simp only [List.length_cons] at hs
  refine ⟨⟨by omega, by omega, by omega, fun _ => by simp [hg0], fun e => by simp [hg0] at e⟩, ?_⟩
  unfold moreT
  rw [hg]
  split
  · rename_i h0
    refine ⟨by rw [Tr.without_toL t k h.srt]; exact h.srt.filter _, fun k2 => ?_⟩
    rw [Tr.get_without h.srt, h.get, List.count_cons]
    by_cases e : k2 = k
    · subst e
      rw [if_pos rfl]
      have : l.count k2 = 0 := by omega
      rw [this]; rfl
    · rw [if_neg e]
      have : (k == k2) = false := by simp; omega
      simp [this]
  · rename_i h0
    refine ⟨by rw [Tr.with_toL t _ _ h.srt]; exact Tr.put_srt h.srt _ _, fun k2 => ?_⟩
    rw [Tr.get_with h.srt, h.get, List.count_cons]
    by_cases e : k2 = k
    · subst e
      rw [if_pos rfl]
      have : ¬ l.count k2 = 0 := by omega
      unfold optc
      rw [if_neg this]
      congr 1; omega
    · rw [if_neg e]
      have : (k == k2) = false := by simp; omega
      simp [this]

def endsL (L : List Rg) : List Int := L.flatMap endsR
/-- A table that holds these ranges. -/
structure TabRep (T : Tab) (L : List Rg) : Prop where
  b : KeyRep T.b (0 :: endsL L)
  g : KeyRep T.g (L.map keyR)
  n : T.n = L.length
  ok : ∀ r ∈ L, RgOK r
theorem rep_new : TabRep newTab [] where
  b := ⟨by simp [newTab, Tr.toL, Tr.Srt], fun k => by
    simp only [newTab, Tr.get, endsL, List.flatMap_nil]
    by_cases h1 : k < 0
    · have : ((0 : Int) == k) = false := by simp; omega
      simp [h1, List.count_cons, this, optc]
    · by_cases h2 : 0 < k
      · have : ((0 : Int) == k) = false := by simp; omega
        simp [h1, h2, List.count_cons, this, optc]
      · have : k = 0 := by omega
        subst this; simp [optc]⟩
  g := ⟨by simp [newTab, Tr.toL, Tr.Srt], fun k => by simp [newTab, Tr.get, optc]⟩
  n := rfl
  ok := by simp
theorem endsR_len (r : Rg) : (endsR r).length ≤ 2 := by unfold endsR; split <;> simp
theorem endsL_len (L : List Rg) : (endsL L).length ≤ 2 * L.length := by
  induction L with
  | nil => simp [endsL]
  | cons r L ih =>
    have := endsR_len r
    simp only [endsL, List.flatMap_cons, List.length_append, List.length_cons] at ih ⊢
    omega
theorem fold_more : ∀ (E : List Int) {t : Tr} {l : List Int}, KeyRep t l → l.length + E.length < 1024 →
    KeyRep (E.foldl (fun b e => moreT b e 1) t) (E ++ l) ∧ ∀ (i : Nat) (e : Int), E[i]? = some e → MoreOK ((E.take i).foldl (fun b e => moreT b e 1) t) e 1
  | [], t, l, h, _ => ⟨h, fun i e he => by simp at he⟩
  | x :: E, t, l, h, hl => by
    simp only [List.length_cons] at hl
    obtain ⟨h1, h2⟩ := h.more x (by omega)
    obtain ⟨h3, h4⟩ := fold_more E h2 (by simp only [List.length_cons]; omega)
    refine ⟨h3.perm ?_, fun i e he => ?_⟩
    · exact List.perm_middle
    · cases i with
      | zero => simp only [List.getElem?_cons_zero, Option.some.injEq] at he; subst he; exact h1
      | succ i => exact h4 i e (by simpa using he)
theorem rep_add {T : Tab} {L : List Rg} (h : TabRep T L) {r : Rg} (hr : RgOK r) (hl : L.length < 500) : WithOK T r 1 ∧ TabRep (T.with_ r 1) (r :: L) := by
  have he := endsL_len L
  have hr2 := endsR_len r
  obtain ⟨g1, g2⟩ := h.g.more (keyR r) (by simp only [List.length_map]; omega)
  obtain ⟨b1, b2⟩ := fold_more (endsR r) h.b (by simp only [List.length_cons]; omega)
  have hn := h.n
  refine ⟨⟨hr, by omega, by omega, g1, b2⟩, ⟨?_, g2, ?_, ?_⟩⟩
  · refine b1.perm ?_
    simp only [endsL, List.flatMap_cons]
    exact List.perm_middle
  · show T.n + 1 = _
    simp only [List.length_cons]; omega
  · intro x hx
    rcases List.mem_cons.1 hx with rfl | hx
    · exact hr
    · exact h.ok x hx
theorem TabRep.perm {T : Tab} {L M : List Rg} (h : TabRep T L) (p : L.Perm M) : TabRep T M where
  b := h.b.perm ((p.flatMap_right endsR).cons 0)
  g := h.g.perm (p.map keyR)
  n := by rw [h.n, p.length_eq]
  ok := fun r hr => h.ok r (p.mem_iff.2 hr)
/-! ### Cuts -/
structure Cuts (c : List Int) (L : List Rg) : Prop where
  srt : c.Pairwise (· < ·)
  mem : ∀ x, x ∈ c ↔ x = 0 ∨ ∃ r ∈ L, x ∈ endsR r
theorem cuts_unique : ∀ {c d : List Int}, c.Pairwise (· < ·) → d.Pairwise (· < ·) → (∀ x, x ∈ c ↔ x ∈ d) → c = d
  | [], [], _, _, _ => rfl
  | [], y :: d, _, _, h => by have := (h y).2 (by simp); simp at this
  | x :: c, [], _, _, h => by have := (h x).1 (by simp); simp at this
  | x :: c, y :: d, hc, hd, h => by
    obtain ⟨h1, h2⟩ := List.pairwise_cons.1 hc
    obtain ⟨h3, h4⟩ := List.pairwise_cons.1 hd
    have hxy : x = y := by
      rcases List.mem_cons.1 ((h x).1 (by simp)) with e | e
      · exact e
      · rcases List.mem_cons.1 ((h y).2 (by simp)) with e2 | e2
        · exact e2.symm
        · have := h1 y e2; have := h3 x e; omega
    subst hxy
    congr 1
    refine cuts_unique h2 h4 fun z => ?_
    constructor
    · intro hz
      rcases List.mem_cons.1 ((h z).1 (by simp [hz])) with e | e
      · subst e; have := h1 z hz; omega
      · exact e
    · intro hz
      rcases List.mem_cons.1 ((h z).2 (by simp [hz])) with e | e
      · subst e; have := h3 z hz; omega
      · exact e
def keysT (T : Tab) : List Int := T.b.toL.map (·.1)
theorem rep_cuts {T : Tab} {L : List Rg} (h : TabRep T L) : Cuts (keysT T) L where
  srt := by
    have := h.b.srt
    unfold keysT
    rw [List.pairwise_map]
    exact this
  mem := fun x => by
    unfold keysT
    rw [h.b.mem, List.mem_cons]
    simp only [endsL, List.mem_flatMap]
theorem endsR_mem {r : Rg} (hr : RgOK r) {x : Int} (hx : x ∈ endsR r) : 0 ≤ x ∧ x < 4294967296 := by
  obtain ⟨a1, a2, a3, a4⟩ := hr
  unfold endsR at hx
  split at hx
  · simp only [List.mem_cons, List.not_mem_nil, or_false] at hx; omega
  · simp only [List.mem_cons, List.not_mem_nil, or_false] at hx; omega
theorem Cuts.range {c : List Int} {L : List Rg} (h : Cuts c L) (ok : ∀ r ∈ L, RgOK r) {x : Int} (hx : x ∈ c) : 0 ≤ x ∧ x < 4294967296 := by
  rcases (h.mem x).1 hx with rfl | ⟨r, hr, hx⟩
  · omega
  · exact endsR_mem (ok r hr) hx
/-- The atoms between cuts. -/
def atomsC : List Int → List Rg
  | [] => []
  | [x] => [⟨x, 4294967295⟩]
  | x :: y :: l => ⟨x, y - 1⟩ :: atomsC (y :: l)
theorem atomsC_len : ∀ c : List Int, (atomsC c).length = c.length
  | [] => rfl
  | [x] => rfl
  | x :: y :: l => by simp only [atomsC, List.length_cons, atomsC_len (y :: l)]
theorem atomsC_get : ∀ (c : List Int) (i : Nat), (atomsC c)[i]? = (c[i]?).map fun x => ⟨x, match c[i + 1]? with | some y => y - 1 | none => 4294967295⟩
  | [], i => by simp [atomsC]
  | [x], 0 => by simp [atomsC]
  | [x], i + 1 => by simp [atomsC]
  | x :: y :: l, 0 => by simp [atomsC]
  | x :: y :: l, i + 1 => by simp only [atomsC, List.getElem?_cons_succ, atomsC_get (y :: l) i]
/-- What is cut out of a range. -/
def cutOne (r a : Rg) : Option Rg := if max a.lo r.lo ≤ min a.hi r.hi then some ⟨max a.lo r.lo, min a.hi r.hi⟩ else none
def cutC (c : List Int) (r : Rg) : List Rg := (atomsC c).filterMap (cutOne r)
theorem countP_srt {c : List Int} (h : c.Pairwise (· < ·)) (a : Int) : ∀ (i : Nat) (x : Int), c[i]? = some x → (x ≤ a ↔ i < c.countP fun y => decide (y ≤ a)) := by
  induction c with
  | nil => intro i x hx; simp at hx
  | cons y c ih =>
    obtain ⟨h1, h2⟩ := List.pairwise_cons.1 h
    intro i x hx
    cases i with
    | zero =>
      simp only [List.getElem?_cons_zero, Option.some.injEq] at hx
      subst hx
      rw [List.countP_cons]
      by_cases q : y ≤ a
      · simp [q]
      · have : c.countP (fun y => decide (y ≤ a)) = 0 := List.countP_eq_zero.2 fun z hz => by have := h1 z hz; simp; omega
        simp [q, this]
    | succ i =>
      simp only [List.getElem?_cons_succ] at hx
      have := ih h2 i x hx
      rw [List.countP_cons]
      by_cases q : y ≤ a
      · simp only [q, decide_true, if_true]; rw [this]; omega
      · have h3 := h1 x (List.mem_of_getElem? hx)
        have : c.countP (fun y => decide (y ≤ a)) = 0 := List.countP_eq_zero.2 fun z hz => by have := h1 z hz; simp; omega
        rw [this]
        simp only [q, decide_false, Bool.false_eq_true, if_false]
        omega
end Go.Proofs.Ytanimmdlgmkmkaa.Av


/- Networks: where a packet goes, the plain law: it comes to an end. -/
namespace Go.Proofs.Ytanimmdlgmkmkaa.Av
set_option linter.unusedSimpArgs false
set_option linter.unusedVariables false

/-- The device that is next. -/
def nextDev (n : Nw) (p : Pt) : Int := ((nextM n.t p).getD ⟨0, 0⟩).dev
/-- A packet's way from a device on, behind these. -/
def walkT (n : Nw) (a : Int) : Nat → Int → List Int → Tk
  | 0, _, p => ⟨p, 4, ⟨0, 0⟩⟩
  | f + 1, d, p => if d ∈ p then ⟨p ++ [d], 4, ⟨0, 0⟩⟩ else if (stepF n d a).1 = 4 then walkT n a f (nextDev n (stepF n d a).2) (p ++ [d]) else ⟨p ++ [d], (stepF n d a).1, (stepF n d a).2⟩
/-- All devices to which a packet can come. -/
def devsN (n : Nw) (d : Int) : List Int := d :: n.t.links.flatMap fun l => [l.a.dev, l.b.dev]
theorem devsN_len (n : Nw) (d : Int) : (devsN n d).length = 1 + 2 * n.t.links.length := by
  unfold devsN
  generalize n.t.links = L
  induction L with
  | nil => rfl
  | cons l L ih => simp only [List.flatMap_cons, List.length_cons, List.length_append, List.length_nil] at ih ⊢; omega
def traceF (n : Nw) (d a : Int) : Tk := walkT n a (2 + 2 * n.t.links.length) d []
theorem joinM_vals (L : List Lk) : ∀ e ∈ joinM L, ∃ l ∈ L, e.2 = l.a ∨ e.2 = l.b := by
  have : ∀ (L M : List Lk) (m : List (Pt × Pt)), (∀ e ∈ m, ∃ l ∈ M, e.2 = l.a ∨ e.2 = l.b) → ∀ e ∈ L.foldl (fun m l => upd (upd m l.a l.b) l.b l.a) m, ∃ l ∈ M ++ L, e.2 = l.a ∨ e.2 = l.b := by
    intro L
    induction L with
    | nil => intro M m h e he; simpa using h e he
    | cons l L ih =>
      intro M m h e he
      rw [List.foldl_cons] at he
      have := ih (M ++ [l]) (upd (upd m l.a l.b) l.b l.a) ?_ e he
      · simpa using this
      · intro e he
        unfold upd at he
        rcases List.mem_append.1 he with he | he
        · rcases List.mem_append.1 (List.mem_filter.1 he).1 with he | he
          · obtain ⟨k, hk, h2⟩ := h e (List.mem_filter.1 he).1
            exact ⟨k, by simp [hk], h2⟩
          · simp only [List.mem_singleton] at he; subst he
            exact ⟨l, by simp, .inr rfl⟩
        · simp only [List.mem_singleton] at he; subst he
          exact ⟨l, by simp, .inl rfl⟩
  have := this L [] [] (by simp)
  rw [List.nil_append] at this
  exact this
theorem nextDev_mem {n : Nw} {p : Pt} {d : Int} (h : (nextM n.t p).isSome = true) : nextDev n p ∈ devsN n d := by
  unfold nextDev
  obtain ⟨q, hq⟩ := Option.isSome_iff_exists.1 h
  rw [hq]
  unfold nextM at hq
  rw [Option.map_eq_some_iff] at hq
  obtain ⟨e, he, rfl⟩ := hq
  obtain ⟨l, hl, h2⟩ := joinM_vals _ e (List.mem_of_find?_eq_some he)
  unfold devsN
  rw [List.mem_cons, List.mem_flatMap]
  right
  refine ⟨l, hl, ?_⟩
  rcases h2 with h2 | h2 <;> simp [h2]
theorem step_four {n : Nw} {d a : Int} (h : (stepF n d a).1 = 4) : (nextM n.t (stepF n d a).2).isSome = true := by
  unfold stepF at *
  repeat' split at h
  all_goals first | (simp at h; done) | skip
  rename_i h1 h2 h3 h4
  simp [h1, h2, h3, h4]
/-- A way that is under way. -/
structure Way (n : Nw) (a d0 : Int) (d : Int) (p : List Int) : Prop where
  nd : p.Nodup
  sub : ∀ x ∈ p, x ∈ devsN n d0
  at_ : d ∈ devsN n d0
  res : walkT n a (2 + 2 * n.t.links.length - p.length) d p = traceF n d0 a
theorem Way.len {n : Nw} {a d0 d : Int} {p : List Int} (h : Way n a d0 d p) : p.length ≤ 1 + 2 * n.t.links.length := by
  have := nodup_le h.nd h.sub
  rwa [devsN_len] at this
theorem Way.start (n : Nw) (a d0 : Int) : Way n a d0 d0 [] := ⟨by simp, by simp, by simp [devsN], rfl⟩
theorem Way.again {n : Nw} {a d0 d : Int} {p : List Int} (h : Way n a d0 d p) (hd : d ∈ p) : traceF n d0 a = ⟨p ++ [d], 4, ⟨0, 0⟩⟩ := by
  have hl := h.len
  have hr := h.res
  rw [show 2 + 2 * n.t.links.length - p.length = (1 + 2 * n.t.links.length - p.length) + 1 by omega, walkT, if_pos hd] at hr
  exact hr.symm
theorem Way.fin {n : Nw} {a d0 d : Int} {p : List Int} (h : Way n a d0 d p) (hd : d ∉ p) (hs : (stepF n d a).1 ≠ 4) : traceF n d0 a = ⟨p ++ [d], (stepF n d a).1, (stepF n d a).2⟩ := by
  have hl := h.len
  have hr := h.res
  rw [show 2 + 2 * n.t.links.length - p.length = (1 + 2 * n.t.links.length - p.length) + 1 by omega, walkT, if_neg hd, if_neg hs] at hr
  exact hr.symm
theorem Way.on {n : Nw} {a d0 d : Int} {p : List Int} (h : Way n a d0 d p) (hd : d ∉ p) (hs : (stepF n d a).1 = 4) : Way n a d0 (nextDev n (stepF n d a).2) (p ++ [d]) := by
  have hl := h.len
  have hr := h.res
  rw [show 2 + 2 * n.t.links.length - p.length = (1 + 2 * n.t.links.length - p.length) + 1 by omega, walkT, if_neg hd, if_pos hs] at hr
  refine ⟨?_, ?_, nextDev_mem (step_four hs), ?_⟩
  · rw [List.nodup_append]
    refine ⟨h.nd, by simp, fun x hx y hy e => ?_⟩
    simp only [List.mem_singleton] at hy
    subst hy; subst e; exact hd hx
  · intro x hx
    rcases List.mem_append.1 hx with hx | hx
    · exact h.sub x hx
    · simp only [List.mem_singleton] at hx; subst hx; exact h.at_
  · rw [List.length_append, List.length_singleton, ← hr]
    congr 1; omega
end Go.Proofs.Ytanimmdlgmkmkaa.Av


/- Cuts, the plain law: what is cut by places is what is cut by addresses; which ranges a table holds behind many. -/
namespace Go.Proofs.Ytanimmdlgmkmkaa.Av
set_option linter.unusedSimpArgs false
set_option linter.unusedVariables false

/-- A sorted list with a number more. -/
def insU (x : Int) : List Int → List Int
  | [] => [x]
  | y :: l => if x < y then x :: y :: l else if y < x then y :: insU x l else y :: l
theorem insU_mem (x z : Int) : ∀ l : List Int, z ∈ insU x l ↔ z = x ∨ z ∈ l
  | [] => by simp [insU]
  | y :: l => by
    simp only [insU]
    split
    · simp
    · split
      · simp only [List.mem_cons, insU_mem x z l]
        constructor
        · rintro (h | h | h)
          · exact .inr (.inl h)
          · exact .inl h
          · exact .inr (.inr h)
        · rintro (h | h | h)
          · exact .inr (.inl h)
          · exact .inl h
          · exact .inr (.inr h)
      · have : x = y := by omega
        subst this; simp
theorem insU_srt (x : Int) : ∀ l : List Int, l.Pairwise (· < ·) → (insU x l).Pairwise (· < ·)
  | [], _ => by simp [insU]
  | y :: l, h => by
    obtain ⟨h1, h2⟩ := List.pairwise_cons.1 h
    simp only [insU]
    split
    · rename_i hx
      refine List.pairwise_cons.2 ⟨fun z hz => ?_, h⟩
      rcases List.mem_cons.1 hz with rfl | hz
      · exact hx
      · have := h1 z hz; omega
    · split
      · rename_i hx
        refine List.pairwise_cons.2 ⟨fun z hz => ?_, insU_srt x l h2⟩
        rcases (insU_mem x z l).1 hz with rfl | hz
        · exact hx
        · exact h1 z hz
      · exact h
/-- The cuts of ranges. -/
def cutsL (L : List Rg) : List Int := (0 :: endsL L).foldr insU []
theorem cutsL_cuts (L : List Rg) : Cuts (cutsL L) L where
  srt := by
    unfold cutsL
    generalize 0 :: endsL L = l
    induction l with
    | nil => simp
    | cons x l ih => exact insU_srt x _ ih
  mem := fun x => by
    have : ∀ l : List Int, x ∈ l.foldr insU [] ↔ x ∈ l := fun l => by
      induction l with
      | nil => simp
      | cons y l ih => rw [List.foldr_cons, insU_mem, ih, List.mem_cons]
    unfold cutsL
    rw [this, List.mem_cons]
    simp only [endsL, List.mem_flatMap]
theorem Cuts.eq {c : List Int} {L : List Rg} (h : Cuts c L) : c = cutsL L := cuts_unique h.srt (cutsL_cuts L).srt fun x => by rw [h.mem, (cutsL_cuts L).mem]

theorem countP_mono {c : List Int} {a b : Int} (h : a ≤ b) : c.countP (fun y => decide (y ≤ a)) ≤ c.countP (fun y => decide (y ≤ b)) := by
  induction c with
  | nil => simp
  | cons y c ih =>
    simp only [List.countP_cons]
    by_cases q : y ≤ a
    · have : y ≤ b := by omega
      simp [q, this]; exact ih
    · by_cases q2 : y ≤ b
      · simp [q, q2]; omega
      · simp [q, q2]; exact ih
theorem Cuts.pos {c : List Int} {L : List Rg} (h : Cuts c L) {a : Int} (ha : 0 ≤ a) : 0 < c.countP (fun y => decide (y ≤ a)) :=
  List.countP_pos_iff.2 ⟨0, (h.mem 0).2 (.inl rfl), by simpa using ha⟩
/-- What is cut, by places. -/
theorem cut_by_place {c : List Int} {L : List Rg} (h : Cuts c L) {r : Rg} (hr : RgOK r) (hle : r.lo ≤ r.hi) {p q : Nat} (hp : c.countP (fun y => decide (y ≤ r.lo)) = p + 1) (hq : c.countP (fun y => decide (y ≤ r.hi)) = q + 1) :
    p ≤ q ∧ q < (atomsC c).length ∧ cutC c r = (List.range (q + 1 - p)).map fun k => ⟨max ((atomsC c).getD (p + k) ⟨0, 0⟩).lo r.lo, min ((atomsC c).getD (p + k) ⟨0, 0⟩).hi r.hi⟩ := by
  have hmono := countP_mono (c := c) hle
  have hlen : c.countP (fun y => decide (y ≤ r.hi)) ≤ c.length := List.countP_le_length
  have hA := atomsC_len c
  have hpq : p ≤ q := by omega
  have hqc : q < c.length := by omega
  refine ⟨hpq, by omega, ?_⟩
  obtain ⟨a1, a2, a3, a4⟩ := hr
  have hlo := countP_srt h.srt r.lo
  have hhi := countP_srt h.srt r.hi
  rw [hp] at hlo
  rw [hq] at hhi
  have get := atomsC_get c
  generalize hAe : atomsC c = A at *
  unfold cutC
  rw [hAe]
  have split3 : A = A.take p ++ ((A.drop p).take (q + 1 - p) ++ A.drop (q + 1)) := by
    have e : A.drop (q + 1) = (A.drop p).drop (q + 1 - p) := by rw [List.drop_drop]; congr 1; omega
    rw [e, List.take_append_drop, List.take_append_drop]
  have f1 : (A.take p).filterMap (cutOne r) = [] := by
    rw [List.filterMap_eq_nil_iff]
    intro a ha
    obtain ⟨i, hi⟩ := List.mem_iff_getElem?.1 ha
    rw [List.getElem?_take] at hi
    split at hi
    · rename_i hip
      rw [get i] at hi
      have hi1 : c[i + 1]? = some c[i + 1] := List.getElem?_eq_getElem (by omega)
      have hi0 : c[i]? = some c[i] := List.getElem?_eq_getElem (by omega)
      have := (hlo (i + 1) _ hi1).2 (by omega)
      rw [hi0, hi1] at hi
      simp only [Option.map_some, Option.some.injEq] at hi
      subst hi
      unfold cutOne
      rw [if_neg]
      simp only []
      omega
    · cases hi
  have f3 : (A.drop (q + 1)).filterMap (cutOne r) = [] := by
    rw [List.filterMap_eq_nil_iff]
    intro a ha
    obtain ⟨i, hi⟩ := List.mem_iff_getElem?.1 ha
    rw [List.getElem?_drop, get] at hi
    cases hc : c[q + 1 + i]? with
    | none => rw [hc] at hi; cases hi
    | some x =>
      have := hhi _ _ hc
      rw [hc] at hi
      simp only [Option.map_some, Option.some.injEq] at hi
      subst hi
      unfold cutOne
      rw [if_neg]
      simp only []
      omega
  rw [split3, List.filterMap_append, List.filterMap_append, f1, f3, List.nil_append, List.append_nil, ← split3]
  have hn : ((A.drop p).take (q + 1 - p)).length = q + 1 - p := by rw [List.length_take, List.length_drop]; omega
  have g : ∀ k, k < q + 1 - p → ∀ a, A[p + k]? = some a → cutOne r a = some ⟨max a.lo r.lo, min a.hi r.hi⟩ := by
    intro k hk a ha
    rw [get] at ha
    have hi0 : c[p + k]? = some c[p + k] := List.getElem?_eq_getElem (by omega)
    have b1 := (hhi (p + k) _ hi0).2 (by omega)
    rw [hi0] at ha
    simp only [Option.map_some, Option.some.injEq] at ha
    subst ha
    unfold cutOne
    rw [if_pos]
    simp only []
    cases hc : c[p + k + 1]? with
    | none => simp only []; omega
    | some y =>
      have := (hlo (p + k + 1) y hc)
      simp only []
      have hs := List.pairwise_iff_getElem.1 h.srt (p + k) (p + k + 1) (by omega) (by have := (List.getElem?_eq_some_iff.1 hc).1; omega) (by omega)
      have hy := (List.getElem?_eq_some_iff.1 hc).2
      omega
  have hfm : ∀ (G : Rg → Rg) (l : List Rg), (∀ a ∈ l, cutOne r a = some (G a)) → l.filterMap (cutOne r) = l.map G := by
    intro G l
    induction l with
    | nil => intro _; rfl
    | cons a l ih =>
      intro hx
      rw [List.filterMap_cons, hx a (by simp), List.map_cons, ih fun b hb => hx b (by simp [hb])]
  rw [hfm (fun a => ⟨max a.lo r.lo, min a.hi r.hi⟩) _ fun a ha => ?_]
  · apply List.ext_getElem?
    intro k
    rw [List.getElem?_map, List.getElem?_map, List.getElem?_take, List.getElem?_drop]
    by_cases hk : k < q + 1 - p
    · rw [if_pos hk, List.getElem?_range hk]
      have hx : A[p + k]? = some A[p + k] := List.getElem?_eq_getElem (by omega)
      simp only [hx, Option.map_some, List.getD_eq_getElem?_getD, Option.getD_some]
    · rw [if_neg hk, List.getElem?_eq_none (by simp; omega)]
      rfl
  · obtain ⟨k, hk⟩ := List.mem_iff_getElem?.1 ha
    rw [List.getElem?_take] at hk
    split at hk
    · rename_i hkk
      rw [List.getElem?_drop] at hk
      exact g k hkk a hk
    · cases hk

/-! ### Ranges that are added, one behind the other -/
def stepL (s : Option (List Rg)) (r : Rg) : Option (List Rg) := if r.hi < r.lo then none else if 500 ≤ (s.getD []).length then none else some (r :: s.getD [])
def RepO : Option Tab → Option (List Rg) → Prop
  | none, none => True
  | some T, some L => TabRep T L ∧ L.length ≤ 500
  | _, _ => False
theorem RepO.get {T : Option Tab} {s : Option (List Rg)} (h : RepO T s) : TabRep (T.getD newTab) (s.getD []) ∧ (s.getD []).length ≤ 500 := by
  cases T with
  | none => cases s with
    | none => exact ⟨rep_new, by simp⟩
    | some L => exact h.elim
  | some T => cases s with
    | none => exact h.elim
    | some L => exact h
theorem RepO.step {T : Option Tab} {s : Option (List Rg)} (h : RepO T s) {r : Rg} (hr : RgOK r) :
    (r.lo ≤ r.hi → (T.getD newTab).n < 500 → WithOK (T.getD newTab) r 1) ∧ RepO (addT T r).1 (stepL s r) := by
  obtain ⟨h1, h2⟩ := h.get
  have hn := h1.n
  refine ⟨fun _ hlt => (rep_add h1 hr (by omega)).1, ?_⟩
  unfold addT stepL
  by_cases q1 : r.hi < r.lo
  · rw [if_pos q1, if_pos q1]; trivial
  · rw [if_neg q1, if_neg q1]
    by_cases q2 : 500 ≤ (s.getD []).length
    · rw [if_pos q2, if_pos (by omega)]; trivial
    · rw [if_neg q2, if_neg (by omega)]
      exact ⟨(rep_add h1 hr (by omega)).2, by simp only [List.length_cons]; omega⟩
/-- The ranges that are held behind many. -/
def heldL (L : List Rg) : List Rg := (L.foldl stepL (some [])).getD []
theorem held_few {L : List Rg} (hle : ∀ r ∈ L, r.lo ≤ r.hi) (hl : L.length ≤ 500) : heldL L = L.reverse := by
  have : ∀ (L M : List Rg), (∀ r ∈ L, r.lo ≤ r.hi) → L.length + M.length ≤ 500 → L.foldl stepL (some M) = some (L.reverse ++ M) := by
    intro L
    induction L with
    | nil => intro M _ _; rfl
    | cons r L ih =>
      intro M h1 h2
      have := h1 r (by simp)
      simp only [List.length_cons] at h2
      have e : stepL (some M) r = some (r :: M) := by
        unfold stepL
        rw [if_neg (by omega), if_neg (by simp only [Option.getD_some]; omega)]; rfl
      rw [List.foldl_cons, e, ih _ (fun x hx => h1 x (by simp [hx])) (by simp only [List.length_cons]; omega)]
      simp
  unfold heldL
  rw [this L [] hle (by simpa using hl)]
  simp
theorem Cuts.perm {c : List Int} {L M : List Rg} (h : Cuts c L) (p : L.Perm M) : Cuts c M := ⟨h.srt, fun x => by
  rw [h.mem]
  constructor
  · rintro (h | ⟨r, hr, hx⟩)
    · exact .inl h
    · exact .inr ⟨r, p.mem_iff.1 hr, hx⟩
  · rintro (h | ⟨r, hr, hx⟩)
    · exact .inl h
    · exact .inr ⟨r, p.mem_iff.2 hr, hx⟩⟩
theorem cutsL_perm {L M : List Rg} (p : L.Perm M) : cutsL L = cutsL M := ((cutsL_cuts L).perm p).eq
/-- The program's place of an address, and its atoms, where the table holds these ranges. -/
theorem rep_of {T : Option Tab} {L : List Rg} (h : TabRep (T.getD newTab) L) (a : Int) : ofT T a = ((cutsL L).countP (fun y => decide (y ≤ a)) : Nat) - 1 := by
  unfold ofT placeT
  rw [Tr.cut_len _ _ h.b.srt, ← (rep_cuts h).eq]
  unfold keysT
  rw [List.countP_map]
  congr 2
  apply List.countP_congr
  intro e _
  simp only [Function.comp_apply, decide_eq_true_eq]
  omega
theorem rep_len {T : Option Tab} {L : List Rg} (h : TabRep (T.getD newTab) L) : (T.getD newTab).b.sz = (cutsL L).length := by
  rw [Tr.sz_toL, ← (rep_cuts h).eq]; unfold keysT; simp
theorem rep_atom {T : Option Tab} {L : List Rg} (h : TabRep (T.getD newTab) L) (i : Int) : atomT T i = if 0 ≤ i then (atomsC (cutsL L))[i.toNat]? else none := by
  have hc := rep_cuts h
  have hr : ∀ {x}, x ∈ keysT (T.getD newTab) → 0 ≤ x ∧ x < 4294967296 := fun hx => hc.range h.ok hx
  rw [← hc.eq]
  unfold atomT
  by_cases h0 : 0 ≤ i
  · rw [if_pos h0]
    have e1 : (T.getD newTab).b.atI i = (T.getD newTab).b.toL[i.toNat]? := by unfold Tr.atI; rw [if_pos h0, Tr.at_eq _ _ h0]
    have e2 : (T.getD newTab).b.atI (i + 1) = (T.getD newTab).b.toL[i.toNat + 1]? := by
      unfold Tr.atI; rw [if_pos (by omega), Tr.at_eq _ _ (by omega)]; congr 1; omega
    have e3 : ∀ j : Nat, (keysT (T.getD newTab))[j]? = ((T.getD newTab).b.toL[j]?).map fun e : Int × Int => e.1 := fun j => by unfold keysT; rw [List.getElem?_map]
    rw [e1, e2, atomsC_get, e3, e3]
    cases hp : (T.getD newTab).b.toL[i.toNat]? with
    | none => rfl
    | some p =>
      have hpm : p.1 ∈ keysT (T.getD newTab) := List.mem_map.2 ⟨p, List.mem_of_getElem? hp, rfl⟩
      have hpr := hr hpm
      simp only [Option.map_some, Option.some.injEq, Rg.mk.injEq]
      refine ⟨wrapU32 (by omega) (by omega), ?_⟩
      cases hq : (T.getD newTab).b.toL[i.toNat + 1]? with
      | none =>
        show IntKind.u32.wrap 4294967295 = 4294967295
        exact wrapU32 (by omega) (by omega)
      | some q =>
        have hqm : q.1 ∈ keysT (T.getD newTab) := List.mem_map.2 ⟨q, List.mem_of_getElem? hq, rfl⟩
        have hqr := hr hqm
        have hlt := List.pairwise_iff_getElem.1 h.b.srt i.toNat (i.toNat + 1) (List.getElem?_eq_some_iff.1 hp).1 (List.getElem?_eq_some_iff.1 hq).1 (by omega)
        rw [(List.getElem?_eq_some_iff.1 hp).2, (List.getElem?_eq_some_iff.1 hq).2] at hlt
        simp only [Option.map_some]
        rw [wrapU64 (by omega) (by omega), wrapU32 (by omega) (by omega)]
  · rw [if_neg h0]
    have e1 : (T.getD newTab).b.atI i = none := by unfold Tr.atI; rw [if_neg h0]
    rw [e1]; rfl
end Go.Proofs.Ytanimmdlgmkmkaa.Av


/- flow.Cut. -/
namespace Go.Proofs.Ytanimmdlgmkmkaa.Av
open Go
set_option linter.unusedSimpArgs false
set_option linter.unusedVariables false
set_option maxRecDepth 100000
set_option maxHeartbeats 4000000
set_option pp.maxSteps 600

def netsAV (l : List (Nw × Fl)) (f : Bool) : AV := .sl 3 (l.map fun p => nwAV p.1 p.2) f
def rgsAV (l : List Rg) (f : Bool) : AV := .sl 2 (l.map rgAV) f
@[simp] theorem rgs_ids (K : Id → Prop) (l : List Rg) (f : Bool) : (rgsAV l f).ids K := by simp only [rgsAV, AV.ids]; exact idsL_map (rg_ids K) l
/-- The ranges of networks' rules. -/
def rgsOf (l : List Nw) : List Rg := l.flatMap fun n => n.rules.map (·.r)
def cutP (l : List Nw) (r : Rg) : List Rg := if r.hi < r.lo then [] else cutC (cutsL (heldL (rgsOf l))) r
structure NwOK (n : Nw) : Prop where
  rg : ∀ r ∈ n.rules, RgOK r.r
  ports : n.t.ports.length < 2 ^ 44
  links : n.t.links.length < 2 ^ 42
  rules : n.rules.length < 2932031007403
  id : ∀ r ∈ n.rules, -9223372036854775808 ≤ r.id ∧ r.id < 9223372036854775808
theorem cut_calls (l : List (Nw × Fl)) (f : Bool) (r : Rg) (hr : RgOK r) (hn : ∀ p ∈ l, NwOK p.1) (hl : l.length < 2 ^ 40) :
    PCalls Try.prog 39 [netsAV l f, rgAV r] (.tup [rgsAV (cutP (l.map (·.1)) r) false, .raw (.int .i64 (if r.hi < r.lo then 31 else 0))]) := by
  refine pbody Try.func39 rfl (N := 76) rfl rfl (by simp) (by simp [noIds]) fun σ => ?_
  have hrf : ∀ x y : Int, AV.agg [.raw (.int .u32 x), .raw (.int .u32 y)] = rgAV ⟨x, y⟩ := fun _ _ => rfl
  have f3 : σ.m ⟨3, σ.nx 3, 2⟩ = none := fresh_none _ _ _
  by_cases q0 : r.hi < r.lo
  · unfold cutP
    rw [if_pos q0, if_pos q0]
    (try ((first | with_reducible refine dops_go ?_ | with_reducible refine OKv_go ?_ | with_reducible refine OKr_go ?_); simp [-cellOK, rg_cells, hrf, q0])); repeat' (first | refine awp_seq ?_ | refine awp_block ?_ | (refine awp_skip ?_; try simp) | (refine awp_exit ?_; try simp) | (refine awp_ret ?_; try simp) | ((first | refine awp_reg ?_ | refine awp_drawT (fun _ => false) mixed (by decide +kernel) ?_ | refine awp_drawT isCallO mixed (by decide +kernel) ?_); simp [-cellOK, rg_cells, hrf, q0]) | (refine guarded_split ?_ ?_ <;> (intro hg; simp only [hg]; simp [-cellOK, rg_cells, hrf, q0])) | (apply awp_cond_t; focus (simp [-cellOK, rg_cells, hrf, q0]; done)) | (apply awp_cond_f; focus (simp [-cellOK, rg_cells, hrf, q0]; done)) | (refine awp_cond ?_; simp [-cellOK, rg_cells, hrf, q0]; refine ⟨?_, ?_⟩ <;> intro hc) | fail)
    refine retP_weak (x := .tup [.sl 0 [] true, .raw (.int .i64 31)]) (.inr rfl) (by repeat (first | assumption | exact Ext.refl _ | refine ext_new' ?_ | refine Ext.setF ?_ (by first | assumption | (simp [new_nx', St.set, fresh_none]; done) | exact ext_fresh (by assumption)))) ?_ ?_
    · simp
    · simp only [giveUps, List.map_cons, List.map_nil, giveUp]
      exact weaker_tup weaker_sl
  rw [if_neg q0]
  refine awp_seq ?_
  (try ((first | with_reducible refine dops_go ?_ | with_reducible refine OKv_go ?_ | with_reducible refine OKr_go ?_); simp [-cellOK, rg_cells, hrf, q0])); repeat' (first | refine awp_seq ?_ | refine awp_block ?_ | (refine awp_skip ?_; try simp) | (refine awp_exit ?_; try simp) | (refine awp_ret ?_; try simp) | ((first | refine awp_reg ?_ | refine awp_drawT (fun _ => false) mixed (by decide +kernel) ?_ | refine awp_drawT isCallO mixed (by decide +kernel) ?_ | refine PCalls.use (tabNew_calls) ?_ | refine Or.inl ⟨_, Or.inl (tabNew_calls), ?_⟩); simp [-cellOK, rg_cells, hrf, q0]) | (refine guarded_split ?_ ?_ <;> (intro hg; simp only [hg]; simp [-cellOK, rg_cells, hrf, q0])) | (apply awp_cond_t; focus (simp [-cellOK, rg_cells, hrf, q0]; done)) | (apply awp_cond_f; focus (simp [-cellOK, rg_cells, hrf, q0]; done)) | (refine awp_cond ?_; simp [-cellOK, rg_cells, hrf, q0]; refine ⟨?_, ?_⟩ <;> intro hc) | fail)
  refine awp_freeze ⟨3, σ.nx 3, 2⟩ ?_
  generalize hτ : St.del _ _ = τ
  generalize hA : (fun t => giveUp _ _ _) = A
  have a3 : A 3 = .pp [.raw (.int .u32 r.lo), .raw (.int .u32 r.hi)] 0 := by rw [← hA, ← hτ]; simp [giveUp, St.new, St.del, rg_cells]
  have a6 : A 6 = tabO (some newTab) := by rw [← hA]; simp [tabO, tabP]
  have a21 : A 21 = netsAV l f := by rw [← hA]; simp [netsAV]
  have a22 : A 22 = .raw (.int .i64 l.length) := by rw [← hA]; simp [netsAV]
  have a23 : A 23 = .raw (.int .i64 0) := by rw [← hA]; simp
  have hE : Ext σ τ := by
    rw [← hτ]
    refine ⟨fun i o h => ?_, fun s => ?_⟩
    · rw [del_other (fun e => by rw [e, fresh_none] at h; cases h)]
      exact new_up _ _ h
    · exact St.new_le σ 3 2 (.buf [rgAV r]) s
  clear hτ hA
  refine awp_loopH (fun n B ρ => Ext σ ρ ∧ B 3 = .pp [.raw (.int .u32 r.lo), .raw (.int .u32 r.hi)] 0 ∧ B 21 = netsAV l f ∧ B 22 = .raw (.int .i64 l.length) ∧ ∃ (i : Nat) (T : Option Tab) (s : Option (List Rg)), B 23 = .raw (.int .i64 i) ∧ i ≤ l.length ∧ n = l.length - i ∧ B 6 = tabO T ∧ RepO T s ∧ s = (rgsOf ((l.take i).map (·.1))).foldl stepL (some [])) l.length ?_ ?_
  · exact ⟨hE, a3, a21, a22, 0, some newTab, some [], a23, by omega, by omega, a6, ⟨rep_new, by simp⟩, by simp [rgsOf]⟩
  clear hE a3 a6 a21 a22 a23
  rintro n B ρ ⟨hE, a3, a21, a22, i, T, s, a23, hi, rfl, a6, hrep, hs⟩ I1 hI1
  by_cases hlt : i < l.length
  · have hx : l[i]? = some l[i] := List.getElem?_eq_getElem hlt
    have w1 : IntKind.i64.wrap ((i : Int) + 1) = ((i + 1 : Nat) : Int) := by rw [wrap64 (by omega) (by omega)]; omega
    obtain ⟨nf, hnf⟩ : ∃ nf, l[i] = nf := ⟨_, rfl⟩
    have hok : NwOK nf.1 := hn nf (by rw [← hnf]; exact List.getElem_mem hlt)
    have hsum : rgsOf ((l.take (i + 1)).map (·.1)) = rgsOf ((l.take i).map (·.1)) ++ nf.1.rules.map (·.r) := by
      rw [List.take_add_one, hx, hnf]; simp [rgsOf]
    obtain ⟨N, fl⟩ := nf
    have hrl : N.rules.length < 2932031007403 := hok.rules
    have hnn : nwAV N fl = .agg [intsAV N.t.ports fl.p, linksAV N.t.links fl.l, rulesAV N.rules fl.r] := rfl
    have hnp : ∀ z : AV, z.cells.length = 3 → setPart (AV.agg [.sl 0 [] true, .sl 0 [] true, .sl 0 [] true]) 0 z.cells = .agg z.cells := fun z hz => by
      obtain ⟨a, b, c, h⟩ : ∃ a b c, z.cells = [a, b, c] := by
        match hh : z.cells with
        | [a, b, c] => exact ⟨a, b, c, rfl⟩
        | [] => rw [hh] at hz; cases hz
        | [_] => rw [hh] at hz; cases hz
        | [_, _] => rw [hh] at hz; cases hz
        | _ :: _ :: _ :: _ :: _ => rw [hh] at hz; simp at hz
      rw [h]; rfl
    (try ((first | with_reducible refine dops_go ?_ | with_reducible refine OKv_go ?_ | with_reducible refine OKr_go ?_); simp [-cellOK, a3, a6, a21, a22, a23, netsAV, hlt, hx, hnf, hnn, nw_cells])); repeat' (first | refine awp_seq ?_ | refine awp_block ?_ | (refine awp_skip ?_; try simp) | (refine awp_exit ?_; try simp) | (refine awp_ret ?_; try simp) | (refine retP_same (by simp) ?_; simp) | (refine retP_no (by simp) (by simp [noIds]) (by repeat (first | assumption | exact Ext.refl _ | refine ext_new' ?_ | refine Ext.setF ?_ (by first | assumption | (simp [new_nx', St.set, fresh_none]; done) | exact ext_fresh (by assumption)))) ?_; simp [-cellOK, a3, a6, a21, a22, a23, netsAV, hlt, hx, hnf, hnn, nw_cells, new_m, set_m, new_nx']) | ((first | refine awp_reg ?_ | refine awp_drawT (fun _ => false) mixed (by decide +kernel) ?_ | refine awp_drawT isCallO mixed (by decide +kernel) ?_); simp [-cellOK, a3, a6, a21, a22, a23, netsAV, hlt, hx, hnf, hnn, nw_cells]) | (refine guarded_split ?_ ?_ <;> (intro hg; simp only [hg]; simp [-cellOK, a3, a6, a21, a22, a23, netsAV, hlt, hx, hnf, hnn, nw_cells])) | (apply awp_cond_t; focus (simp [-cellOK, a3, a6, a21, a22, a23, netsAV, hlt, hx, hnf, hnn, nw_cells]; done)) | (apply awp_cond_f; focus (simp [-cellOK, a3, a6, a21, a22, a23, netsAV, hlt, hx, hnf, hnn, nw_cells]; done)) | (refine awp_cond ?_; simp [-cellOK, a3, a6, a21, a22, a23, netsAV, hlt, hx, hnf, hnn, nw_cells]; refine ⟨?_, ?_⟩ <;> intro hc) | fail)
    refine awp_loopH (fun n C τ => Ext σ τ ∧ C 3 = .pp [.raw (.int .u32 r.lo), .raw (.int .u32 r.hi)] 0 ∧ C 21 = netsAV l f ∧ C 22 = .raw (.int .i64 l.length) ∧ C 23 = .raw (.int .i64 i) ∧ C 28 = rulesAV N.rules fl.r ∧ C 29 = .raw (.int .i64 N.rules.length) ∧ ∃ (j : Nat) (T : Option Tab) (s' : Option (List Rg)), C 30 = .raw (.int .i64 j) ∧ j ≤ N.rules.length ∧ n = N.rules.length - j ∧ C 6 = tabO T ∧ RepO T s' ∧ s' = ((N.rules.take j).map (·.r)).foldl stepL s) N.rules.length ?_ ?_
    · exact ⟨(by repeat (first | assumption | exact Ext.refl _ | refine ext_new' ?_ | refine Ext.setF ?_ (by first | assumption | (simp [new_nx', St.set, fresh_none]; done) | exact ext_fresh (by assumption)))), by simp [a3], by simp [a21, netsAV], by simp [a22], by simp [a23], by simp [rulesAV], by simp [rulesAV], 0, T, s, by simp, by omega, by omega, by simp [a6], hrep, by simp⟩
    clear hE a3 a6 a21 a22 a23 hrep
    rintro n C τ ⟨hE, a3, a21, a22, a23, a28, a29, j, T, s', a30, hj, rfl, a6, hrep, hs'⟩ J1 hJ1
    by_cases hjl : j < N.rules.length
    · have hxj : N.rules[j]? = some N.rules[j] := List.getElem?_eq_getElem hjl
      have w2 : IntKind.i64.wrap ((j : Int) + 1) = ((j + 1 : Nat) : Int) := by rw [wrap64 (by omega) (by omega)]; omega
      have hrk := hok.rg _ (List.getElem_mem hjl)
      have hst : ((N.rules.take (j + 1)).map (·.r)).foldl stepL s = stepL s' N.rules[j].r := by
        rw [List.take_add_one, hxj, List.map_append, List.foldl_append, ← hs']; rfl
      obtain ⟨x, hxe⟩ : ∃ x, N.rules[j] = x := ⟨_, rfl⟩
      rw [hxe] at hrk hst
      obtain ⟨g1, g2⟩ := hrep.step hrk
      have hadd := add_calls T x.r g1
      have hxr : AV.agg [.raw (.int .u32 x.r.lo), .raw (.int .u32 x.r.hi)] = rgAV x.r := rfl
      generalize (addT T x.r).1 = T' at hadd g2
      generalize (addT T x.r).2 = e' at hadd
      (try ((first | with_reducible refine dops_go ?_ | with_reducible refine OKv_go ?_ | with_reducible refine OKr_go ?_); simp [-cellOK, a3, a6, a21, a22, a23, a28, a29, a30, rulesAV, hjl, hxj, hxe, ru_cells, hxr, w2])); repeat' (first | refine awp_seq ?_ | refine awp_block ?_ | (refine awp_skip ?_; try simp) | (refine awp_exit ?_; try simp) | (refine awp_ret ?_; try simp) | (refine retP_same (by simp) ?_; simp) | (refine retP_no (by simp) (by simp [noIds]) (by repeat (first | assumption | exact Ext.refl _ | refine ext_new' ?_ | refine Ext.setF ?_ (by first | assumption | (simp [new_nx', St.set, fresh_none]; done) | exact ext_fresh (by assumption)))) ?_; simp [-cellOK, a3, a6, a21, a22, a23, a28, a29, a30, rulesAV, hjl, hxj, hxe, ru_cells, hxr, w2, new_m, set_m, new_nx']) | ((first | refine awp_reg ?_ | refine awp_drawT (fun _ => false) mixed (by decide +kernel) ?_ | refine awp_drawT isCallO mixed (by decide +kernel) ?_ | refine PCalls.use (hadd) ?_ | refine Or.inl ⟨_, Or.inl (hadd), ?_⟩); simp [-cellOK, a3, a6, a21, a22, a23, a28, a29, a30, rulesAV, hjl, hxj, hxe, ru_cells, hxr, w2]) | (refine guarded_split ?_ ?_ <;> (intro hg; simp only [hg]; simp [-cellOK, a3, a6, a21, a22, a23, a28, a29, a30, rulesAV, hjl, hxj, hxe, ru_cells, hxr, w2])) | (apply awp_cond_t; focus (simp [-cellOK, a3, a6, a21, a22, a23, a28, a29, a30, rulesAV, hjl, hxj, hxe, ru_cells, hxr, w2]; done)) | (apply awp_cond_f; focus (simp [-cellOK, a3, a6, a21, a22, a23, a28, a29, a30, rulesAV, hjl, hxj, hxe, ru_cells, hxr, w2]; done)) | (refine awp_cond ?_; simp [-cellOK, a3, a6, a21, a22, a23, a28, a29, a30, rulesAV, hjl, hxj, hxe, ru_cells, hxr, w2]; refine ⟨?_, ?_⟩ <;> intro hc) | fail)
      refine hJ1 (N.rules.length - (j + 1)) _ _ (by omega) ⟨(by repeat (first | assumption | exact Ext.refl _ | refine ext_new' ?_ | refine Ext.setF ?_ (by first | assumption | (simp [new_nx', St.set, fresh_none]; done) | exact ext_fresh (by assumption)))), by simp [a3], by simp [a21], by simp [a22], by simp [a23], by simp [a28], by simp [a29], j + 1, T', stepL s' x.r, by simp, by omega, rfl, by simp, g2, hst.symm⟩
    · have : j = N.rules.length := by omega
      subst this
      rw [List.take_length] at hs'
      (try ((first | with_reducible refine dops_go ?_ | with_reducible refine OKv_go ?_ | with_reducible refine OKr_go ?_); simp [-cellOK, a3, a6, a21, a22, a23, a28, a29, a30, w1])); repeat' (first | refine awp_seq ?_ | refine awp_block ?_ | (refine awp_skip ?_; try simp) | (refine awp_exit ?_; try simp) | (refine awp_ret ?_; try simp) | (refine retP_same (by simp) ?_; simp) | (refine retP_no (by simp) (by simp [noIds]) (by repeat (first | assumption | exact Ext.refl _ | refine ext_new' ?_ | refine Ext.setF ?_ (by first | assumption | (simp [new_nx', St.set, fresh_none]; done) | exact ext_fresh (by assumption)))) ?_; simp [-cellOK, a3, a6, a21, a22, a23, a28, a29, a30, w1, new_m, set_m, new_nx']) | ((first | refine awp_reg ?_ | refine awp_drawT (fun _ => false) mixed (by decide +kernel) ?_ | refine awp_drawT isCallO mixed (by decide +kernel) ?_); simp [-cellOK, a3, a6, a21, a22, a23, a28, a29, a30, w1]) | (refine guarded_split ?_ ?_ <;> (intro hg; simp only [hg]; simp [-cellOK, a3, a6, a21, a22, a23, a28, a29, a30, w1])) | (apply awp_cond_t; focus (simp [-cellOK, a3, a6, a21, a22, a23, a28, a29, a30, w1]; done)) | (apply awp_cond_f; focus (simp [-cellOK, a3, a6, a21, a22, a23, a28, a29, a30, w1]; done)) | (refine awp_cond ?_; simp [-cellOK, a3, a6, a21, a22, a23, a28, a29, a30, w1]; refine ⟨?_, ?_⟩ <;> intro hc) | fail)
      refine hI1 (l.length - (i + 1)) _ _ (by omega) ⟨hE, by simp [a3], by simp [a21], by simp [a22], i + 1, T, s', by simp, by omega, rfl, by simp [a6], hrep, ?_⟩
      rw [hsum, List.foldl_append, ← hs, hs']
  · have : i = l.length := by omega
    subst this
    rw [List.take_length] at hs
    have hL : heldL (rgsOf (l.map (·.1))) = s.getD [] := by rw [hs]; rfl
    obtain ⟨hrp, hsl⟩ := hrep.get
    unfold cutP
    rw [if_neg q0, hL]
    clear hs hL hI1 hrep
    generalize s.getD [] = L at hrp hsl ⊢
    obtain ⟨r0, r1, r2, r3⟩ := hr
    have hcc := cutsL_cuts L
    have hcl : (cutsL L).length ≤ 1 + 2 * L.length := by
      have := nodup_le (m := 0 :: endsL L) (hcc.srt.imp fun h => by omega) fun x hx => by
        rw [List.mem_cons]; simp only [endsL, List.mem_flatMap]; exact (hcc.mem x).1 hx
      have := endsL_len L
      simp only [List.length_cons] at *
      omega
    have hbz : (T.getD newTab).b.sz < 2 ^ 40 := by rw [rep_len hrp]; omega
    have k1 := hcc.pos (a := r.lo) r0
    have k2 := hcc.pos (a := r.hi) r2
    obtain ⟨p, hp⟩ : ∃ p, (cutsL L).countP (fun y => decide (y ≤ r.lo)) = p + 1 := ⟨_, (Nat.succ_pred_eq_of_pos k1).symm⟩
    obtain ⟨q, hq⟩ : ∃ p, (cutsL L).countP (fun y => decide (y ≤ r.hi)) = p + 1 := ⟨_, (Nat.succ_pred_eq_of_pos k2).symm⟩
    obtain ⟨hpq, hqA, hcut⟩ := cut_by_place hcc ⟨r0, r1, r2, r3⟩ (by omega) hp hq
    have ho1 := tabOf_calls T r.lo r0 r1 hbz
    have ho2 := tabOf_calls T r.hi r2 r3 hbz
    rw [rep_of hrp, hp, show (((p + 1 : Nat) : Int) - 1) = (p : Int) by omega] at ho1
    rw [rep_of hrp, hq, show (((q + 1 : Nat) : Int) - 1) = (q : Int) by omega] at ho2
    rw [hcut]
    have hA := atomsC_len (cutsL L)
    have hat := fun i => rep_atom hrp i
    generalize atomsC (cutsL L) = Al at *
    generalize cutsL L = c at *
    obtain ⟨G, hG⟩ : ∃ G : Nat → Rg, G = fun k => ⟨max (Al.getD (p + k) ⟨0, 0⟩).lo r.lo, min (Al.getD (p + k) ⟨0, 0⟩).hi r.hi⟩ := ⟨_, rfl⟩
    rw [← hG]
    (try ((first | with_reducible refine dops_go ?_ | with_reducible refine OKv_go ?_ | with_reducible refine OKr_go ?_); simp [-cellOK, a3, a6, a21, a22, a23])); repeat' (first | refine awp_seq ?_ | refine awp_block ?_ | (refine awp_skip ?_; try simp) | (refine awp_exit ?_; try simp) | (refine awp_ret ?_; try simp) | (refine retP_same (by simp) ?_; simp) | (refine retP_no (by simp) (by simp [noIds]) (by repeat (first | assumption | exact Ext.refl _ | refine ext_new' ?_ | refine Ext.setF ?_ (by first | assumption | (simp [new_nx', St.set, fresh_none]; done) | exact ext_fresh (by assumption)))) ?_; simp [-cellOK, a3, a6, a21, a22, a23, new_m, set_m, new_nx']) | ((first | refine awp_reg ?_ | refine awp_drawT (fun _ => false) mixed (by decide +kernel) ?_ | refine awp_drawT isCallO mixed (by decide +kernel) ?_ | refine PCalls.use (ho1) ?_ | refine Or.inl ⟨_, Or.inl (ho1), ?_⟩); simp [-cellOK, a3, a6, a21, a22, a23]) | (refine guarded_split ?_ ?_ <;> (intro hg; simp only [hg]; simp [-cellOK, a3, a6, a21, a22, a23])) | (apply awp_cond_t; focus (simp [-cellOK, a3, a6, a21, a22, a23]; done)) | (apply awp_cond_f; focus (simp [-cellOK, a3, a6, a21, a22, a23]; done)) | (refine awp_cond ?_; simp [-cellOK, a3, a6, a21, a22, a23]; refine ⟨?_, ?_⟩ <;> intro hc) | fail)
    refine awp_loopH (fun n B ρ => Ext σ ρ ∧ B 3 = .pp [.raw (.int .u32 r.lo), .raw (.int .u32 r.hi)] 0 ∧ B 6 = tabO T ∧ ∃ (j : Nat) (k : Int) (v : AV), B 12 = .raw (.int .i64 k) ∧ k = (p + j : Nat) ∧ j ≤ q + 1 - p ∧ n = q + 1 - p - j ∧ B 11 = v ∧ OwnL σ ρ 2 v (((List.range j).map G).map rgAV)) (q + 1 - p) ?_ ?_
    · exact ⟨hE, by simp [a3], by simp [a6], 0, p, .sl 0 [] true, by simp, by omega, by omega, by omega, by simp, .inl ⟨by simp, rfl⟩⟩
    clear hE a3 a6 a21 a22 a23
    rintro n B ρ ⟨hE, a3, a6, j, k, v, a12, hk, hj, rfl, a11, hO⟩ I1 hI1
    by_cases hjl : j < q + 1 - p
    · have hxa : Al[p + j]? = some Al[p + j] := List.getElem?_eq_getElem (by omega)
      have w1 : IntKind.i64.wrap (k + 1) = k + 1 := wrap64 (by omega) (by omega)
      have hac := atom_calls T k hbz
      rw [hat, if_pos (by omega), show k.toNat = p + j by omega, hxa] at hac
      have hGj : G j = ⟨max Al[p + j].lo r.lo, min Al[p + j].hi r.hi⟩ := by
        rw [hG]; simp only [List.getD_eq_getElem?_getD, hxa, Option.getD_some]
      simp only [Option.getD_some, Option.isSome_some] at hac
      generalize Al[p + j] = a at hac hGj
      have m1 : (if a.lo < r.lo then r.lo else a.lo) = (G j).lo := by rw [hGj]; simp only []; rw [Int.max_def]; split <;> split <;> omega
      have m2 : (if r.hi < a.hi then r.hi else a.hi) = (G j).hi := by rw [hGj]; simp only []; rw [Int.min_def]; split <;> split <;> omega
      have hle : k ≤ (q : Int) := by omega
      have hrq : ∀ x y : Int, setPart (rgAV ⟨0, 0⟩) 0 [.raw (.int .u32 x), .raw (.int .u32 y)] = rgAV ⟨x, y⟩ := fun _ _ => rfl
      (try ((first | with_reducible refine dops_go ?_ | with_reducible refine OKv_go ?_ | with_reducible refine OKr_go ?_); simp [-cellOK, a3, a6, a11, a12, hle, rg_cells, m1, m2, hrf, hrq, w1, -opAppend])); repeat' (first | refine awp_seq ?_ | refine awp_block ?_ | (refine awp_skip ?_; try simp) | (refine awp_exit ?_; try simp) | (refine awp_ret ?_; try simp) | (refine retP_same (by simp) ?_; simp) | (refine retP_no (by simp) (by simp [noIds]) (by repeat (first | assumption | exact Ext.refl _ | refine ext_new' ?_ | refine Ext.setF ?_ (by first | assumption | (simp [new_nx', St.set, fresh_none]; done) | exact ext_fresh (by assumption)))) ?_; simp [-cellOK, a3, a6, a11, a12, hle, rg_cells, m1, m2, hrf, hrq, w1, -opAppend, new_m, set_m, new_nx']) | ((first | refine awp_reg ?_ | refine awp_drawT (fun _ => false) mixed (by decide +kernel) ?_ | refine awp_drawT isCallO mixed (by decide +kernel) ?_ | refine PCalls.use (ho2) ?_ | refine Or.inl ⟨_, Or.inl (ho2), ?_⟩ | refine PCalls.use (hac) ?_ | refine Or.inl ⟨_, Or.inl (hac), ?_⟩); simp [-cellOK, a3, a6, a11, a12, hle, rg_cells, m1, m2, hrf, hrq, w1, -opAppend]) | (refine guarded_split ?_ ?_ <;> (intro hg; simp only [hg]; simp [-cellOK, a3, a6, a11, a12, hle, rg_cells, m1, m2, hrf, hrq, w1, -opAppend])) | (apply awp_cond_t; focus (simp [-cellOK, a3, a6, a11, a12, hle, rg_cells, m1, m2, hrf, hrq, w1, -opAppend]; done)) | (apply awp_cond_f; focus (simp [-cellOK, a3, a6, a11, a12, hle, rg_cells, m1, m2, hrf, hrq, w1, -opAppend]; done)) | (refine awp_cond ?_; simp [-cellOK, a3, a6, a11, a12, hle, rg_cells, m1, m2, hrf, hrq, w1, -opAppend]; refine ⟨?_, ?_⟩ <;> intro hc) | fail)
      refine okr_append slt92 (σ0 := σ) (hO.ext (by repeat (first | assumption | exact Ext.refl _ | refine ext_new' ?_ | refine Ext.setF ?_ (by first | assumption | (simp [new_nx', St.set, fresh_none]; done) | exact ext_fresh (by assumption))))) (by repeat (first | assumption | exact Ext.refl _ | refine ext_new' ?_ | refine Ext.setF ?_ (by first | assumption | (simp [new_nx', St.set, fresh_none]; done) | exact ext_fresh (by assumption)))) (ys := [rgAV ⟨(G j).lo, (G j).hi⟩]) (by simp [new_m, new_nx']) (.inr rfl) (by simp [rg_cells]) (by simp; omega) ?_
      intro v' τ' hO' hE' _ _
      (try ((first | with_reducible refine dops_go ?_ | with_reducible refine OKv_go ?_ | with_reducible refine OKr_go ?_); simp [-cellOK, a3, a6, a12, w1])); repeat' (first | refine awp_seq ?_ | refine awp_block ?_ | (refine awp_skip ?_; try simp) | (refine awp_exit ?_; try simp) | (refine awp_ret ?_; try simp) | (refine retP_same (by simp) ?_; simp) | (refine retP_no (by simp) (by simp [noIds]) (by repeat (first | assumption | exact Ext.refl _ | refine ext_new' ?_ | refine Ext.setF ?_ (by first | assumption | (simp [new_nx', St.set, fresh_none]; done) | exact ext_fresh (by assumption)))) ?_; simp [-cellOK, a3, a6, a12, w1, new_m, set_m, new_nx']) | ((first | refine awp_reg ?_ | refine awp_drawT (fun _ => false) mixed (by decide +kernel) ?_ | refine awp_drawT isCallO mixed (by decide +kernel) ?_); simp [-cellOK, a3, a6, a12, w1]) | (refine guarded_split ?_ ?_ <;> (intro hg; simp only [hg]; simp [-cellOK, a3, a6, a12, w1])) | (apply awp_cond_t; focus (simp [-cellOK, a3, a6, a12, w1]; done)) | (apply awp_cond_f; focus (simp [-cellOK, a3, a6, a12, w1]; done)) | (refine awp_cond ?_; simp [-cellOK, a3, a6, a12, w1]; refine ⟨?_, ?_⟩ <;> intro hc) | fail)
      refine hI1 (q + 1 - p - (j + 1)) _ _ (by omega) ⟨hE', by simp [a3], by simp [a6], j + 1, k + 1, v', by simp, by omega, by omega, rfl, by simp, ?_⟩
      rw [List.range_succ, List.map_append, List.map_append]
      exact hO'
    · have hje : j = q + 1 - p := by omega
      subst hje
      have hle : ¬ k ≤ (q : Int) := by omega
      (try ((first | with_reducible refine dops_go ?_ | with_reducible refine OKv_go ?_ | with_reducible refine OKr_go ?_); simp [-cellOK, a3, a6, a11, a12, hle])); repeat' (first | refine awp_seq ?_ | refine awp_block ?_ | (refine awp_skip ?_; try simp) | (refine awp_exit ?_; try simp) | (refine awp_ret ?_; try simp) | ((first | refine awp_reg ?_ | refine awp_drawT (fun _ => false) mixed (by decide +kernel) ?_ | refine awp_drawT isCallO mixed (by decide +kernel) ?_ | refine PCalls.use (ho2) ?_ | refine Or.inl ⟨_, Or.inl (ho2), ?_⟩); simp [-cellOK, a3, a6, a11, a12, hle]) | (refine guarded_split ?_ ?_ <;> (intro hg; simp only [hg]; simp [-cellOK, a3, a6, a11, a12, hle])) | (apply awp_cond_t; focus (simp [-cellOK, a3, a6, a11, a12, hle]; done)) | (apply awp_cond_f; focus (simp [-cellOK, a3, a6, a11, a12, hle]; done)) | (refine awp_cond ?_; simp [-cellOK, a3, a6, a11, a12, hle]; refine ⟨?_, ?_⟩ <;> intro hc) | fail)
      exact retP_ownT (v := v) (u := .int .i64 0) (.inr rfl) (by simp) hO hE
end Go.Proofs.Ytanimmdlgmkmkaa.Av


/- Networks: fate.devices, and its body. -/
namespace Go.Proofs.Ytanimmdlgmkmkaa.Av
open Go
set_option linter.unusedSimpArgs false
set_option linter.unusedVariables false
set_option maxRecDepth 100000
set_option maxHeartbeats 4000000
set_option pp.maxSteps 600

def ndAV (f : Int) (p : Pt) : AV := .agg [.raw (.int .i64 f), .raw (.int .i64 p.dev), .raw (.int .i64 p.port)]
theorem nd_cells (f : Int) (p : Pt) : (ndAV f p).cells = [.raw (.int .i64 f), .raw (.int .i64 p.dev), .raw (.int .i64 p.port)] := rfl
theorem pt_cells (q : Pt) : (ptAV q).cells = [.raw (.int .i64 q.dev), .raw (.int .i64 q.port)] := rfl
theorem pt_put (x y : Int) : setPart (AV.agg [.raw (.int .i64 0), .raw (.int .i64 0)]) 0 [.raw (.int .i64 x), .raw (.int .i64 y)] = ptAV ⟨x, y⟩ := rfl
theorem pt_put2 (q : Pt) (x y : Int) : setPart (ptAV q) 0 [.raw (.int .i64 x), .raw (.int .i64 y)] = ptAV ⟨x, y⟩ := rfl
theorem nw_fold (n : Nw) (f : Fl) : AV.agg [intsAV n.t.ports f.p, linksAV n.t.links f.l, rulesAV n.rules f.r] = nwAV n f := rfl
theorem i_part (v w : Value) (off : Nat) : setPart (AV.raw v) off [AV.raw w] = .raw w := rfl
theorem devices_calls (N : Nw) (f : Fl) (d a : Int) (ie : Id) {σ : St} (hie : σ.m ie ≠ none) :
    ACalls Try.prog 41 [nwAV N f, .raw (.int .i64 d), .raw (.int .u32 a), .rp ie 0 0] σ fun r τ => ∃ i : Id, r = .fn (.func 69) [] [.rp i 0 0, .pp (nwAV N f).cells 0, .pp [.raw (.int .u32 a)] 0, .pp [.rp ie 0 0] 0] ∧ i.sz = 1 ∧ σ.m i = none ∧ τ.m i = some (.buf [.raw (.int .i64 d)]) ∧ Ext σ τ := by
  have ne : ∀ slot sz, ie ≠ ⟨slot, σ.nx slot, sz⟩ := fun slot sz e => hie (by rw [e]; exact fresh_none _ _ _)
  refine abody Try.func41 rfl (N := 10) rfl rfl (by simp) ?_
  repeat (refine awp_seq ?_)
  refine awp_reg ?_
  simp [-cellOK, nw_cells]
  refine awp_freeze ⟨4, σ.nx 4, 3⟩ ?_
  refine awp_freeze ⟨6, σ.nx 6, 1⟩ ?_
  refine awp_freeze ⟨7, σ.nx 7, 1⟩ ?_
  generalize hτ : St.del _ _ = τ
  generalize hA : (fun t => giveUp _ _ _) = A
  have a4 : A 4 = .pp (nwAV N f).cells 0 := by rw [← hA, ← hτ]; simp [giveUp, St.new, St.del, nw_cells]
  have a5 : A 5 = .rp ⟨5, σ.nx 5, 1⟩ 0 0 := by rw [← hA, ← hτ]; simp [giveUp, St.new, St.del, nw_cells]
  have a6 : A 6 = .pp [.raw (.int .u32 a)] 0 := by rw [← hA, ← hτ]; simp [giveUp, St.new, St.del, nw_cells]
  have a7 : A 7 = .pp [.rp ie 0 0] 0 := by rw [← hA, ← hτ]; simp [giveUp, St.new, St.del, nw_cells, ne]
  have hm : τ.m ⟨5, σ.nx 5, 1⟩ = some (.buf [.raw (.int .i64 d)]) := by rw [← hτ]; simp [St.new, St.del]
  have hE : Ext σ τ := by
    rw [← hτ]
    refine ⟨fun i o h => ?_, fun s => ?_⟩
    · have q1 : i ≠ ⟨4, σ.nx 4, 3⟩ := fun e => by rw [e, fresh_none] at h; cases h
      have q2 : i ≠ ⟨5, σ.nx 5, 1⟩ := fun e => by rw [e, fresh_none] at h; cases h
      have q3 : i ≠ ⟨6, σ.nx 6, 1⟩ := fun e => by rw [e, fresh_none] at h; cases h
      have q4 : i ≠ ⟨7, σ.nx 7, 1⟩ := fun e => by rw [e, fresh_none] at h; cases h
      simp [St.del, St.new, q1, q2, q3, q4, h]
    · simp only [St.del, St.new]
      repeat' split
      all_goals omega
  clear hτ hA
  (try ((first | with_reducible refine dops_go ?_ | with_reducible refine OKv_go ?_ | with_reducible refine OKr_go ?_); simp [-cellOK, a4, a5, a6, a7])); repeat' (first | refine awp_seq ?_ | refine awp_block ?_ | (refine awp_skip ?_; try simp) | (refine awp_exit ?_; try simp) | (refine awp_ret ?_; try simp) | ((first | refine awp_reg ?_ | refine awp_drawT (fun _ => false) mixed (by decide +kernel) ?_ | refine awp_drawT isCallO mixed (by decide +kernel) ?_); simp [-cellOK, a4, a5, a6, a7]) | (refine guarded_split ?_ ?_ <;> (intro hg; simp only [hg]; simp [-cellOK, a4, a5, a6, a7])) | (apply awp_cond_t; focus (simp [-cellOK, a4, a5, a6, a7]; done)) | (apply awp_cond_f; focus (simp [-cellOK, a4, a5, a6, a7]; done)) | (refine awp_cond ?_; simp [-cellOK, a4, a5, a6, a7]; refine ⟨?_, ?_⟩ <;> intro hc) | fail)
  exact retK_of (x := .fn (.func 69) [] [.rp ⟨5, σ.nx 5, 1⟩ 0 0, .pp (nwAV N f).cells 0, .pp [.raw (.int .u32 a)] 0, .pp [.rp ie 0 0] 0]) (.inr rfl) (by simp) ⟨_, rfl, rfl, fresh_none _ _ _, hm, hE⟩

/-- What must hold behind a yield. -/
def DevPost (N : Nw) (a : Int) (iat ie : Id) (Q : Int → List Int → St → Prop) (F : St → Prop) (d : Int) (p : List Int) (r : AV) (ρ : St) : Prop :=
  (r = .raw (.bool true) ∧ ρ.m iat = some (.buf [.raw (.int .i64 d)]) ∧ ρ.m ie = some (.buf [ndAV 4 ⟨0, 0⟩]) ∧ ((stepF N d a).1 ≠ 4 → ∀ π, Ext ρ π → F (π.set ie (.buf [ndAV (stepF N d a).1 (stepF N d a).2]))) ∧
    ((stepF N d a).1 = 4 → ∀ π, Ext ρ π → Q (nextDev N (stepF N d a).2) (p ++ [d]) (π.set iat (.buf [.raw (.int .i64 (nextDev N (stepF N d a).2))])))) ∨ (r = .raw (.bool false) ∧ F ρ)
/-- The devices on a way, yielded one by one. -/
theorem devs_yield (N : Nw) (f : Fl) (a : Int) (iat ie : Id) (hN : NwOK N) (M : Nat) (Q : Int → List Int → St → Prop) (F : St → Prop) (b : Nat)
    (hlen : ∀ d p τ, Q d p τ → p.length ≤ M)
    (hQE : ∀ d p τ ρ, Q d p τ → Ext τ ρ → Q d p ρ)
    (hFE : ∀ τ ρ, F τ → Ext τ ρ → F ρ)
    (hat : ∀ d p τ, Q d p τ → τ.m iat = some (.buf [.raw (.int .i64 d)]))
    (hy : ∀ d p τ, Q d p τ → YK Try.prog b [.raw (.int .i64 d)] τ (DevPost N a iat ie Q F d p))
    {σ : St} {d0 : Int} (hQ : Q d0 [] σ) :
    ACalls Try.prog 69 (.fn (.yield b) [] [] :: [.rp iat 0 0, .pp (nwAV N f).cells 0, .pp [.raw (.int .u32 a)] 0, .pp [.rp ie 0 0] 0]) σ fun _ τ => F τ := by
  obtain ⟨hr0, hp0, hl0, hu0, hi0⟩ := hN
  refine abody Try.func69 rfl (N := 36) rfl rfl (by simp) ?_
  (try ((first | with_reducible refine dops_go ?_ | with_reducible refine OKv_go ?_ | with_reducible refine OKr_go ?_); simp [-cellOK, nw_cells])); repeat' (first | refine awp_seq ?_ | refine awp_block ?_ | (refine awp_skip ?_; try simp) | (refine awp_exit ?_; try simp) | (refine awp_ret ?_; try simp) | (refine retP_same (by simp) ?_; simp) | (refine retP_no (by simp) (by simp [noIds]) (by repeat (first | assumption | exact Ext.refl _ | refine ext_new' ?_ | refine Ext.setF ?_ (by first | assumption | (simp [new_nx', St.set, fresh_none]; done) | exact ext_fresh (by assumption)))) ?_; simp [-cellOK, nw_cells, new_m, set_m, new_nx']) | ((first | refine awp_reg ?_ | refine awp_drawT (fun _ => false) mixed (by decide +kernel) ?_ | refine awp_drawT isCallO mixed (by decide +kernel) ?_); simp [-cellOK, nw_cells]) | (refine guarded_split ?_ ?_ <;> (intro hg; simp only [hg]; simp [-cellOK, nw_cells])) | (apply awp_cond_t; focus (simp [-cellOK, nw_cells]; done)) | (apply awp_cond_f; focus (simp [-cellOK, nw_cells]; done)) | (refine awp_cond ?_; simp [-cellOK, nw_cells]; refine ⟨?_, ?_⟩ <;> intro hc) | fail)
  refine awp_loopH (fun n A τ => A 0 = .fn (.yield b) [] [] ∧ A 1 = .rp iat 0 0 ∧ A 2 = .pp (nwAV N f).cells 0 ∧ A 3 = .pp [.raw (.int .u32 a)] 0 ∧ A 4 = .pp [.rp ie 0 0] 0 ∧ ∃ d p, Q d p τ ∧ n = M + 1 - p.length) (M + 1) ?_ ?_
  · exact ⟨by simp, by simp, by simp [nw_cells], by simp, by simp, d0, [], hQ, by simp⟩
  rintro n A τ ⟨a0, a1, a2, a3, a4, d, p, hq, rfl⟩ I1 hI1
  have ht := hat d p τ hq
  have hl := hlen d p τ hq
  (try ((first | with_reducible refine dops_go ?_ | with_reducible refine OKv_go ?_ | with_reducible refine OKr_go ?_); simp [-cellOK, a0, a1, a2, a3, a4, ht])); repeat' (first | refine awp_seq ?_ | refine awp_block ?_ | (refine awp_skip ?_; try simp) | (refine awp_exit ?_; try simp) | (refine awp_ret ?_; try simp) | (refine retP_same (by simp) ?_; simp) | (refine retP_no (by simp) (by simp [noIds]) (by repeat (first | assumption | exact Ext.refl _ | refine ext_new' ?_ | refine Ext.setF ?_ (by first | assumption | (simp [new_nx', St.set, fresh_none]; done) | exact ext_fresh (by assumption)))) ?_; simp [-cellOK, a0, a1, a2, a3, a4, ht, new_m, set_m, new_nx']) | ((first | refine awp_reg ?_ | refine awp_drawT (fun _ => false) mixed (by decide +kernel) ?_ | refine awp_drawT isCallO mixed (by decide +kernel) ?_); simp [-cellOK, a0, a1, a2, a3, a4, ht]) | (refine guarded_split ?_ ?_ <;> (intro hg; simp only [hg]; simp [-cellOK, a0, a1, a2, a3, a4, ht])) | (apply awp_cond_t; focus (simp [-cellOK, a0, a1, a2, a3, a4, ht]; done)) | (apply awp_cond_f; focus (simp [-cellOK, a0, a1, a2, a3, a4, ht]; done)) | (refine awp_cond ?_; simp [-cellOK, a0, a1, a2, a3, a4, ht]; refine ⟨?_, ?_⟩ <;> intro hc) | fail)
  refine YK.mono ?_ (hy d p τ hq)
  rintro r ρ (⟨rfl, hρ, hρe, h1, h2⟩ | ⟨rfl, hF⟩)
  · have hs := step_calls N f d a hl0 hu0
    have hn := next_calls N.t f (stepF N d a).2 hl0
    have hnd : ((nextM N.t (stepF N d a).2).getD ⟨0, 0⟩).dev = nextDev N (stepF N d a).2 := rfl
    by_cases q : (stepF N d a).1 = 4
    · have h2 := h2 q
      rw [q] at hs
      generalize (stepF N d a).2 = P at *
      obtain ⟨R, hR⟩ : ∃ R, (nextM N.t P).getD ⟨0, 0⟩ = R := ⟨_, rfl⟩
      rw [hR] at hn hnd
      have htf : AV.agg [intsAV N.t.ports f.p, linksAV N.t.links f.l] = tpAV N.t f := rfl
      (try ((first | with_reducible refine dops_go ?_ | with_reducible refine OKv_go ?_ | with_reducible refine OKr_go ?_); simp [-cellOK, a0, a1, a2, a3, a4, hρ, nw_cells, nw_fold, pt_cells, pt_put, pt_put2, ruPort_fold, pt_fold, htf, i_part, hnd])); repeat' (first | refine awp_seq ?_ | refine awp_block ?_ | (refine awp_skip ?_; try simp) | (refine awp_exit ?_; try simp) | (refine awp_ret ?_; try simp) | (refine retP_same (by simp) ?_; simp) | (refine retP_no (by simp) (by simp [noIds]) (by repeat (first | assumption | exact Ext.refl _ | refine ext_new' ?_ | refine Ext.setF ?_ (by first | assumption | (simp [new_nx', St.set, fresh_none]; done) | exact ext_fresh (by assumption)))) ?_; simp [-cellOK, a0, a1, a2, a3, a4, hρ, nw_cells, nw_fold, pt_cells, pt_put, pt_put2, ruPort_fold, pt_fold, htf, i_part, hnd, new_m, set_m, new_nx']) | ((first | refine awp_reg ?_ | refine awp_drawT (fun _ => false) mixed (by decide +kernel) ?_ | refine awp_drawT isCallO mixed (by decide +kernel) ?_ | refine PCalls.use (hs) ?_ | refine Or.inl ⟨_, Or.inl (hs), ?_⟩ | refine PCalls.use (hn) ?_ | refine Or.inl ⟨_, Or.inl (hn), ?_⟩); simp [-cellOK, a0, a1, a2, a3, a4, hρ, nw_cells, nw_fold, pt_cells, pt_put, pt_put2, ruPort_fold, pt_fold, htf, i_part, hnd]) | (refine guarded_split ?_ ?_ <;> (intro hg; simp only [hg]; simp [-cellOK, a0, a1, a2, a3, a4, hρ, nw_cells, nw_fold, pt_cells, pt_put, pt_put2, ruPort_fold, pt_fold, htf, i_part, hnd])) | (apply awp_cond_t; focus (simp [-cellOK, a0, a1, a2, a3, a4, hρ, nw_cells, nw_fold, pt_cells, pt_put, pt_put2, ruPort_fold, pt_fold, htf, i_part, hnd]; done)) | (apply awp_cond_f; focus (simp [-cellOK, a0, a1, a2, a3, a4, hρ, nw_cells, nw_fold, pt_cells, pt_put, pt_put2, ruPort_fold, pt_fold, htf, i_part, hnd]; done)) | (refine awp_cond ?_; simp [-cellOK, a0, a1, a2, a3, a4, hρ, nw_cells, nw_fold, pt_cells, pt_put, pt_put2, ruPort_fold, pt_fold, htf, i_part, hnd]; refine ⟨?_, ?_⟩ <;> intro hc) | fail)
      refine hI1 (M + 1 - (p ++ [d]).length) _ _ (by simp; omega) ⟨by simp [a0], by simp [a1], by simp [a2, nw_cells], by simp [a3], by simp [a4], _, p ++ [d], h2 _ ?_, rfl⟩
      exact (by repeat (first | assumption | exact Ext.refl _ | refine ext_new' ?_ | refine Ext.setF ?_ (by first | assumption | (simp [new_nx', St.set, fresh_none]; done) | exact ext_fresh (by assumption))))
    · have h1 := h1 q
      generalize (stepF N d a).1 = s at *
      generalize (stepF N d a).2 = P at *
      have hndf : ∀ z : Int, AV.agg [.raw (.int .i64 z), .raw (.int .i64 P.dev), .raw (.int .i64 P.port)] = ndAV z P := fun _ => rfl
      have hnp : ∀ (z : Int) (q : Pt) (z' : Int) (q' : Pt), setPart (ndAV z q) 0 [.raw (.int .i64 z'), .raw (.int .i64 q'.dev), .raw (.int .i64 q'.port)] = ndAV z' q' := fun _ _ _ _ => rfl
      (try ((first | with_reducible refine dops_go ?_ | with_reducible refine OKv_go ?_ | with_reducible refine OKr_go ?_); simp [-cellOK, a0, a1, a2, a3, a4, hρ, hρe, nw_cells, nw_fold, pt_cells, pt_put, pt_put2, pt_fold, nd_cells, hndf, hnp, q])); repeat' (first | refine awp_seq ?_ | refine awp_block ?_ | (refine awp_skip ?_; try simp) | (refine awp_exit ?_; try simp) | (refine awp_ret ?_; try simp) | ((first | refine awp_reg ?_ | refine awp_drawT (fun _ => false) mixed (by decide +kernel) ?_ | refine awp_drawT isCallO mixed (by decide +kernel) ?_ | refine PCalls.use (hs) ?_ | refine Or.inl ⟨_, Or.inl (hs), ?_⟩); simp [-cellOK, a0, a1, a2, a3, a4, hρ, hρe, nw_cells, nw_fold, pt_cells, pt_put, pt_put2, pt_fold, nd_cells, hndf, hnp, q]) | (refine guarded_split ?_ ?_ <;> (intro hg; simp only [hg]; simp [-cellOK, a0, a1, a2, a3, a4, hρ, hρe, nw_cells, nw_fold, pt_cells, pt_put, pt_put2, pt_fold, nd_cells, hndf, hnp, q])) | (apply awp_cond_t; focus (simp [-cellOK, a0, a1, a2, a3, a4, hρ, hρe, nw_cells, nw_fold, pt_cells, pt_put, pt_put2, pt_fold, nd_cells, hndf, hnp, q]; done)) | (apply awp_cond_f; focus (simp [-cellOK, a0, a1, a2, a3, a4, hρ, hρe, nw_cells, nw_fold, pt_cells, pt_put, pt_put2, pt_fold, nd_cells, hndf, hnp, q]; done)) | (refine awp_cond ?_; simp [-cellOK, a0, a1, a2, a3, a4, hρ, hρe, nw_cells, nw_fold, pt_cells, pt_put, pt_put2, pt_fold, nd_cells, hndf, hnp, q]; refine ⟨?_, ?_⟩ <;> intro hc) | fail)
      exact retK_of (x := .tup []) (.inr rfl) (by simp) (h1 _ (by repeat (first | assumption | exact Ext.refl _ | refine ext_new' ?_ | refine Ext.setF ?_ (by first | assumption | (simp [new_nx', St.set, fresh_none]; done) | exact ext_fresh (by assumption)))))
  · (try ((first | with_reducible refine dops_go ?_ | with_reducible refine OKv_go ?_ | with_reducible refine OKr_go ?_); simp [-cellOK, a0, a1, a2, a3, a4])); repeat' (first | refine awp_seq ?_ | refine awp_block ?_ | (refine awp_skip ?_; try simp) | (refine awp_exit ?_; try simp) | (refine awp_ret ?_; try simp) | ((first | refine awp_reg ?_ | refine awp_drawT (fun _ => false) mixed (by decide +kernel) ?_ | refine awp_drawT isCallO mixed (by decide +kernel) ?_); simp [-cellOK, a0, a1, a2, a3, a4]) | (refine guarded_split ?_ ?_ <;> (intro hg; simp only [hg]; simp [-cellOK, a0, a1, a2, a3, a4])) | (apply awp_cond_t; focus (simp [-cellOK, a0, a1, a2, a3, a4]; done)) | (apply awp_cond_f; focus (simp [-cellOK, a0, a1, a2, a3, a4]; done)) | (refine awp_cond ?_; simp [-cellOK, a0, a1, a2, a3, a4]; refine ⟨?_, ?_⟩ <;> intro hc) | fail)
    exact retK_of (x := .tup []) (.inl rfl) (by simp) hF
end Go.Proofs.Ytanimmdlgmkmkaa.Av


/- Networks: fate.Trace. -/
namespace Go.Proofs.Ytanimmdlgmkmkaa.Av
open Go
set_option linter.unusedSimpArgs false
set_option linter.unusedVariables false
set_option maxRecDepth 100000
set_option maxHeartbeats 4000000
set_option pp.maxSteps 600

theorem OwnL.ne_sz {σ0 τ : St} {n : Nat} {v : AV} {es : List AV} (h : OwnL σ0 τ n v es) {i : Id} (hi : i.sz ≠ n) : ∀ k l, v ≠ .rs i k l := by
  rintro k l rfl
  rcases h with ⟨_, e⟩ | ⟨j, e, hj, _, _⟩
  · cases e
  · injection e with e; subst e; exact hi hj
theorem OwnL.set {σ0 τ : St} {n : Nat} {v : AV} {es : List AV} (h : OwnL σ0 τ n v es) {i : Id} {o : Ob} (hi : ∀ k l, v ≠ .rs i k l) : OwnL σ0 (τ.set i o) n v es := by
  rcases h with h | ⟨j, e, hj, hm, hn⟩
  · exact .inl h
  · exact .inr ⟨j, e, hj, by rw [set_other (fun e2 => hi 0 es.length (by rw [e, e2]))]; exact hm, hn⟩
theorem OwnL.del {σ0 τ : St} {n : Nat} {v : AV} {es : List AV} (h : OwnL σ0 τ n v es) {i : Id} (hi : ∀ k l, v ≠ .rs i k l) : OwnL σ0 (τ.del i) n v es := by
  rcases h with h | ⟨j, e, hj, hm, hn⟩
  · exact .inl h
  · exact .inr ⟨j, e, hj, by rw [del_other (fun e2 => hi 0 es.length (by rw [e, e2]))]; exact hm, hn⟩
/-- A track that was made, and a plain value, are handed back. -/
theorem retP_ownAT {P : Program} {A : Env} {σ σ0 : St} {fn : Func} {e : Exit} {n : Nat} {v : AV} {es : List AV} {u b c d : Value} (he : e = .normal ∨ e = .ret) (h : aresult P σ.m A fn.results = some (.tup [.agg [v, .raw b, .raw c, .raw d], .raw u])) (hO : OwnL σ0 σ n v es) (hE : Ext σ0 σ) :
    RetP P fn σ0 (.tup [.agg [.sl n es false, .raw b, .raw c, .raw d], .raw u]) e A σ := by
  refine retP_weak he hE h ?_
  rcases hO with ⟨rfl, rfl⟩ | ⟨j, rfl, hj, hmj, hn⟩
  · exact weaker_tup (weaker_agg weaker_sl)
  · have e1 : giveUps σ0.m σ.m (.tup [.agg [.rs j 0 es.length, .raw b, .raw c, .raw d], .raw u]) = .tup [.agg [.sl n es false, .raw b, .raw c, .raw d], .raw u] := by
      simp only [giveUps, List.map_cons, List.map_nil]
      rw [giveUp_rs_made hn hmj (by simp), hj]; simp [giveUp]
    rw [e1]; exact Weaker.refl _
/-- What a trace under way looks like. -/
structure TrS (σ ρ : St) (i6 i8 : Id) (v : AV) (p : List Int) : Prop where
  ext : Ext σ ρ
  m6 : ρ.m i6 = some (.buf [.agg [.sl 0 [] true, .raw (.int .i64 0), .raw (.int .i64 0), .raw (.int .i64 0)]])
  m8 : ρ.m i8 = some (.buf [.agg [v, .raw (.int .i64 0), .raw (.int .i64 0), .raw (.int .i64 0)]])
  own : OwnL σ ρ 1 v (p.map iAV)
theorem TrS.up {σ ρ π : St} {i6 i8 : Id} {v : AV} {p : List Int} (h : TrS σ ρ i6 i8 v p) (k : Ext ρ π) : TrS σ π i6 i8 v p := ⟨h.ext.trans k, k.m _ _ h.m6, k.m _ _ h.m8, h.own.ext k⟩
theorem TrS.put {σ ρ : St} {i6 i8 i : Id} {v : AV} {p : List Int} {o : Ob} (h : TrS σ ρ i6 i8 v p) (h6 : i6 ≠ i) (h8 : i8 ≠ i) (hv : ∀ k l, v ≠ .rs i k l) (h0 : σ.m i = none) : TrS σ (ρ.set i o) i6 i8 v p :=
  ⟨Ext.setF h.ext h0, by rw [set_other h6]; exact h.m6, by rw [set_other h8]; exact h.m8, h.own.set hv⟩
theorem TrS.del {σ ρ : St} {i6 i8 i : Id} {v : AV} {p : List Int} (h : TrS σ ρ i6 i8 v p) (h6 : i6 ≠ i) (h8 : i8 ≠ i) (hv : ∀ k l, v ≠ .rs i k l) (h0 : σ.m i = none) : TrS σ (ρ.del i) i6 i8 v p :=
  ⟨⟨fun j o hj => by rw [del_other (fun e => by rw [e, h0] at hj; cases hj)]; exact h.ext.m j o hj, h.ext.nx⟩, by rw [del_other h6]; exact h.m6, by rw [del_other h8]; exact h.m8, h.own.del hv⟩
def traceR (n : Nw) (d a : Int) : Tk × Int := if d < 0 ∨ n.t.ports.length ≤ d then (⟨[], 0, ⟨0, 0⟩⟩, 91) else (traceF n d a, 0)
theorem trace_calls (N : Nw) (f : Fl) (d a : Int) (hN : NwOK N) : PCalls Try.prog 15 [nwAV N f, .raw (.int .i64 d), .raw (.int .u32 a)] (.tup [tkAV (traceR N d a).1 false, .raw (.int .i64 (traceR N d a).2)]) := by
  have hip : ∀ K t b, (tkAV t b).ids K := fun K t b => by simp [tkAV]
  refine pbody Try.func15 rfl (N := 47) rfl rfl (by simp) (by simp [noIds, hip]) fun σ => ?_
  have hl := hN.links
  have f3 : σ.m ⟨3, σ.nx 3, 3⟩ = none := fresh_none _ _ _
  have f6 : σ.m ⟨6, σ.nx 6, 4⟩ = none := fresh_none _ _ _
  have f8 : σ.m ⟨8, σ.nx 8, 4⟩ = none := fresh_none _ _ _
  have f9 : σ.m ⟨9, σ.nx 9, 3⟩ = none := fresh_none _ _ _
  have hndf : ∀ x y z : Int, AV.agg [.raw (.int .i64 x), .raw (.int .i64 y), .raw (.int .i64 z)] = ndAV x ⟨y, z⟩ := fun _ _ _ => rfl
  have hndp : ∀ (x y z : Int) (q : Int) (p : Pt), setPart (ndAV q p) 0 [.raw (.int .i64 x), .raw (.int .i64 y), .raw (.int .i64 z)] = ndAV x ⟨y, z⟩ := fun _ _ _ _ _ => rfl
  by_cases q : d < 0 ∨ N.t.ports.length ≤ d
  · unfold traceR
    rw [if_pos q]
    have hw : Weaker (.tup [.agg [.sl 0 [] true, .raw (.int .i64 0), .raw (.int .i64 0), .raw (.int .i64 0)], .raw (.int .i64 91)]) (.tup [tkAV ⟨[], 0, ⟨0, 0⟩⟩ false, .raw (.int .i64 91)]) := weaker_tup (weaker_agg weaker_sl)
    have fin : ∀ {A : Env} {τ : St}, Ext σ τ → aresult Try.prog τ.m A Try.f15.results = some (.tup [.agg [.sl 0 [] true, .raw (.int .i64 0), .raw (.int .i64 0), .raw (.int .i64 0)], .raw (.int .i64 91)]) → RetP Try.prog Try.f15 σ (.tup [tkAV ⟨[], 0, ⟨0, 0⟩⟩ false, .raw (.int .i64 91)]) .ret A τ := fun hE h =>
      retP_weak (.inr rfl) hE h (by simpa [giveUps, giveUp] using hw)
    by_cases q1 : d < 0
    · (try ((first | with_reducible refine dops_go ?_ | with_reducible refine OKv_go ?_ | with_reducible refine OKr_go ?_); simp [-cellOK, nw_cells, q1])); repeat' (first | refine awp_seq ?_ | refine awp_block ?_ | (refine awp_skip ?_; try simp) | (refine awp_exit ?_; try simp) | (refine awp_ret ?_; try simp) | ((first | refine awp_reg ?_ | refine awp_drawT (fun _ => false) mixed (by decide +kernel) ?_ | refine awp_drawT isCallO mixed (by decide +kernel) ?_); simp [-cellOK, nw_cells, q1]) | (refine guarded_split ?_ ?_ <;> (intro hg; simp only [hg]; simp [-cellOK, nw_cells, q1])) | (apply awp_cond_t; focus (simp [-cellOK, nw_cells, q1]; done)) | (apply awp_cond_f; focus (simp [-cellOK, nw_cells, q1]; done)) | (refine awp_cond ?_; simp [-cellOK, nw_cells, q1]; refine ⟨?_, ?_⟩ <;> intro hc) | fail)
      exact fin (by repeat (first | assumption | exact Ext.refl _ | refine ext_new' ?_ | refine Ext.setF ?_ (by first | assumption | (simp [new_nx', St.set, fresh_none]; done) | exact ext_fresh (by assumption)))) (by simp [new_m, set_m, new_nx'])
    · have q2 : (N.t.ports.length : Int) ≤ d := by omega
      (try ((first | with_reducible refine dops_go ?_ | with_reducible refine OKv_go ?_ | with_reducible refine OKr_go ?_); simp [-cellOK, nw_cells, q1, q2, intsAV])); repeat' (first | refine awp_seq ?_ | refine awp_block ?_ | (refine awp_skip ?_; try simp) | (refine awp_exit ?_; try simp) | (refine awp_ret ?_; try simp) | ((first | refine awp_reg ?_ | refine awp_drawT (fun _ => false) mixed (by decide +kernel) ?_ | refine awp_drawT isCallO mixed (by decide +kernel) ?_); simp [-cellOK, nw_cells, q1, q2, intsAV]) | (refine guarded_split ?_ ?_ <;> (intro hg; simp only [hg]; simp [-cellOK, nw_cells, q1, q2, intsAV])) | (apply awp_cond_t; focus (simp [-cellOK, nw_cells, q1, q2, intsAV]; done)) | (apply awp_cond_f; focus (simp [-cellOK, nw_cells, q1, q2, intsAV]; done)) | (refine awp_cond ?_; simp [-cellOK, nw_cells, q1, q2, intsAV]; refine ⟨?_, ?_⟩ <;> intro hc) | fail)
      exact fin (by repeat (first | assumption | exact Ext.refl _ | refine ext_new' ?_ | refine Ext.setF ?_ (by first | assumption | (simp [new_nx', St.set, fresh_none]; done) | exact ext_fresh (by assumption)))) (by simp [new_m, set_m, new_nx'])
  have q1 : ¬ d < 0 := fun h => q (.inl h)
  have q2 : ¬ (N.t.ports.length : Int) ≤ d := fun h => q (.inr h)
  have hres : traceR N d a = (traceF N d a, 0) := by unfold traceR; rw [if_neg q]
  rw [hres]
  have hp : ∀ m, opLen Try.prog m 22 (intsAV N.t.ports f.p) = some (.raw (.int .i64 N.t.ports.length)) := fun m => by simp [intsAV]
  (try ((first | with_reducible refine dops_go ?_ | with_reducible refine OKv_go ?_ | with_reducible refine OKr_go ?_); simp [-cellOK, nw_cells, nw_fold, q1, q2, -opLen, hp, nd_cells, hndf, hndp, new_m, set_m, new_nx'])); repeat' (first | refine awp_seq ?_ | refine awp_block ?_ | (refine awp_skip ?_; try simp) | (refine awp_exit ?_; try simp) | (refine awp_ret ?_; try simp) | (refine retP_same (by simp) ?_; simp) | (refine retP_no (by simp) (by simp [noIds]) (by repeat (first | assumption | exact Ext.refl _ | refine ext_new' ?_ | refine Ext.setF ?_ (by first | assumption | (simp [new_nx', St.set, fresh_none]; done) | exact ext_fresh (by assumption)))) ?_; simp [-cellOK, nw_cells, nw_fold, q1, q2, -opLen, hp, nd_cells, hndf, hndp, new_m, set_m, new_nx', new_m, set_m, new_nx']) | ((first | refine awp_reg ?_ | refine awp_drawT (fun _ => false) mixed (by decide +kernel) ?_ | refine awp_drawT isCallO mixed (by decide +kernel) ?_); simp [-cellOK, nw_cells, nw_fold, q1, q2, -opLen, hp, nd_cells, hndf, hndp, new_m, set_m, new_nx']) | (refine guarded_split ?_ ?_ <;> (intro hg; simp only [hg]; simp [-cellOK, nw_cells, nw_fold, q1, q2, -opLen, hp, nd_cells, hndf, hndp, new_m, set_m, new_nx'])) | (apply awp_cond_t; focus (simp [-cellOK, nw_cells, nw_fold, q1, q2, -opLen, hp, nd_cells, hndf, hndp, new_m, set_m, new_nx']; done)) | (apply awp_cond_f; focus (simp [-cellOK, nw_cells, nw_fold, q1, q2, -opLen, hp, nd_cells, hndf, hndp, new_m, set_m, new_nx']; done)) | (refine awp_cond ?_; simp [-cellOK, nw_cells, nw_fold, q1, q2, -opLen, hp, nd_cells, hndf, hndp, new_m, set_m, new_nx']; refine ⟨?_, ?_⟩ <;> intro hc) | fail)
  generalize hσ1 : St.set _ _ _ = σ1
  have m6 : σ1.m ⟨6, σ.nx 6, 4⟩ = some (.buf [.agg [.sl 0 [] true, .raw (.int .i64 0), .raw (.int .i64 0), .raw (.int .i64 0)]]) := by rw [← hσ1]; simp [new_m, set_m, new_nx']
  have m8 : σ1.m ⟨8, σ.nx 8, 4⟩ = some (.buf [.agg [.sl 0 [] true, .raw (.int .i64 0), .raw (.int .i64 0), .raw (.int .i64 0)]]) := by rw [← hσ1]; simp [new_m, set_m, new_nx']
  have m9 : σ1.m ⟨9, σ.nx 9, 3⟩ = some (.buf [ndAV 4 ⟨0, 0⟩]) := by rw [← hσ1]; simp [new_m, set_m, new_nx']
  have hE1 : Ext σ σ1 := by rw [← hσ1]; exact (by repeat (first | assumption | exact Ext.refl _ | refine ext_new' ?_ | refine Ext.setF ?_ (by first | assumption | (simp [new_nx', St.set, fresh_none]; done) | exact ext_fresh (by assumption))))
  clear hσ1
  refine (devices_calls N f d a ⟨9, σ.nx 9, 3⟩ (by rw [m9]; simp)).mono ?_
  rintro _ τ ⟨iat, rfl, his, hi0, him, hEτ⟩
  have hEs : Ext σ τ := hE1.trans hEτ
  have hiat0 : σ.m iat = none := by
    cases h : σ.m iat with
    | none => rfl
    | some o => rw [hE1.m _ _ h] at hi0; cases hi0
  (try ((first | with_reducible refine dops_go ?_ | with_reducible refine OKv_go ?_ | with_reducible refine OKr_go ?_); simp [-cellOK])); repeat' (first | refine awp_seq ?_ | refine awp_block ?_ | (refine awp_skip ?_; try simp) | (refine awp_exit ?_; try simp) | (refine awp_ret ?_; try simp) | (refine retP_same (by simp) ?_; simp) | (refine retP_no (by simp) (by simp [noIds]) (by repeat (first | assumption | exact Ext.refl _ | refine ext_new' ?_ | refine Ext.setF ?_ (by first | assumption | (simp [new_nx', St.set, fresh_none]; done) | exact ext_fresh (by assumption)))) ?_; simp [-cellOK, new_m, set_m, new_nx']) | ((first | refine awp_reg ?_ | refine awp_drawT (fun _ => false) mixed (by decide +kernel) ?_ | refine awp_drawT isCallO mixed (by decide +kernel) ?_); simp [-cellOK]) | (refine guarded_split ?_ ?_ <;> (intro hg; simp only [hg]; simp [-cellOK])) | (apply awp_cond_t; focus (simp [-cellOK]; done)) | (apply awp_cond_f; focus (simp [-cellOK]; done)) | (refine awp_cond ?_; simp [-cellOK]; refine ⟨?_, ?_⟩ <;> intro hc) | fail)
  generalize hA : put 47 _ 27 _ = A
  have a6 : A 6 = .rp ⟨6, σ.nx 6, 4⟩ 0 0 := by rw [← hA]; simp
  have a8 : A 8 = .rp ⟨8, σ.nx 8, 4⟩ 0 0 := by rw [← hA]; simp
  have a9 : A 9 = .rp ⟨9, σ.nx 9, 3⟩ 0 0 := by rw [← hA]; simp
  have a27 : A 27 = .fn (.func 69) [] [.rp iat 0 0, .pp (nwAV N f).cells 0, .pp [.raw (.int .u32 a)] 0, .pp [.rp ⟨9, σ.nx 9, 3⟩ 0 0] 0] := by rw [← hA]; simp [nw_cells]
  clear hA
  obtain ⟨i6, hi6⟩ : ∃ i, (⟨6, σ.nx 6, 4⟩ : Id) = i := ⟨_, rfl⟩
  obtain ⟨i8, hi8⟩ : ∃ i, (⟨8, σ.nx 8, 4⟩ : Id) = i := ⟨_, rfl⟩
  obtain ⟨ie, hie⟩ : ∃ i, (⟨9, σ.nx 9, 3⟩ : Id) = i := ⟨_, rfl⟩
  have s6 : i6.sz = 4 := by rw [← hi6]
  have s8 : i8.sz = 4 := by rw [← hi8]
  have se : ie.sz = 3 := by rw [← hie]
  have d68 : i6 ≠ i8 := by rw [← hi6, ← hi8]; simp
  rw [hi6] at m6 f6 a6
  rw [hi8] at m8 f8 a8
  rw [hie] at m9 f9 a9 a27
  have nsz : ∀ {i j : Id}, i.sz ≠ j.sz → i ≠ j := fun h e => h (by rw [e])
  refine awp_block_cutH (fun B ρ => B 6 = .rp i6 0 0 ∧ B 8 = .rp i8 0 0 ∧ B 9 = .rp ie 0 0 ∧ ∃ v, TrS σ ρ i6 i8 v (traceF N d a).path ∧ ρ.m ie = some (.buf [ndAV (traceF N d a).out (traceF N d a).last])) ?_ ?_
  · intro R1 hR1
    refine awp_rangeFn a27 fun b lo L hlo hL => ?_
    have hLf : τ.m L = none := by rw [hL]; exact fresh_none _ _ _
    have hL0 : σ.m L = none := by rw [hL]; exact ext_fresh hEs
    have sL : L.sz = 0 := by rw [hL]
    have hσL : (τ.new 0 0 (lo .ready none)).m L = some (lo .ready none) := by rw [hL]; simp
    obtain ⟨Q, hQ⟩ : ∃ Q : Int → List Int → St → Prop, ∀ d' p ρ, Q d' p ρ ↔ ∃ v, Way N a d d' p ∧ TrS σ ρ i6 i8 v p ∧ (∀ k l, v ≠ .rs iat k l) ∧ ρ.m L = some (lo .ready none) ∧ ρ.m ie = some (.buf [ndAV 4 ⟨0, 0⟩]) ∧ ρ.m iat = some (.buf [.raw (.int .i64 d')]) := ⟨_, fun _ _ _ => Iff.rfl⟩
    obtain ⟨F, hF⟩ : ∃ F : St → Prop, ∀ ρ, F ρ ↔ ∃ st pd v, ρ.m L = some (lo st pd) ∧ st ≠ .busy ∧ (pd = none ∨ pd = some (.exit 0)) ∧ TrS σ ρ i6 i8 v (traceF N d a).path ∧ ρ.m ie = some (.buf [ndAV (traceF N d a).out (traceF N d a).last]) := ⟨_, fun _ => Iff.rfl⟩
    refine (devs_yield N f a iat ie hN (1 + 2 * N.t.links.length) Q F b ?_ ?_ ?_ ?_ ?_ (d0 := d) ?_).mono ?_
    · intro d' p ρ h; obtain ⟨v, hw, _⟩ := (hQ _ _ _).1 h; exact hw.len
    · intro d' p ρ π h k
      obtain ⟨v, hw, hS, hv, h1, h2, h3⟩ := (hQ _ _ _).1 h
      exact (hQ _ _ _).2 ⟨v, hw, hS.up k, hv, k.m _ _ h1, k.m _ _ h2, k.m _ _ h3⟩
    · intro ρ π h k
      obtain ⟨st, pd, v, h1, h2, h3, hS, h4⟩ := (hF _).1 h
      exact (hF _).2 ⟨st, pd, v, k.m _ _ h1, h2, h3, hS.up k, k.m _ _ h4⟩
    · intro d' p ρ h; obtain ⟨v, hw, hS, hv, h1, h2, h3⟩ := (hQ _ _ _).1 h; exact h3
    · intro d' p ρ h
      obtain ⟨v, hw, hS, hv, h1, h2, h3⟩ := (hQ _ _ _).1 h
      have hpl := hw.len
      have nL6 : i6 ≠ L := nsz (by rw [s6, sL]; decide)
      have nL8 : i8 ≠ L := nsz (by rw [s8, sL]; decide)
      have nLe : ie ≠ L := nsz (by rw [se, sL]; decide)
      have nLa : iat ≠ L := nsz (by rw [his, sL]; decide)
      have ne8 : ie ≠ i8 := nsz (by rw [se, s8]; decide)
      have na8 : iat ≠ i8 := nsz (by rw [his, s8]; decide)
      have nae : iat ≠ ie := nsz (by rw [his, se]; decide)
      refine YK.of h1 hlo (by simp) ?_
      show AWP _ _ _ _ _ (put 47 A 28 (.raw (.int .i64 d'))) ρ
      (try ((first | with_reducible refine dops_go ?_ | with_reducible refine OKv_go ?_ | with_reducible refine OKr_go ?_); simp [-cellOK])); repeat' (first | refine awp_seq ?_ | refine awp_block ?_ | (refine awp_skip ?_; try simp) | (refine awp_exit ?_; try simp) | (refine awp_ret ?_; try simp) | (refine retP_same (by simp) ?_; simp) | (refine retP_no (by simp) (by simp [noIds]) (by repeat (first | assumption | exact Ext.refl _ | refine ext_new' ?_ | refine Ext.setF ?_ (by first | assumption | (simp [new_nx', St.set, fresh_none]; done) | exact ext_fresh (by assumption)))) ?_; simp [-cellOK, new_m, set_m, new_nx']) | ((first | refine awp_reg ?_ | refine awp_drawT (fun _ => false) mixed (by decide +kernel) ?_ | refine awp_drawT isCallO mixed (by decide +kernel) ?_); simp [-cellOK]) | (refine guarded_split ?_ ?_ <;> (intro hg; simp only [hg]; simp [-cellOK])) | (apply awp_cond_t; focus (simp [-cellOK]; done)) | (apply awp_cond_f; focus (simp [-cellOK]; done)) | (refine awp_cond ?_; simp [-cellOK]; refine ⟨?_, ?_⟩ <;> intro hc) | fail)
      refine ⟨h1, ?_⟩
      have g1 : (ρ.set L (lo .busy none)).m L = some (lo .busy none) := by simp [h1]
      have g2 : (ρ.set L (lo .busy none)).m ie = some (.buf [ndAV 4 ⟨0, 0⟩]) := by rw [set_other nLe]; exact h2
      have g3 : (ρ.set L (lo .busy none)).m iat = some (.buf [.raw (.int .i64 d')]) := by rw [set_other nLa]; exact h3
      have gS : TrS σ (ρ.set L (lo .busy none)) i6 i8 v p := hS.put nL6 nL8 (hS.own.ne_sz (by rw [sL]; decide)) hL0
      generalize ρ.set L (lo .busy none) = ρ2 at g1 g2 g3 gS ⊢
      clear h1 h2 h3 hS
      obtain ⟨hE2, q6, q8, hO⟩ := gS
      have hc : PCalls Try.prog 42 [.sl 1 (p.map iAV) false, .raw (.int .i64 d')] (.raw (.bool (p.any fun x => decide (d' = x)))) := contains_calls p false d' (by omega)
      obtain ⟨b0, hb0⟩ : ∃ b, (p.any fun x => decide (d' = x)) = b := ⟨_, rfl⟩
      have hb : (d' ∈ p) ↔ b0 = true := by rw [← hb0, List.any_eq_true]; constructor
                                           · exact fun h => ⟨d', h, by simp⟩
                                           · rintro ⟨x, hx, e⟩; simp only [decide_eq_true_eq] at e; exact e ▸ hx
      rw [hb0] at hc
      (try ((first | with_reducible refine dops_go ?_ | with_reducible refine OKv_go ?_ | with_reducible refine OKr_go ?_); simp [-cellOK, a8, q8])); repeat' (first | refine awp_seq ?_ | refine awp_block ?_ | (refine awp_skip ?_; try simp) | (refine awp_exit ?_; try simp) | (refine awp_ret ?_; try simp) | (refine retP_same (by simp) ?_; simp) | (refine retP_no (by simp) (by simp [noIds]) (by repeat (first | assumption | exact Ext.refl _ | refine ext_new' ?_ | refine Ext.setF ?_ (by first | assumption | (simp [new_nx', St.set, fresh_none]; done) | exact ext_fresh (by assumption)))) ?_; simp [-cellOK, a8, q8, new_m, set_m, new_nx']) | ((first | refine awp_reg ?_ | refine awp_drawT (fun _ => false) mixed (by decide +kernel) ?_ | refine awp_drawT isCallO mixed (by decide +kernel) ?_); simp [-cellOK, a8, q8]) | (refine guarded_split ?_ ?_ <;> (intro hg; simp only [hg]; simp [-cellOK, a8, q8])) | (apply awp_cond_t; focus (simp [-cellOK, a8, q8]; done)) | (apply awp_cond_f; focus (simp [-cellOK, a8, q8]; done)) | (refine awp_cond ?_; simp [-cellOK, a8, q8]; refine ⟨?_, ?_⟩ <;> intro hc) | fail)
      refine hc.useP rfl hO.toP ?_
      (try ((first | with_reducible refine dops_go ?_ | with_reducible refine OKv_go ?_ | with_reducible refine OKr_go ?_); simp [-cellOK, a8, q8, -opAppend])); repeat' (first | refine awp_seq ?_ | refine awp_block ?_ | (refine awp_skip ?_; try simp) | (refine awp_exit ?_; try simp) | (refine awp_ret ?_; try simp) | (refine retP_same (by simp) ?_; simp) | (refine retP_no (by simp) (by simp [noIds]) (by repeat (first | assumption | exact Ext.refl _ | refine ext_new' ?_ | refine Ext.setF ?_ (by first | assumption | (simp [new_nx', St.set, fresh_none]; done) | exact ext_fresh (by assumption)))) ?_; simp [-cellOK, a8, q8, -opAppend, new_m, set_m, new_nx']) | ((first | refine awp_reg ?_ | refine awp_drawT (fun _ => false) mixed (by decide +kernel) ?_ | refine awp_drawT isCallO mixed (by decide +kernel) ?_); simp [-cellOK, a8, q8, -opAppend]) | (refine guarded_split ?_ ?_ <;> (intro hg; simp only [hg]; simp [-cellOK, a8, q8, -opAppend])) | (apply awp_cond_t; focus (simp [-cellOK, a8, q8, -opAppend]; done)) | (apply awp_cond_f; focus (simp [-cellOK, a8, q8, -opAppend]; done)) | (refine awp_cond ?_; simp [-cellOK, a8, q8, -opAppend]; refine ⟨?_, ?_⟩ <;> intro hc) | fail)
      refine okr_append slt22 (σ0 := σ) (hO.ext (by repeat (first | assumption | exact Ext.refl _ | refine ext_new' ?_ | refine Ext.setF ?_ (by first | assumption | (simp [new_nx', St.set, fresh_none]; done) | exact ext_fresh (by assumption))))) (by repeat (first | assumption | exact Ext.refl _ | refine ext_new' ?_ | refine Ext.setF ?_ (by first | assumption | (simp [new_nx', St.set, fresh_none]; done) | exact ext_fresh (by assumption)))) (ys := [iAV d']) (by simp [new_m, new_nx', iAV]) (.inr rfl) (by simp [iAV]) (by simp; omega) ?_
      intro v' τ' hO' hE' hk hnx
      obtain ⟨k6, _⟩ := hk i6 _ (new_up _ _ q6) (hO.ne_sz (by rw [s6]; decide))
      obtain ⟨k8, _⟩ := hk i8 _ (new_up _ _ q8) (hO.ne_sz (by rw [s8]; decide))
      obtain ⟨ke, _⟩ := hk ie _ (new_up _ _ g2) (hO.ne_sz (by rw [se]; decide))
      obtain ⟨kL, _⟩ := hk L _ (new_up _ _ g1) (hO.ne_sz (by rw [sL]; decide))
      obtain ⟨ka, hva⟩ := hk iat _ (new_up _ _ g3) hv
      clear hk
      have hO2 : OwnL σ τ' 1 v' ((p ++ [d']).map iAV) := by rw [List.map_append]; exact hO'
      have hS3 : ∀ o, TrS σ ((τ'.set i8 (.buf [.agg [v', .raw (.int .i64 0), .raw (.int .i64 0), .raw (.int .i64 0)]])).set L o) i6 i8 v' (p ++ [d']) := fun o =>
        (show TrS σ (τ'.set i8 (.buf [.agg [v', .raw (.int .i64 0), .raw (.int .i64 0), .raw (.int .i64 0)]])) i6 i8 v' (p ++ [d']) from
          ⟨Ext.setF hE' f8, by rw [set_other d68]; exact k6, by simp [k8], hO2.set (hO2.ne_sz (by rw [s8]; decide))⟩).put nL6 nL8 (hO2.ne_sz (by rw [sL]; decide)) hL0
      have e1 : ∀ o, ((τ'.set i8 (.buf [.agg [v', .raw (.int .i64 0), .raw (.int .i64 0), .raw (.int .i64 0)]])).set L o).m L = some o := fun o => by simp [set_other nL8.symm, kL]
      have e2 : ∀ o, ((τ'.set i8 (.buf [.agg [v', .raw (.int .i64 0), .raw (.int .i64 0), .raw (.int .i64 0)]])).set L o).m ie = some (.buf [ndAV 4 ⟨0, 0⟩]) := fun o => by rw [set_other nLe, set_other ne8]; exact ke
      have e3 : ∀ o, ((τ'.set i8 (.buf [.agg [v', .raw (.int .i64 0), .raw (.int .i64 0), .raw (.int .i64 0)]])).set L o).m iat = some (.buf [.raw (.int .i64 d')]) := fun o => by rw [set_other nLa, set_other na8]; exact ka
      have e0 : (τ'.set i8 (.buf [.agg [v', .raw (.int .i64 0), .raw (.int .i64 0), .raw (.int .i64 0)]])).m L = some (lo .busy none) := by rw [set_other nL8.symm]; exact kL
      cases b0 with
      | true =>
        have hd := hb.2 rfl
        have hR := hw.again hd
        (try ((first | with_reducible refine dops_go ?_ | with_reducible refine OKv_go ?_ | with_reducible refine OKr_go ?_); simp [-cellOK, a8, k8, hO'.cells, hO'.cellOK])); repeat' (first | refine awp_seq ?_ | refine awp_block ?_ | (refine awp_skip ?_; try simp) | (refine awp_exit ?_; try simp) | (refine awp_ret ?_; try simp) | (refine retP_same (by simp) ?_; simp) | (refine retP_no (by simp) (by simp [noIds]) (by repeat (first | assumption | exact Ext.refl _ | refine ext_new' ?_ | refine Ext.setF ?_ (by first | assumption | (simp [new_nx', St.set, fresh_none]; done) | exact ext_fresh (by assumption)))) ?_; simp [-cellOK, a8, k8, hO'.cells, hO'.cellOK, new_m, set_m, new_nx']) | ((first | refine awp_reg ?_ | refine awp_drawT (fun _ => false) mixed (by decide +kernel) ?_ | refine awp_drawT isCallO mixed (by decide +kernel) ?_); simp [-cellOK, a8, k8, hO'.cells, hO'.cellOK]) | (refine guarded_split ?_ ?_ <;> (intro hg; simp only [hg]; simp [-cellOK, a8, k8, hO'.cells, hO'.cellOK])) | (apply awp_cond_t; focus (simp [-cellOK, a8, k8, hO'.cells, hO'.cellOK]; done)) | (apply awp_cond_f; focus (simp [-cellOK, a8, k8, hO'.cells, hO'.cellOK]; done)) | (refine awp_cond ?_; simp [-cellOK, a8, k8, hO'.cells, hO'.cellOK]; refine ⟨?_, ?_⟩ <;> intro hc) | fail)
        refine ⟨e0, .inr ⟨rfl, (hF _).2 ⟨.done, some (.exit 0), v', e1 _, by simp, .inr rfl, ?_, ?_⟩⟩⟩
        · rw [hR]; exact hS3 _
        · rw [hR]; exact e2 _
      | false =>
        have hd : d' ∉ p := fun h => by have := hb.1 h; cases this
        (try ((first | with_reducible refine dops_go ?_ | with_reducible refine OKv_go ?_ | with_reducible refine OKr_go ?_); simp [-cellOK, a8, k8, hO'.cells, hO'.cellOK])); repeat' (first | refine awp_seq ?_ | refine awp_block ?_ | (refine awp_skip ?_; try simp) | (refine awp_exit ?_; try simp) | (refine awp_ret ?_; try simp) | (refine retP_same (by simp) ?_; simp) | (refine retP_no (by simp) (by simp [noIds]) (by repeat (first | assumption | exact Ext.refl _ | refine ext_new' ?_ | refine Ext.setF ?_ (by first | assumption | (simp [new_nx', St.set, fresh_none]; done) | exact ext_fresh (by assumption)))) ?_; simp [-cellOK, a8, k8, hO'.cells, hO'.cellOK, new_m, set_m, new_nx']) | ((first | refine awp_reg ?_ | refine awp_drawT (fun _ => false) mixed (by decide +kernel) ?_ | refine awp_drawT isCallO mixed (by decide +kernel) ?_); simp [-cellOK, a8, k8, hO'.cells, hO'.cellOK]) | (refine guarded_split ?_ ?_ <;> (intro hg; simp only [hg]; simp [-cellOK, a8, k8, hO'.cells, hO'.cellOK])) | (apply awp_cond_t; focus (simp [-cellOK, a8, k8, hO'.cells, hO'.cellOK]; done)) | (apply awp_cond_f; focus (simp [-cellOK, a8, k8, hO'.cells, hO'.cellOK]; done)) | (refine awp_cond ?_; simp [-cellOK, a8, k8, hO'.cells, hO'.cellOK]; refine ⟨?_, ?_⟩ <;> intro hc) | fail)
        refine ⟨e0, .inl ⟨rfl, e3 _, e2 _, fun hs π hπ => ?_, fun hs π hπ => ?_⟩⟩
        · have hR := hw.fin hd hs
          have hS4 := (hS3 (lo .ready none)).up hπ
          refine (hF _).2 ⟨.ready, none, v', ?_, by simp, .inl rfl, ?_, ?_⟩
          · rw [set_other nLe.symm]; exact hπ.m _ _ (e1 _)
          · rw [hR]
            exact hS4.put (nsz (by rw [s6, se]; decide)) ne8.symm (hO2.ne_sz (by rw [se]; decide)) f9
          · rw [hR]; simp [hπ.m _ _ (e2 (lo .ready none))]
        · have hw' := hw.on hd hs
          have hS4 := (hS3 (lo .ready none)).up hπ
          refine (hQ _ _ _).2 ⟨v', hw', hS4.put (nsz (by rw [s6, his]; decide)) na8.symm hva hiat0, hva, ?_, ?_, ?_⟩
          · rw [set_other nLa.symm]; exact hπ.m _ _ (e1 _)
          · rw [set_other nae.symm]; exact hπ.m _ _ (e2 _)
          · simp [hπ.m _ _ (e3 (lo .ready none))]
    · exact (hQ _ _ _).2 ⟨.sl 0 [] true, Way.start N a d, ⟨hEs.trans (Ext.new _ _ _ _), new_up _ _ (hEτ.m _ _ m6), new_up _ _ (hEτ.m _ _ m8), .inl ⟨rfl, rfl⟩⟩, by simp, hσL, new_up _ _ (hEτ.m _ _ m9), new_up _ _ him⟩
    · intro _ ρ h
      obtain ⟨st, pd, v, h1, h2, h3, hS, h4⟩ := (hF _).1 h
      have hfin : R1 A (ρ.del L) := hR1 _ _ ⟨a6, a8, a9, v, hS.del (nsz (by rw [s6, sL]; decide)) (nsz (by rw [s8, sL]; decide)) (hS.own.ne_sz (by rw [sL]; decide)) hL0, by rw [del_other (nsz (by rw [se, sL]; decide))]; exact h4⟩
      refine ⟨st, pd, h1, h2, fun _ => hfin, fun c hc => ?_⟩
      rcases h3 with h3 | h3
      · rw [h3] at hc; cases hc
      · rw [h3] at hc
        simp only [Option.some.injEq] at hc
        subst hc
        refine awp_exit ?_
        simpa using hfin
  · rintro B ρ ⟨a6, a8, a9, v, ⟨hE, h6, h8, hO⟩, h9⟩
    generalize traceF N d a = R at h9 hO ⊢
    refine awp_seq ?_
    refine awp_freeze ie ?_
    have n6e : i6 ≠ ie := nsz (by rw [s6, se]; decide)
    have n8e : i8 ≠ ie := nsz (by rw [s8, se]; decide)
    obtain ⟨C, hC⟩ : ∃ C, (fun t => giveUp (ρ.del ie).m ρ.m (B t)) = C := ⟨_, rfl⟩
    rw [hC]
    have c6 : C 6 = .rp i6 0 0 := by rw [← hC]; show giveUp _ _ (B 6) = _; rw [a6]; exact giveUp_rp_ne n6e
    have c8 : C 8 = .rp i8 0 0 := by rw [← hC]; show giveUp _ _ (B 8) = _; rw [a8]; exact giveUp_rp_ne n8e
    have c9 : C 9 = .pp (ndAV R.out R.last).cells 0 := by rw [← hC]; show giveUp _ _ (B 9) = _; rw [a9]; exact giveUp_rp_made (by simp) h9 rfl
    have hE' : Ext σ (ρ.del ie) := ⟨fun j o hj => by rw [del_other (fun e => by rw [e, f9] at hj; cases hj)]; exact hE.m j o hj, hE.nx⟩
    have h6' := (del_other (σ := ρ) n6e).trans h6
    have h8' := (del_other (σ := ρ) n8e).trans h8
    have hO' : OwnL σ (ρ.del ie) 1 v (R.path.map iAV) := hO.del (hO.ne_sz (by rw [se]; decide))
    generalize ρ.del ie = ρ' at hE' h6' h8' hO' ⊢
    clear hC a6 a8 a9 h6 h8 h9 hO hE
    have hv1 := hO'.cells
    have hv2 := hO'.cellOK
    have hvp : ∀ x y z : Value, setPart (AV.agg [v, .raw x, .raw y, .raw z]) 2 (ptAV R.last).cells = .agg [v, .raw x, .raw (.int .i64 R.last.dev), .raw (.int .i64 R.last.port)] := fun _ _ _ => rfl
    refine awp_drawP [0, 1, 2, 3, 4, 6] 5 7 (lsO [41, 43]) mixed (by decide +kernel) ?_
    rw [List.map_cons, List.map_cons, List.map_cons, List.map_cons, List.map_cons, List.map_cons, List.map_nil]
    dsimp only [mkD, List.getElem?_cons_zero, List.getElem?_cons_succ, guardOf, Option.map_none, Option.map_some]
    (try ((first | with_reducible refine dops_go ?_ | with_reducible refine OKv_go ?_ | with_reducible refine OKr_go ?_); simp [-cellOK, c6, c8, c9, nd_cells, pt_fold, pt_cells, h8'])); repeat' (first | refine awp_seq ?_ | refine awp_block ?_ | (refine awp_skip ?_; try simp) | (refine awp_exit ?_; try simp) | (refine awp_ret ?_; try simp) | (refine retP_same (by simp) ?_; simp) | (refine retP_no (by simp) (by simp [noIds]) (by repeat (first | assumption | exact Ext.refl _ | refine ext_new' ?_ | refine Ext.setF ?_ (by first | assumption | (simp [new_nx', St.set, fresh_none]; done) | exact ext_fresh (by assumption)))) ?_; simp [-cellOK, c6, c8, c9, nd_cells, pt_fold, pt_cells, h8', new_m, set_m, new_nx']) | ((first | refine awp_reg ?_ | refine awp_drawT (fun _ => false) mixed (by decide +kernel) ?_ | refine awp_drawT isCallO mixed (by decide +kernel) ?_); simp [-cellOK, c6, c8, c9, nd_cells, pt_fold, pt_cells, h8']) | (refine guarded_split ?_ ?_ <;> (intro hg; simp only [hg]; simp [-cellOK, c6, c8, c9, nd_cells, pt_fold, pt_cells, h8'])) | (apply awp_cond_t; focus (simp [-cellOK, c6, c8, c9, nd_cells, pt_fold, pt_cells, h8']; done)) | (apply awp_cond_f; focus (simp [-cellOK, c6, c8, c9, nd_cells, pt_fold, pt_cells, h8']; done)) | (refine awp_cond ?_; simp [-cellOK, c6, c8, c9, nd_cells, pt_fold, pt_cells, h8']; refine ⟨?_, ?_⟩ <;> intro hc) | fail)
    have hvs : ∀ {i : Id}, i.sz = 4 → ∀ k l, v ≠ .rs i k l := fun h => hO'.ne_sz (by rw [h]; decide)
    have hd86 : i8 ≠ i6 := d68.symm
    have hv3 : ∀ w x y z : Value, [v, AV.raw x, AV.raw y, AV.raw z].length = 4 := fun _ _ _ _ => rfl
    have hcok : ∀ x y z : Int, cellsOK [v, AV.raw (.int .i64 x), AV.raw (.int .i64 y), AV.raw (.int .i64 z)] = true := fun x y z => by simp [-cellOK, hv2]
    refine ⟨?_, ?_⟩
    · (try ((first | with_reducible refine dops_go ?_ | with_reducible refine OKv_go ?_ | with_reducible refine OKr_go ?_); simp [-cellOK, c6, c8, h6', h8', hv1, hv2, set_m, d68, hd86])); repeat' (first | refine awp_seq ?_ | refine awp_block ?_ | (refine awp_skip ?_; try simp) | (refine awp_exit ?_; try simp) | (refine awp_ret ?_; try simp) | ((first | refine awp_reg ?_ | refine awp_drawT (fun _ => false) mixed (by decide +kernel) ?_ | refine awp_drawT isCallO mixed (by decide +kernel) ?_); simp [-cellOK, c6, c8, h6', h8', hv1, hv2, set_m, d68, hd86]) | (refine guarded_split ?_ ?_ <;> (intro hg; simp only [hg]; simp [-cellOK, c6, c8, h6', h8', hv1, hv2, set_m, d68, hd86])) | (apply awp_cond_t; focus (simp [-cellOK, c6, c8, h6', h8', hv1, hv2, set_m, d68, hd86]; done)) | (apply awp_cond_f; focus (simp [-cellOK, c6, c8, h6', h8', hv1, hv2, set_m, d68, hd86]; done)) | (refine awp_cond ?_; simp [-cellOK, c6, c8, h6', h8', hv1, hv2, set_m, d68, hd86]; refine ⟨?_, ?_⟩ <;> intro hc) | fail)
      refine retP_ownAT (v := v) (.inr rfl) (by simp [set_m, h6', h8', d68, hd86, c6, c8]) (((hO'.set (hvs s8)).set (hvs s8)).set (hvs s6)) ?_
      exact Ext.setF (Ext.setF (Ext.setF hE' f8) f8) f6
    · (try ((first | with_reducible refine dops_go ?_ | with_reducible refine OKv_go ?_ | with_reducible refine OKr_go ?_); simp [-cellOK, c6, c8, h6', h8', hv1, hv2, set_m, d68, hd86])); repeat' (first | refine awp_seq ?_ | refine awp_block ?_ | (refine awp_skip ?_; try simp) | (refine awp_exit ?_; try simp) | (refine awp_ret ?_; try simp) | ((first | refine awp_reg ?_ | refine awp_drawT (fun _ => false) mixed (by decide +kernel) ?_ | refine awp_drawT isCallO mixed (by decide +kernel) ?_); simp [-cellOK, c6, c8, h6', h8', hv1, hv2, set_m, d68, hd86]) | (refine guarded_split ?_ ?_ <;> (intro hg; simp only [hg]; simp [-cellOK, c6, c8, h6', h8', hv1, hv2, set_m, d68, hd86])) | (apply awp_cond_t; focus (simp [-cellOK, c6, c8, h6', h8', hv1, hv2, set_m, d68, hd86]; done)) | (apply awp_cond_f; focus (simp [-cellOK, c6, c8, h6', h8', hv1, hv2, set_m, d68, hd86]; done)) | (refine awp_cond ?_; simp [-cellOK, c6, c8, h6', h8', hv1, hv2, set_m, d68, hd86]; refine ⟨?_, ?_⟩ <;> intro hc) | fail)
      refine retP_ownAT (v := v) (.inr rfl) (by simp [set_m, h6', h8', d68, hd86, c6, c8]) (((hO'.set (hvs s8)).set (hvs s8)).set (hvs s6)) ?_
      exact Ext.setF (Ext.setF (Ext.setF hE' f8) f8) f6
end Go.Proofs.Ytanimmdlgmkmkaa.Av

