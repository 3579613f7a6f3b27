/- Probe: ProbeOwn Part 9 of 15: AvN28, AvN29, AvN30, AvN15, AvN18, AvN19, AvN20, AvN21, AvN32, AvN23, AvN24, AvN16, AvN31, AvN33, AvL1, AvB1, AvB2, AvB3, AvB4, AvB5, AvB6. -/
import Derived.Test.YtanimmdlgmkmkaaPo6
import Derived.Test.YtanimmdlgmkmkaaPo7
import Derived.Test.YtanimmdlgmkmkaaPo8

/- Networks: what is genuine; queries: right ones, sources, what breaks them. -/
namespace Go.Proofs.Ytanimmdlgmkmkaa.Av
open Go
set_option linter.unusedSimpArgs false
set_option linter.unusedVariables false
set_option maxRecDepth 100000
set_option maxHeartbeats 4000000
set_option pp.maxSteps 600

theorem tk_cells (t : Tk) (f : Bool) : (tkAV t f).cells = [intsAV t.path f, .raw (.int .i64 t.out), .raw (.int .i64 t.last.dev), .raw (.int .i64 t.last.port)] := rfl
theorem tk_fold (t : Tk) (f : Bool) : AV.agg [intsAV t.path f, .raw (.int .i64 t.out), .raw (.int .i64 t.last.dev), .raw (.int .i64 t.last.port)] = tkAV t f := rfl
theorem ints_cells (l : List Int) (f : Bool) : (intsAV l f).cells = [intsAV l f] := rfl
theorem tk_putL (u : Tk) (g : Bool) : setPart (AV.agg [.sl 0 [] true, .raw (.int .i64 0), .raw (.int .i64 0), .raw (.int .i64 0)]) 0 [intsAV u.path g, .raw (.int .i64 u.out), .raw (.int .i64 u.last.dev), .raw (.int .i64 u.last.port)] = tkAV u g := rfl
def genuineB (N : Nw) (a : Int) (t : Tk) : Bool := match t.path with | [] => false | d :: _ => decide ((traceR N d a).2 = 0) && decide (t = (traceR N d a).1)
theorem walkT_len (n : Nw) (a : Int) : ∀ (f : Nat) (d : Int) (p : List Int), (walkT n a f d p).path.length ≤ p.length + f
  | 0, d, p => by simp [walkT]
  | f + 1, d, p => by
    have := walkT_len n a f (nextDev n (stepF n d a).2) (p ++ [d])
    simp only [walkT]
    split
    · simp
    · split
      · simp only [List.length_append, List.length_singleton] at this; omega
      · simp
theorem traceR_len (n : Nw) (d a : Int) : (traceR n d a).1.path.length ≤ 2 + 2 * n.t.links.length := by
  unfold traceR
  split
  · simp
  · have := walkT_len n a (2 + 2 * n.t.links.length) d []
    simpa [traceF] using this
structure Qy where
  kind : Int
  a : Int
  b : Int
  w : Int
  r : Rg
  other : ByteArray
def qyAV (q : Qy) : AV := .agg [.raw (.int .i64 q.kind), .raw (.int .i64 q.a), .raw (.int .i64 q.b), .raw (.int .i64 q.w), .raw (.int .u32 q.r.lo), .raw (.int .u32 q.r.hi), .raw (.string q.other)]
theorem qy_cells (q : Qy) : (qyAV q).cells = [.raw (.int .i64 q.kind), .raw (.int .i64 q.a), .raw (.int .i64 q.b), .raw (.int .i64 q.w), .raw (.int .u32 q.r.lo), .raw (.int .u32 q.r.hi), .raw (.string q.other)] := rfl
theorem qy_fold (q : Qy) : AV.agg [.raw (.int .i64 q.kind), .raw (.int .i64 q.a), .raw (.int .i64 q.b), .raw (.int .i64 q.w), .raw (.int .u32 q.r.lo), .raw (.int .u32 q.r.hi), .raw (.string q.other)] = qyAV q := rfl
def singleB (q : Qy) : Bool := decide (q.kind = 0) || (decide (q.kind = 3) || decide (q.kind = 4))
theorem single_calls (q : Qy) : PCalls Try.prog 44 [qyAV q] (.raw (.bool (singleB q))) := by
  refine pbody Try.func44 rfl (N := 16) rfl rfl (by simp) (by simp [noIds]) fun σ => ?_
  unfold singleB
  by_cases h0 : q.kind = 0
  · (try ((first | with_reducible refine dops_go ?_ | with_reducible refine OKv_go ?_ | with_reducible refine OKr_go ?_); simp [-cellOK, qy_cells, h0])); repeat' (first | refine awp_seq ?_ | refine awp_block ?_ | (refine awp_skip ?_; try simp) | (refine awp_exit ?_; try simp) | (refine awp_ret ?_; try simp) | (refine retP_same (by simp) ?_; simp) | (refine retP_no (by simp) (by simp [noIds]) (by repeat (first | assumption | exact Ext.refl _ | refine ext_new' ?_ | refine Ext.setF ?_ (by first | assumption | (simp [new_nx', St.set, fresh_none]; done) | exact ext_fresh (by assumption)))) ?_; simp [-cellOK, qy_cells, h0, new_m, set_m, new_nx']) | ((first | refine awp_reg ?_ | refine awp_drawT (fun _ => false) mixed (by decide +kernel) ?_ | refine awp_drawT isCallO mixed (by decide +kernel) ?_); simp [-cellOK, qy_cells, h0]) | (refine guarded_split ?_ ?_ <;> (intro hg; simp only [hg]; simp [-cellOK, qy_cells, h0])) | (apply awp_cond_t; focus (simp [-cellOK, qy_cells, h0]; done)) | (apply awp_cond_f; focus (simp [-cellOK, qy_cells, h0]; done)) | (refine awp_cond ?_; simp [-cellOK, qy_cells, h0]; refine ⟨?_, ?_⟩ <;> intro hc) | fail)
  · by_cases h3 : q.kind = 3
    · (try ((first | with_reducible refine dops_go ?_ | with_reducible refine OKv_go ?_ | with_reducible refine OKr_go ?_); simp [-cellOK, qy_cells, h0, h3])); repeat' (first | refine awp_seq ?_ | refine awp_block ?_ | (refine awp_skip ?_; try simp) | (refine awp_exit ?_; try simp) | (refine awp_ret ?_; try simp) | (refine retP_same (by simp) ?_; simp) | (refine retP_no (by simp) (by simp [noIds]) (by repeat (first | assumption | exact Ext.refl _ | refine ext_new' ?_ | refine Ext.setF ?_ (by first | assumption | (simp [new_nx', St.set, fresh_none]; done) | exact ext_fresh (by assumption)))) ?_; simp [-cellOK, qy_cells, h0, h3, new_m, set_m, new_nx']) | ((first | refine awp_reg ?_ | refine awp_drawT (fun _ => false) mixed (by decide +kernel) ?_ | refine awp_drawT isCallO mixed (by decide +kernel) ?_); simp [-cellOK, qy_cells, h0, h3]) | (refine guarded_split ?_ ?_ <;> (intro hg; simp only [hg]; simp [-cellOK, qy_cells, h0, h3])) | (apply awp_cond_t; focus (simp [-cellOK, qy_cells, h0, h3]; done)) | (apply awp_cond_f; focus (simp [-cellOK, qy_cells, h0, h3]; done)) | (refine awp_cond ?_; simp [-cellOK, qy_cells, h0, h3]; refine ⟨?_, ?_⟩ <;> intro hc) | fail)
    · by_cases h4 : q.kind = 4
      · (try ((first | with_reducible refine dops_go ?_ | with_reducible refine OKv_go ?_ | with_reducible refine OKr_go ?_); simp [-cellOK, qy_cells, h0, h3, h4])); repeat' (first | refine awp_seq ?_ | refine awp_block ?_ | (refine awp_skip ?_; try simp) | (refine awp_exit ?_; try simp) | (refine awp_ret ?_; try simp) | (refine retP_same (by simp) ?_; simp) | (refine retP_no (by simp) (by simp [noIds]) (by repeat (first | assumption | exact Ext.refl _ | refine ext_new' ?_ | refine Ext.setF ?_ (by first | assumption | (simp [new_nx', St.set, fresh_none]; done) | exact ext_fresh (by assumption)))) ?_; simp [-cellOK, qy_cells, h0, h3, h4, new_m, set_m, new_nx']) | ((first | refine awp_reg ?_ | refine awp_drawT (fun _ => false) mixed (by decide +kernel) ?_ | refine awp_drawT isCallO mixed (by decide +kernel) ?_); simp [-cellOK, qy_cells, h0, h3, h4]) | (refine guarded_split ?_ ?_ <;> (intro hg; simp only [hg]; simp [-cellOK, qy_cells, h0, h3, h4])) | (apply awp_cond_t; focus (simp [-cellOK, qy_cells, h0, h3, h4]; done)) | (apply awp_cond_f; focus (simp [-cellOK, qy_cells, h0, h3, h4]; done)) | (refine awp_cond ?_; simp [-cellOK, qy_cells, h0, h3, h4]; refine ⟨?_, ?_⟩ <;> intro hc) | fail)
      · (try ((first | with_reducible refine dops_go ?_ | with_reducible refine OKv_go ?_ | with_reducible refine OKr_go ?_); simp [-cellOK, qy_cells, h0, h3, h4])); repeat' (first | refine awp_seq ?_ | refine awp_block ?_ | (refine awp_skip ?_; try simp) | (refine awp_exit ?_; try simp) | (refine awp_ret ?_; try simp) | (refine retP_same (by simp) ?_; simp) | (refine retP_no (by simp) (by simp [noIds]) (by repeat (first | assumption | exact Ext.refl _ | refine ext_new' ?_ | refine Ext.setF ?_ (by first | assumption | (simp [new_nx', St.set, fresh_none]; done) | exact ext_fresh (by assumption)))) ?_; simp [-cellOK, qy_cells, h0, h3, h4, new_m, set_m, new_nx']) | ((first | refine awp_reg ?_ | refine awp_drawT (fun _ => false) mixed (by decide +kernel) ?_ | refine awp_drawT isCallO mixed (by decide +kernel) ?_); simp [-cellOK, qy_cells, h0, h3, h4]) | (refine guarded_split ?_ ?_ <;> (intro hg; simp only [hg]; simp [-cellOK, qy_cells, h0, h3, h4])) | (apply awp_cond_t; focus (simp [-cellOK, qy_cells, h0, h3, h4]; done)) | (apply awp_cond_f; focus (simp [-cellOK, qy_cells, h0, h3, h4]; done)) | (refine awp_cond ?_; simp [-cellOK, qy_cells, h0, h3, h4]; refine ⟨?_, ?_⟩ <;> intro hc) | fail)
def noDev (n : Nw) (d : Int) : Bool := decide (d < 0) || decide ((n.t.ports.length : Int) ≤ d)
theorem noDev_calls (n : Nw) (f : Fl) (d : Int) : PCalls Try.prog 65 [.raw (.int .i64 d), .pp (nwAV n f).cells 0] (.raw (.bool (noDev n d))) := by
  refine pbody Try.func65 rfl (N := 14) rfl rfl (by simp) (by simp [noIds]) fun σ => ?_
  have hp : ∀ m, opLen Try.prog m 22 (intsAV n.t.ports f.p) = some (.raw (.int .i64 n.t.ports.length)) := fun m => by simp [intsAV]
  unfold noDev
  by_cases h0 : d < 0
  · (try ((first | with_reducible refine dops_go ?_ | with_reducible refine OKv_go ?_ | with_reducible refine OKr_go ?_); simp [-cellOK, nw_cells, h0])); repeat' (first | refine awp_seq ?_ | refine awp_block ?_ | (refine awp_skip ?_; try simp) | (refine awp_exit ?_; try simp) | (refine awp_ret ?_; try simp) | (refine retP_same (by simp) ?_; simp) | (refine retP_no (by simp) (by simp [noIds]) (by repeat (first | assumption | exact Ext.refl _ | refine ext_new' ?_ | refine Ext.setF ?_ (by first | assumption | (simp [new_nx', St.set, fresh_none]; done) | exact ext_fresh (by assumption)))) ?_; simp [-cellOK, nw_cells, h0, new_m, set_m, new_nx']) | ((first | refine awp_reg ?_ | refine awp_drawT (fun _ => false) mixed (by decide +kernel) ?_ | refine awp_drawT isCallO mixed (by decide +kernel) ?_); simp [-cellOK, nw_cells, h0]) | (refine guarded_split ?_ ?_ <;> (intro hg; simp only [hg]; simp [-cellOK, nw_cells, h0])) | (apply awp_cond_t; focus (simp [-cellOK, nw_cells, h0]; done)) | (apply awp_cond_f; focus (simp [-cellOK, nw_cells, h0]; done)) | (refine awp_cond ?_; simp [-cellOK, nw_cells, h0]; refine ⟨?_, ?_⟩ <;> intro hc) | fail)
  · (try ((first | with_reducible refine dops_go ?_ | with_reducible refine OKv_go ?_ | with_reducible refine OKr_go ?_); simp [-cellOK, nw_cells, h0, -opLen, hp])); repeat' (first | refine awp_seq ?_ | refine awp_block ?_ | (refine awp_skip ?_; try simp) | (refine awp_exit ?_; try simp) | (refine awp_ret ?_; try simp) | (refine retP_same (by simp) ?_; simp) | (refine retP_no (by simp) (by simp [noIds]) (by repeat (first | assumption | exact Ext.refl _ | refine ext_new' ?_ | refine Ext.setF ?_ (by first | assumption | (simp [new_nx', St.set, fresh_none]; done) | exact ext_fresh (by assumption)))) ?_; simp [-cellOK, nw_cells, h0, -opLen, hp, new_m, set_m, new_nx']) | ((first | refine awp_reg ?_ | refine awp_drawT (fun _ => false) mixed (by decide +kernel) ?_ | refine awp_drawT isCallO mixed (by decide +kernel) ?_); simp [-cellOK, nw_cells, h0, -opLen, hp]) | (refine guarded_split ?_ ?_ <;> (intro hg; simp only [hg]; simp [-cellOK, nw_cells, h0, -opLen, hp])) | (apply awp_cond_t; focus (simp [-cellOK, nw_cells, h0, -opLen, hp]; done)) | (apply awp_cond_f; focus (simp [-cellOK, nw_cells, h0, -opLen, hp]; done)) | (refine awp_cond ?_; simp [-cellOK, nw_cells, h0, -opLen, hp]; refine ⟨?_, ?_⟩ <;> intro hc) | fail)
def leavesB (t : Tk) (d : Int) : Bool := decide (t.out = 3) && decide (t.last.dev = d)
theorem leaves_calls (t : Tk) (f : Bool) (d : Int) : PCalls Try.prog 74 [tkAV t f, .raw (.int .i64 d)] (.raw (.bool (leavesB t d))) := by
  refine pbody Try.func74 rfl (N := 15) rfl rfl (by simp) (by simp [noIds]) fun σ => ?_
  unfold leavesB
  by_cases h0 : t.out = 3
  · (try ((first | with_reducible refine dops_go ?_ | with_reducible refine OKv_go ?_ | with_reducible refine OKr_go ?_); simp [-cellOK, tk_cells, h0])); repeat' (first | refine awp_seq ?_ | refine awp_block ?_ | (refine awp_skip ?_; try simp) | (refine awp_exit ?_; try simp) | (refine awp_ret ?_; try simp) | (refine retP_same (by simp) ?_; simp) | (refine retP_no (by simp) (by simp [noIds]) (by repeat (first | assumption | exact Ext.refl _ | refine ext_new' ?_ | refine Ext.setF ?_ (by first | assumption | (simp [new_nx', St.set, fresh_none]; done) | exact ext_fresh (by assumption)))) ?_; simp [-cellOK, tk_cells, h0, new_m, set_m, new_nx']) | ((first | refine awp_reg ?_ | refine awp_drawT (fun _ => false) mixed (by decide +kernel) ?_ | refine awp_drawT isCallO mixed (by decide +kernel) ?_); simp [-cellOK, tk_cells, h0]) | (refine guarded_split ?_ ?_ <;> (intro hg; simp only [hg]; simp [-cellOK, tk_cells, h0])) | (apply awp_cond_t; focus (simp [-cellOK, tk_cells, h0]; done)) | (apply awp_cond_f; focus (simp [-cellOK, tk_cells, h0]; done)) | (refine awp_cond ?_; simp [-cellOK, tk_cells, h0]; refine ⟨?_, ?_⟩ <;> intro hc) | fail)
  · (try ((first | with_reducible refine dops_go ?_ | with_reducible refine OKv_go ?_ | with_reducible refine OKr_go ?_); simp [-cellOK, tk_cells, h0])); repeat' (first | refine awp_seq ?_ | refine awp_block ?_ | (refine awp_skip ?_; try simp) | (refine awp_exit ?_; try simp) | (refine awp_ret ?_; try simp) | (refine retP_same (by simp) ?_; simp) | (refine retP_no (by simp) (by simp [noIds]) (by repeat (first | assumption | exact Ext.refl _ | refine ext_new' ?_ | refine Ext.setF ?_ (by first | assumption | (simp [new_nx', St.set, fresh_none]; done) | exact ext_fresh (by assumption)))) ?_; simp [-cellOK, tk_cells, h0, new_m, set_m, new_nx']) | ((first | refine awp_reg ?_ | refine awp_drawT (fun _ => false) mixed (by decide +kernel) ?_ | refine awp_drawT isCallO mixed (by decide +kernel) ?_); simp [-cellOK, tk_cells, h0]) | (refine guarded_split ?_ ?_ <;> (intro hg; simp only [hg]; simp [-cellOK, tk_cells, h0])) | (apply awp_cond_t; focus (simp [-cellOK, tk_cells, h0]; done)) | (apply awp_cond_f; focus (simp [-cellOK, tk_cells, h0]; done)) | (refine awp_cond ?_; simp [-cellOK, tk_cells, h0]; refine ⟨?_, ?_⟩ <;> intro hc) | fail)
def comesB (t : Tk) (d : Int) : Bool := t.path.any fun x => decide (d = x)
theorem brk0_calls (q : Qy) (t u : Tk) (f g : Bool) : PCalls Try.prog 73 [qyAV q, tkAV t f, tkAV u g] (.raw (.bool (!leavesB t q.b))) := by
  have h := leaves_calls t f q.b
  refine pbody Try.func73 rfl (N := 12) rfl rfl (by simp) (by simp [noIds]) fun σ => ?_
  (try ((first | with_reducible refine dops_go ?_ | with_reducible refine OKv_go ?_ | with_reducible refine OKr_go ?_); simp [-cellOK, qy_cells, tk_cells, tk_fold])); repeat' (first | refine awp_seq ?_ | refine awp_block ?_ | (refine awp_skip ?_; try simp) | (refine awp_exit ?_; try simp) | (refine awp_ret ?_; try simp) | (refine retP_same (by simp) ?_; simp) | (refine retP_no (by simp) (by simp [noIds]) (by repeat (first | assumption | exact Ext.refl _ | refine ext_new' ?_ | refine Ext.setF ?_ (by first | assumption | (simp [new_nx', St.set, fresh_none]; done) | exact ext_fresh (by assumption)))) ?_; simp [-cellOK, qy_cells, tk_cells, tk_fold, new_m, set_m, new_nx']) | ((first | refine awp_reg ?_ | refine awp_drawT (fun _ => false) mixed (by decide +kernel) ?_ | refine awp_drawT isCallO mixed (by decide +kernel) ?_ | refine PCalls.use (h) ?_ | refine Or.inl ⟨_, Or.inl (h), ?_⟩); simp [-cellOK, qy_cells, tk_cells, tk_fold]) | (refine guarded_split ?_ ?_ <;> (intro hg; simp only [hg]; simp [-cellOK, qy_cells, tk_cells, tk_fold])) | (apply awp_cond_t; focus (simp [-cellOK, qy_cells, tk_cells, tk_fold]; done)) | (apply awp_cond_f; focus (simp [-cellOK, qy_cells, tk_cells, tk_fold]; done)) | (refine awp_cond ?_; simp [-cellOK, qy_cells, tk_cells, tk_fold]; refine ⟨?_, ?_⟩ <;> intro hc) | fail)
theorem brk1_calls (q : Qy) (t u : Tk) (f g : Bool) : PCalls Try.prog 75 [qyAV q, tkAV t f, tkAV u g] (.raw (.bool (decide (t.out = 4)))) := by
  refine pbody Try.func75 rfl (N := 10) rfl rfl (by simp) (by simp [noIds]) fun σ => ?_
  (try ((first | with_reducible refine dops_go ?_ | with_reducible refine OKv_go ?_ | with_reducible refine OKr_go ?_); simp [-cellOK, qy_cells, tk_cells, tk_fold])); repeat' (first | refine awp_seq ?_ | refine awp_block ?_ | (refine awp_skip ?_; try simp) | (refine awp_exit ?_; try simp) | (refine awp_ret ?_; try simp) | (refine retP_same (by simp) ?_; simp) | (refine retP_no (by simp) (by simp [noIds]) (by repeat (first | assumption | exact Ext.refl _ | refine ext_new' ?_ | refine Ext.setF ?_ (by first | assumption | (simp [new_nx', St.set, fresh_none]; done) | exact ext_fresh (by assumption)))) ?_; simp [-cellOK, qy_cells, tk_cells, tk_fold, new_m, set_m, new_nx']) | ((first | refine awp_reg ?_ | refine awp_drawT (fun _ => false) mixed (by decide +kernel) ?_ | refine awp_drawT isCallO mixed (by decide +kernel) ?_); simp [-cellOK, qy_cells, tk_cells, tk_fold]) | (refine guarded_split ?_ ?_ <;> (intro hg; simp only [hg]; simp [-cellOK, qy_cells, tk_cells, tk_fold])) | (apply awp_cond_t; focus (simp [-cellOK, qy_cells, tk_cells, tk_fold]; done)) | (apply awp_cond_f; focus (simp [-cellOK, qy_cells, tk_cells, tk_fold]; done)) | (refine awp_cond ?_; simp [-cellOK, qy_cells, tk_cells, tk_fold]; refine ⟨?_, ?_⟩ <;> intro hc) | fail)
theorem brk2_calls (q : Qy) (t u : Tk) (f g : Bool) : PCalls Try.prog 76 [qyAV q, tkAV t f, tkAV u g] (.raw (.bool (decide (t.out = 0)))) := by
  refine pbody Try.func76 rfl (N := 10) rfl rfl (by simp) (by simp [noIds]) fun σ => ?_
  (try ((first | with_reducible refine dops_go ?_ | with_reducible refine OKv_go ?_ | with_reducible refine OKr_go ?_); simp [-cellOK, qy_cells, tk_cells, tk_fold])); repeat' (first | refine awp_seq ?_ | refine awp_block ?_ | (refine awp_skip ?_; try simp) | (refine awp_exit ?_; try simp) | (refine awp_ret ?_; try simp) | (refine retP_same (by simp) ?_; simp) | (refine retP_no (by simp) (by simp [noIds]) (by repeat (first | assumption | exact Ext.refl _ | refine ext_new' ?_ | refine Ext.setF ?_ (by first | assumption | (simp [new_nx', St.set, fresh_none]; done) | exact ext_fresh (by assumption)))) ?_; simp [-cellOK, qy_cells, tk_cells, tk_fold, new_m, set_m, new_nx']) | ((first | refine awp_reg ?_ | refine awp_drawT (fun _ => false) mixed (by decide +kernel) ?_ | refine awp_drawT isCallO mixed (by decide +kernel) ?_); simp [-cellOK, qy_cells, tk_cells, tk_fold]) | (refine guarded_split ?_ ?_ <;> (intro hg; simp only [hg]; simp [-cellOK, qy_cells, tk_cells, tk_fold])) | (apply awp_cond_t; focus (simp [-cellOK, qy_cells, tk_cells, tk_fold]; done)) | (apply awp_cond_f; focus (simp [-cellOK, qy_cells, tk_cells, tk_fold]; done)) | (refine awp_cond ?_; simp [-cellOK, qy_cells, tk_cells, tk_fold]; refine ⟨?_, ?_⟩ <;> intro hc) | fail)
theorem brk3_calls (q : Qy) (t u : Tk) (f g : Bool) (ht : t.path.length < 2 ^ 60) : PCalls Try.prog 77 [qyAV q, tkAV t f, tkAV u g] (.raw (.bool (comesB t q.b))) := by
  have h := contains_calls t.path f q.b ht
  unfold comesB
  refine pbody Try.func77 rfl (N := 12) rfl rfl (by simp) (by simp [noIds]) fun σ => ?_
  (try ((first | with_reducible refine dops_go ?_ | with_reducible refine OKv_go ?_ | with_reducible refine OKr_go ?_); simp [-cellOK, qy_cells, tk_cells, tk_fold])); repeat' (first | refine awp_seq ?_ | refine awp_block ?_ | (refine awp_skip ?_; try simp) | (refine awp_exit ?_; try simp) | (refine awp_ret ?_; try simp) | (refine retP_same (by simp) ?_; simp) | (refine retP_no (by simp) (by simp [noIds]) (by repeat (first | assumption | exact Ext.refl _ | refine ext_new' ?_ | refine Ext.setF ?_ (by first | assumption | (simp [new_nx', St.set, fresh_none]; done) | exact ext_fresh (by assumption)))) ?_; simp [-cellOK, qy_cells, tk_cells, tk_fold, new_m, set_m, new_nx']) | ((first | refine awp_reg ?_ | refine awp_drawT (fun _ => false) mixed (by decide +kernel) ?_ | refine awp_drawT isCallO mixed (by decide +kernel) ?_ | refine PCalls.use (h) ?_ | refine Or.inl ⟨_, Or.inl (h), ?_⟩); simp [-cellOK, qy_cells, tk_cells, tk_fold]) | (refine guarded_split ?_ ?_ <;> (intro hg; simp only [hg]; simp [-cellOK, qy_cells, tk_cells, tk_fold])) | (apply awp_cond_t; focus (simp [-cellOK, qy_cells, tk_cells, tk_fold]; done)) | (apply awp_cond_f; focus (simp [-cellOK, qy_cells, tk_cells, tk_fold]; done)) | (refine awp_cond ?_; simp [-cellOK, qy_cells, tk_cells, tk_fold]; refine ⟨?_, ?_⟩ <;> intro hc) | fail)
theorem brk4_calls (q : Qy) (t u : Tk) (f g : Bool) (ht : t.path.length < 2 ^ 60) : PCalls Try.prog 78 [qyAV q, tkAV t f, tkAV u g] (.raw (.bool (leavesB t q.b && !comesB t q.w))) := by
  have h0 := leaves_calls t f q.b
  have h := contains_calls t.path f q.w ht
  unfold comesB
  generalize (t.path.any fun x => decide (q.w = x)) = c at h ⊢
  generalize leavesB t q.b = b at h0 ⊢
  refine pbody Try.func78 rfl (N := 19) rfl rfl (by simp) (by simp [noIds]) fun σ => ?_
  cases b with
  | true => (try ((first | with_reducible refine dops_go ?_ | with_reducible refine OKv_go ?_ | with_reducible refine OKr_go ?_); simp [-cellOK, qy_cells, tk_cells, tk_fold])); repeat' (first | refine awp_seq ?_ | refine awp_block ?_ | (refine awp_skip ?_; try simp) | (refine awp_exit ?_; try simp) | (refine awp_ret ?_; try simp) | (refine retP_same (by simp) ?_; simp) | (refine retP_no (by simp) (by simp [noIds]) (by repeat (first | assumption | exact Ext.refl _ | refine ext_new' ?_ | refine Ext.setF ?_ (by first | assumption | (simp [new_nx', St.set, fresh_none]; done) | exact ext_fresh (by assumption)))) ?_; simp [-cellOK, qy_cells, tk_cells, tk_fold, new_m, set_m, new_nx']) | ((first | refine awp_reg ?_ | refine awp_drawT (fun _ => false) mixed (by decide +kernel) ?_ | refine awp_drawT isCallO mixed (by decide +kernel) ?_ | refine PCalls.use (h0) ?_ | refine Or.inl ⟨_, Or.inl (h0), ?_⟩ | refine PCalls.use (h) ?_ | refine Or.inl ⟨_, Or.inl (h), ?_⟩); simp [-cellOK, qy_cells, tk_cells, tk_fold]) | (refine guarded_split ?_ ?_ <;> (intro hg; simp only [hg]; simp [-cellOK, qy_cells, tk_cells, tk_fold])) | (apply awp_cond_t; focus (simp [-cellOK, qy_cells, tk_cells, tk_fold]; done)) | (apply awp_cond_f; focus (simp [-cellOK, qy_cells, tk_cells, tk_fold]; done)) | (refine awp_cond ?_; simp [-cellOK, qy_cells, tk_cells, tk_fold]; refine ⟨?_, ?_⟩ <;> intro hc) | fail)
  | false => (try ((first | with_reducible refine dops_go ?_ | with_reducible refine OKv_go ?_ | with_reducible refine OKr_go ?_); simp [-cellOK, qy_cells, tk_cells, tk_fold])); repeat' (first | refine awp_seq ?_ | refine awp_block ?_ | (refine awp_skip ?_; try simp) | (refine awp_exit ?_; try simp) | (refine awp_ret ?_; try simp) | (refine retP_same (by simp) ?_; simp) | (refine retP_no (by simp) (by simp [noIds]) (by repeat (first | assumption | exact Ext.refl _ | refine ext_new' ?_ | refine Ext.setF ?_ (by first | assumption | (simp [new_nx', St.set, fresh_none]; done) | exact ext_fresh (by assumption)))) ?_; simp [-cellOK, qy_cells, tk_cells, tk_fold, new_m, set_m, new_nx']) | ((first | refine awp_reg ?_ | refine awp_drawT (fun _ => false) mixed (by decide +kernel) ?_ | refine awp_drawT isCallO mixed (by decide +kernel) ?_ | refine PCalls.use (h0) ?_ | refine Or.inl ⟨_, Or.inl (h0), ?_⟩ | refine PCalls.use (h) ?_ | refine Or.inl ⟨_, Or.inl (h), ?_⟩); simp [-cellOK, qy_cells, tk_cells, tk_fold]) | (refine guarded_split ?_ ?_ <;> (intro hg; simp only [hg]; simp [-cellOK, qy_cells, tk_cells, tk_fold])) | (apply awp_cond_t; focus (simp [-cellOK, qy_cells, tk_cells, tk_fold]; done)) | (apply awp_cond_f; focus (simp [-cellOK, qy_cells, tk_cells, tk_fold]; done)) | (refine awp_cond ?_; simp [-cellOK, qy_cells, tk_cells, tk_fold]; refine ⟨?_, ?_⟩ <;> intro hc) | fail)
theorem brk5_calls (q : Qy) (t u : Tk) (f g : Bool) (ht : t.path.length < 2 ^ 60) (hu : u.path.length < 2 ^ 60) : PCalls Try.prog 79 [qyAV q, tkAV t f, tkAV u g] (.raw (.bool (!decide (t = u)))) := by
  have h := tkSame_calls t u f g ht hu
  generalize decide (t = u) = b at h ⊢
  refine pbody Try.func79 rfl (N := 11) rfl rfl (by simp) (by simp [noIds]) fun σ => ?_
  (try ((first | with_reducible refine dops_go ?_ | with_reducible refine OKv_go ?_ | with_reducible refine OKr_go ?_); simp [-cellOK, qy_cells, tk_cells, tk_fold])); repeat' (first | refine awp_seq ?_ | refine awp_block ?_ | (refine awp_skip ?_; try simp) | (refine awp_exit ?_; try simp) | (refine awp_ret ?_; try simp) | (refine retP_same (by simp) ?_; simp) | (refine retP_no (by simp) (by simp [noIds]) (by repeat (first | assumption | exact Ext.refl _ | refine ext_new' ?_ | refine Ext.setF ?_ (by first | assumption | (simp [new_nx', St.set, fresh_none]; done) | exact ext_fresh (by assumption)))) ?_; simp [-cellOK, qy_cells, tk_cells, tk_fold, new_m, set_m, new_nx']) | ((first | refine awp_reg ?_ | refine awp_drawT (fun _ => false) mixed (by decide +kernel) ?_ | refine awp_drawT isCallO mixed (by decide +kernel) ?_ | refine PCalls.use (h) ?_ | refine Or.inl ⟨_, Or.inl (h), ?_⟩); simp [-cellOK, qy_cells, tk_cells, tk_fold]) | (refine guarded_split ?_ ?_ <;> (intro hg; simp only [hg]; simp [-cellOK, qy_cells, tk_cells, tk_fold])) | (apply awp_cond_t; focus (simp [-cellOK, qy_cells, tk_cells, tk_fold]; done)) | (apply awp_cond_f; focus (simp [-cellOK, qy_cells, tk_cells, tk_fold]; done)) | (refine awp_cond ?_; simp [-cellOK, qy_cells, tk_cells, tk_fold]; refine ⟨?_, ?_⟩ <;> intro hc) | fail)
def brkAV : AV := .agg [.fn (.func 73) [] [], .fn (.func 75) [] [], .fn (.func 76) [] [], .fn (.func 77) [] [], .fn (.func 78) [] [], .fn (.func 79) [] []]
theorem broken_calls : PCalls Try.prog 43 [] brkAV := by
  refine pbody Try.func43 rfl (N := 2) rfl rfl (by simp) (by simp [noIds, brkAV]) fun σ => ?_
  unfold brkAV
  have f0 : σ.m ⟨0, σ.nx 0, 6⟩ = none := fresh_none _ _ _
  (try ((first | with_reducible refine dops_go ?_ | with_reducible refine OKv_go ?_ | with_reducible refine OKr_go ?_); simp [-cellOK])); repeat' (first | refine awp_seq ?_ | refine awp_block ?_ | (refine awp_skip ?_; try simp) | (refine awp_exit ?_; try simp) | (refine awp_ret ?_; try simp) | (refine retP_same (by simp) ?_; simp) | (refine retP_no (by simp) (by simp [noIds]) (by repeat (first | assumption | exact Ext.refl _ | refine ext_new' ?_ | refine Ext.setF ?_ (by first | assumption | (simp [new_nx', St.set, fresh_none]; done) | exact ext_fresh (by assumption)))) ?_; simp [-cellOK, new_m, set_m, new_nx']) | ((first | refine awp_reg ?_ | refine awp_drawT (fun _ => false) mixed (by decide +kernel) ?_ | refine awp_drawT isCallO mixed (by decide +kernel) ?_); simp [-cellOK]) | (refine guarded_split ?_ ?_ <;> (intro hg; simp only [hg]; simp [-cellOK])) | (apply awp_cond_t; focus (simp [-cellOK]; done)) | (apply awp_cond_f; focus (simp [-cellOK]; done)) | (refine awp_cond ?_; simp [-cellOK]; refine ⟨?_, ?_⟩ <;> intro hc) | fail)
end Go.Proofs.Ytanimmdlgmkmkaa.Av


/- Queries: right ones, sources, what breaks one. -/
namespace Go.Proofs.Ytanimmdlgmkmkaa.Av
open Go
set_option linter.unusedSimpArgs false
set_option linter.unusedVariables false
set_option maxRecDepth 100000
set_option maxHeartbeats 4000000
set_option pp.maxSteps 600

/-- A call to which an owned object is given for good. -/
theorem PCalls.useFz {P : Program} {f : FuncId} {σ σ0 : St} {args args' : List AV} {r : AV} {K : AV → St → Prop} (j : Id) (h : PCalls P f args' r) (hj : σ0.m j = none) (hE : Ext σ0 σ) (ha : args.map (giveUp (σ.del j).m σ.m) = args')
    (k : ∀ τ, Ext σ0 τ → (∀ i o, i ≠ j → σ.m i = some o → τ.m i = some o) → (∀ s, σ.nx s ≤ τ.nx s) → K r τ) : ACalls P f args σ K := by
  refine ACalls.freeze j ?_
  rw [ha]
  refine h.use (k _ ⟨fun i o ho => ?_, hE.nx⟩ (fun i o hi ho => by rw [del_other hi]; exact ho) fun _ => Nat.le_refl _)
  rw [del_other (fun e => by rw [e, hj] at ho; cases ho)]; exact hE.m i o ho
def noOther (q : Qy) : Bool := q.other.toList == (ByteArray.toList ⟨#[]⟩)
def rightQ (n : Nw) (q : Qy) : Bool :=
  !(decide (q.kind < 0) || (decide (5 < q.kind) || decide (q.r.hi < q.r.lo))) && (!([q.a, q.b, q.w].any (noDev n)) && ((singleB q || (decide (q.a = 0) && decide (q.b = 0))) && ((decide (q.kind = 4) || decide (q.w = 0)) && (decide (q.kind = 5) || noOther q))))
theorem rightQ_calls (n : Nw) (f : Fl) (q : Qy) : PCalls Try.prog 37 [nwAV n f, qyAV q] (.raw (.bool (rightQ n q))) := by
  have hs := single_calls q
  have hc := intContains_calls (g := 65) (caps := [.pp (nwAV n f).cells 0]) (p := noDev n) [q.a, q.b, q.w] false (by simp) (fun d _ => noDev_calls n f d)
  unfold rightQ noOther
  generalize singleB q = sb at hs ⊢
  generalize [q.a, q.b, q.w].any (noDev n) = nb at hc ⊢
  obtain ⟨ob, hob⟩ : ∃ b, (q.other.toList == (ByteArray.toList ⟨#[]⟩)) = b := ⟨_, rfl⟩
  rw [hob]
  have hstr : ∀ op m, op = BinOp.eql → m = Value.string ⟨#[]⟩ → opBin Try.prog op 9 (.raw (.string q.other)) (.raw m) = some (.raw (.bool ob)) := fun op m h1 h2 => by
    subst h1; subst h2
    show Option.map AV.raw (strBin .eql q.other ⟨#[]⟩) = _
    simp only [strBin, hob, Option.map_some]
  have hstr := hstr .eql _ rfl rfl
  refine pbody Try.func37 rfl (N := 65) rfl rfl (by simp) (by simp [noIds]) fun σ => ?_
  repeat (refine awp_seq ?_)
  refine awp_reg ?_
  simp [-cellOK, nw_cells, qy_cells]
  refine awp_freeze ⟨2, σ.nx 2, 3⟩ ?_
  refine awp_freeze ⟨3, σ.nx 3, 7⟩ ?_
  generalize hτ : St.del _ _ = τ
  generalize hA : (fun t => giveUp _ _ _) = A
  have a2 : A 2 = .pp (nwAV n f).cells 0 := by rw [← hA, ← hτ]; simp [giveUp, St.new, St.del, nw_cells]
  have a3 : A 3 = .pp (qyAV q).cells 0 := by rw [← hA, ← hτ]; simp [giveUp, St.new, St.del, nw_cells, qy_cells]
  have hE : Ext σ τ := by
    rw [← hτ]
    refine ⟨fun i o h => ?_, fun s => ?_⟩
    · have q1 : i ≠ ⟨2, σ.nx 2, 3⟩ := fun e => by rw [e, fresh_none] at h; cases h
      have q2 : i ≠ ⟨3, σ.nx 3, 7⟩ := fun e => by rw [e, fresh_none] at h; cases h
      simp [St.del, St.new, q1, q2, h]
    · simp only [St.del, St.new]
      repeat' split
      all_goals omega
  clear hτ hA
  by_cases k0 : q.kind < 0
  · (try ((first | with_reducible refine dops_go ?_ | with_reducible refine OKv_go ?_ | with_reducible refine OKr_go ?_); simp [-cellOK, a2, a3, nw_cells, qy_cells, k0])); repeat' (first | refine awp_seq ?_ | refine awp_block ?_ | (refine awp_skip ?_; try simp) | (refine awp_exit ?_; try simp) | (refine awp_ret ?_; try simp) | (refine retP_same (by simp) ?_; simp) | (refine retP_no (by simp) (by simp [noIds]) (by repeat (first | assumption | exact Ext.refl _ | refine ext_new' ?_ | refine Ext.setF ?_ (by first | assumption | (simp [new_nx', St.set, fresh_none]; done) | exact ext_fresh (by assumption)))) ?_; simp [-cellOK, a2, a3, nw_cells, qy_cells, k0, new_m, set_m, new_nx']) | ((first | refine awp_reg ?_ | refine awp_drawT (fun _ => false) mixed (by decide +kernel) ?_ | refine awp_drawT isCallO mixed (by decide +kernel) ?_); simp [-cellOK, a2, a3, nw_cells, qy_cells, k0]) | (refine guarded_split ?_ ?_ <;> (intro hg; simp only [hg]; simp [-cellOK, a2, a3, nw_cells, qy_cells, k0])) | (apply awp_cond_t; focus (simp [-cellOK, a2, a3, nw_cells, qy_cells, k0]; done)) | (apply awp_cond_f; focus (simp [-cellOK, a2, a3, nw_cells, qy_cells, k0]; done)) | (refine awp_cond ?_; simp [-cellOK, a2, a3, nw_cells, qy_cells, k0]; refine ⟨?_, ?_⟩ <;> intro hc) | fail)
  by_cases k1 : 5 < q.kind
  · (try ((first | with_reducible refine dops_go ?_ | with_reducible refine OKv_go ?_ | with_reducible refine OKr_go ?_); simp [-cellOK, a2, a3, nw_cells, qy_cells, k0, k1])); repeat' (first | refine awp_seq ?_ | refine awp_block ?_ | (refine awp_skip ?_; try simp) | (refine awp_exit ?_; try simp) | (refine awp_ret ?_; try simp) | (refine retP_same (by simp) ?_; simp) | (refine retP_no (by simp) (by simp [noIds]) (by repeat (first | assumption | exact Ext.refl _ | refine ext_new' ?_ | refine Ext.setF ?_ (by first | assumption | (simp [new_nx', St.set, fresh_none]; done) | exact ext_fresh (by assumption)))) ?_; simp [-cellOK, a2, a3, nw_cells, qy_cells, k0, k1, new_m, set_m, new_nx']) | ((first | refine awp_reg ?_ | refine awp_drawT (fun _ => false) mixed (by decide +kernel) ?_ | refine awp_drawT isCallO mixed (by decide +kernel) ?_); simp [-cellOK, a2, a3, nw_cells, qy_cells, k0, k1]) | (refine guarded_split ?_ ?_ <;> (intro hg; simp only [hg]; simp [-cellOK, a2, a3, nw_cells, qy_cells, k0, k1])) | (apply awp_cond_t; focus (simp [-cellOK, a2, a3, nw_cells, qy_cells, k0, k1]; done)) | (apply awp_cond_f; focus (simp [-cellOK, a2, a3, nw_cells, qy_cells, k0, k1]; done)) | (refine awp_cond ?_; simp [-cellOK, a2, a3, nw_cells, qy_cells, k0, k1]; refine ⟨?_, ?_⟩ <;> intro hc) | fail)
  by_cases k2 : q.r.hi < q.r.lo
  · (try ((first | with_reducible refine dops_go ?_ | with_reducible refine OKv_go ?_ | with_reducible refine OKr_go ?_); simp [-cellOK, a2, a3, nw_cells, qy_cells, k0, k1, k2])); repeat' (first | refine awp_seq ?_ | refine awp_block ?_ | (refine awp_skip ?_; try simp) | (refine awp_exit ?_; try simp) | (refine awp_ret ?_; try simp) | (refine retP_same (by simp) ?_; simp) | (refine retP_no (by simp) (by simp [noIds]) (by repeat (first | assumption | exact Ext.refl _ | refine ext_new' ?_ | refine Ext.setF ?_ (by first | assumption | (simp [new_nx', St.set, fresh_none]; done) | exact ext_fresh (by assumption)))) ?_; simp [-cellOK, a2, a3, nw_cells, qy_cells, k0, k1, k2, new_m, set_m, new_nx']) | ((first | refine awp_reg ?_ | refine awp_drawT (fun _ => false) mixed (by decide +kernel) ?_ | refine awp_drawT isCallO mixed (by decide +kernel) ?_); simp [-cellOK, a2, a3, nw_cells, qy_cells, k0, k1, k2]) | (refine guarded_split ?_ ?_ <;> (intro hg; simp only [hg]; simp [-cellOK, a2, a3, nw_cells, qy_cells, k0, k1, k2])) | (apply awp_cond_t; focus (simp [-cellOK, a2, a3, nw_cells, qy_cells, k0, k1, k2]; done)) | (apply awp_cond_f; focus (simp [-cellOK, a2, a3, nw_cells, qy_cells, k0, k1, k2]; done)) | (refine awp_cond ?_; simp [-cellOK, a2, a3, nw_cells, qy_cells, k0, k1, k2]; refine ⟨?_, ?_⟩ <;> intro hc) | fail)
  (try ((first | with_reducible refine dops_go ?_ | with_reducible refine OKv_go ?_ | with_reducible refine OKr_go ?_); simp [-cellOK, a2, a3, nw_cells, qy_cells, k0, k1, k2])); repeat' (first | refine awp_seq ?_ | refine awp_block ?_ | (refine awp_skip ?_; try simp) | (refine awp_exit ?_; try simp) | (refine awp_ret ?_; try simp) | (refine retP_same (by simp) ?_; simp) | (refine retP_no (by simp) (by simp [noIds]) (by repeat (first | assumption | exact Ext.refl _ | refine ext_new' ?_ | refine Ext.setF ?_ (by first | assumption | (simp [new_nx', St.set, fresh_none]; done) | exact ext_fresh (by assumption)))) ?_; simp [-cellOK, a2, a3, nw_cells, qy_cells, k0, k1, k2, new_m, set_m, new_nx']) | ((first | refine awp_reg ?_ | refine awp_drawT (fun _ => false) mixed (by decide +kernel) ?_ | refine awp_drawT isCallO mixed (by decide +kernel) ?_); simp [-cellOK, a2, a3, nw_cells, qy_cells, k0, k1, k2]) | (refine guarded_split ?_ ?_ <;> (intro hg; simp only [hg]; simp [-cellOK, a2, a3, nw_cells, qy_cells, k0, k1, k2])) | (apply awp_cond_t; focus (simp [-cellOK, a2, a3, nw_cells, qy_cells, k0, k1, k2]; done)) | (apply awp_cond_f; focus (simp [-cellOK, a2, a3, nw_cells, qy_cells, k0, k1, k2]; done)) | (refine awp_cond ?_; simp [-cellOK, a2, a3, nw_cells, qy_cells, k0, k1, k2]; refine ⟨?_, ?_⟩ <;> intro hc) | fail)
  refine hc.useFz (σ0 := σ) ⟨29, τ.nx 29, 1⟩ (ext_fresh hE) (by repeat (first | assumption | exact Ext.refl _ | refine ext_new' ?_ | refine Ext.setF ?_ (by first | assumption | (simp [new_nx', St.set, fresh_none]; done) | exact ext_fresh (by assumption)))) (by simp [giveUp, new_m, nw_cells, intsAV, iAV]) ?_
  intro τ' hE' _ _
  cases nb with
  | true => (try ((first | with_reducible refine dops_go ?_ | with_reducible refine OKv_go ?_ | with_reducible refine OKr_go ?_); simp [-cellOK, a2, a3, nw_cells, qy_cells, k0, k1, k2])); repeat' (first | refine awp_seq ?_ | refine awp_block ?_ | (refine awp_skip ?_; try simp) | (refine awp_exit ?_; try simp) | (refine awp_ret ?_; try simp) | (refine retP_same (by simp) ?_; simp) | (refine retP_no (by simp) (by simp [noIds]) (by repeat (first | assumption | exact Ext.refl _ | refine ext_new' ?_ | refine Ext.setF ?_ (by first | assumption | (simp [new_nx', St.set, fresh_none]; done) | exact ext_fresh (by assumption)))) ?_; simp [-cellOK, a2, a3, nw_cells, qy_cells, k0, k1, k2, new_m, set_m, new_nx']) | ((first | refine awp_reg ?_ | refine awp_drawT (fun _ => false) mixed (by decide +kernel) ?_ | refine awp_drawT isCallO mixed (by decide +kernel) ?_); simp [-cellOK, a2, a3, nw_cells, qy_cells, k0, k1, k2]) | (refine guarded_split ?_ ?_ <;> (intro hg; simp only [hg]; simp [-cellOK, a2, a3, nw_cells, qy_cells, k0, k1, k2])) | (apply awp_cond_t; focus (simp [-cellOK, a2, a3, nw_cells, qy_cells, k0, k1, k2]; done)) | (apply awp_cond_f; focus (simp [-cellOK, a2, a3, nw_cells, qy_cells, k0, k1, k2]; done)) | (refine awp_cond ?_; simp [-cellOK, a2, a3, nw_cells, qy_cells, k0, k1, k2]; refine ⟨?_, ?_⟩ <;> intro hc) | fail)
  | false =>
    (try ((first | with_reducible refine dops_go ?_ | with_reducible refine OKv_go ?_ | with_reducible refine OKr_go ?_); simp [-cellOK, a2, a3, nw_cells, qy_cells, qy_fold, k0, k1, k2])); repeat' (first | refine awp_seq ?_ | refine awp_block ?_ | (refine awp_skip ?_; try simp) | (refine awp_exit ?_; try simp) | (refine awp_ret ?_; try simp) | (refine retP_same (by simp) ?_; simp) | (refine retP_no (by simp) (by simp [noIds]) (by repeat (first | assumption | exact Ext.refl _ | refine ext_new' ?_ | refine Ext.setF ?_ (by first | assumption | (simp [new_nx', St.set, fresh_none]; done) | exact ext_fresh (by assumption)))) ?_; simp [-cellOK, a2, a3, nw_cells, qy_cells, qy_fold, k0, k1, k2, new_m, set_m, new_nx']) | ((first | refine awp_reg ?_ | refine awp_drawT (fun _ => false) mixed (by decide +kernel) ?_ | refine awp_drawT isCallO mixed (by decide +kernel) ?_); simp [-cellOK, a2, a3, nw_cells, qy_cells, qy_fold, k0, k1, k2]) | (refine guarded_split ?_ ?_ <;> (intro hg; simp only [hg]; simp [-cellOK, a2, a3, nw_cells, qy_cells, qy_fold, k0, k1, k2])) | (apply awp_cond_t; focus (simp [-cellOK, a2, a3, nw_cells, qy_cells, qy_fold, k0, k1, k2]; done)) | (apply awp_cond_f; focus (simp [-cellOK, a2, a3, nw_cells, qy_cells, qy_fold, k0, k1, k2]; done)) | (refine awp_cond ?_; simp [-cellOK, a2, a3, nw_cells, qy_cells, qy_fold, k0, k1, k2]; refine ⟨?_, ?_⟩ <;> intro hc) | fail)
    refine hs.use ?_
    cases sb <;> by_cases qa : q.a = 0 <;> by_cases qb : q.b = 0 <;> by_cases k4 : q.kind = 4 <;> by_cases qw : q.w = 0 <;> by_cases k5 : q.kind = 5 <;> (first | (exfalso; omega) | ((try ((first | with_reducible refine dops_go ?_ | with_reducible refine OKv_go ?_ | with_reducible refine OKr_go ?_); simp [-cellOK, a2, a3, nw_cells, qy_cells, k0, k1, k2, qa, qb, qw, k4, k5, -opBin, opBin_raw, hstr])); repeat' (first | refine awp_seq ?_ | refine awp_block ?_ | (refine awp_skip ?_; try simp) | (refine awp_exit ?_; try simp) | (refine awp_ret ?_; try simp) | (refine retP_same (by simp) ?_; simp) | (refine retP_no (by simp) (by simp [noIds]) (by repeat (first | assumption | exact Ext.refl _ | refine ext_new' ?_ | refine Ext.setF ?_ (by first | assumption | (simp [new_nx', St.set, fresh_none]; done) | exact ext_fresh (by assumption)))) ?_; simp [-cellOK, a2, a3, nw_cells, qy_cells, k0, k1, k2, qa, qb, qw, k4, k5, -opBin, opBin_raw, hstr, new_m, set_m, new_nx']) | ((first | refine awp_reg ?_ | refine awp_drawT (fun _ => false) mixed (by decide +kernel) ?_ | refine awp_drawT isCallO mixed (by decide +kernel) ?_); simp [-cellOK, a2, a3, nw_cells, qy_cells, k0, k1, k2, qa, qb, qw, k4, k5, -opBin, opBin_raw, hstr]) | (refine guarded_split ?_ ?_ <;> (intro hg; simp only [hg]; simp [-cellOK, a2, a3, nw_cells, qy_cells, k0, k1, k2, qa, qb, qw, k4, k5, -opBin, opBin_raw, hstr])) | (apply awp_cond_t; focus (simp [-cellOK, a2, a3, nw_cells, qy_cells, k0, k1, k2, qa, qb, qw, k4, k5, -opBin, opBin_raw, hstr]; done)) | (apply awp_cond_f; focus (simp [-cellOK, a2, a3, nw_cells, qy_cells, k0, k1, k2, qa, qb, qw, k4, k5, -opBin, opBin_raw, hstr]; done)) | (refine awp_cond ?_; simp [-cellOK, a2, a3, nw_cells, qy_cells, k0, k1, k2, qa, qb, qw, k4, k5, -opBin, opBin_raw, hstr]; refine ⟨?_, ?_⟩ <;> intro hc) | fail)))
def sourcesQ (n : Nw) (q : Qy) : List Int := if singleB q = true then [q.a] else (List.range n.t.ports.length).map fun i : Nat => (i : Int)
theorem sources_calls (n : Nw) (f : Fl) (q : Qy) (hl : n.t.ports.length < 2 ^ 44) : PCalls Try.prog 18 [nwAV n f, qyAV q] (intsAV (sourcesQ n q) false) := by
  have hs := single_calls q
  unfold sourcesQ
  generalize singleB q = sb at hs ⊢
  refine pbody Try.func18 rfl (N := 25) rfl rfl (by simp) (by simp [noIds]) fun σ => ?_
  have hp : ∀ m, opLen Try.prog m 22 (intsAV n.t.ports f.p) = some (.raw (.int .i64 n.t.ports.length)) := fun m => by simp [intsAV]
  cases sb with
  | true =>
    (try ((first | with_reducible refine dops_go ?_ | with_reducible refine OKv_go ?_ | with_reducible refine OKr_go ?_); simp [-cellOK, nw_cells, qy_cells, qy_fold, new_m, new_nx'])); repeat' (first | refine awp_seq ?_ | refine awp_block ?_ | (refine awp_skip ?_; try simp) | (refine awp_exit ?_; try simp) | (refine awp_ret ?_; try simp) | ((first | refine awp_reg ?_ | refine awp_drawT (fun _ => false) mixed (by decide +kernel) ?_ | refine awp_drawT isCallO mixed (by decide +kernel) ?_ | refine PCalls.use (hs) ?_ | refine Or.inl ⟨_, Or.inl (hs), ?_⟩); simp [-cellOK, nw_cells, qy_cells, qy_fold, new_m, new_nx']) | (refine guarded_split ?_ ?_ <;> (intro hg; simp only [hg]; simp [-cellOK, nw_cells, qy_cells, qy_fold, new_m, new_nx'])) | (apply awp_cond_t; focus (simp [-cellOK, nw_cells, qy_cells, qy_fold, new_m, new_nx']; done)) | (apply awp_cond_f; focus (simp [-cellOK, nw_cells, qy_cells, qy_fold, new_m, new_nx']; done)) | (refine awp_cond ?_; simp [-cellOK, nw_cells, qy_cells, qy_fold, new_m, new_nx']; refine ⟨?_, ?_⟩ <;> intro hc) | fail)
    refine retP_give (x := .rs ⟨11, σ.nx 11, 1⟩ 0 1) (.inr rfl) (by repeat (first | assumption | exact Ext.refl _ | refine ext_new' ?_ | refine Ext.setF ?_ (by first | assumption | (simp [new_nx', St.set, fresh_none]; done) | exact ext_fresh (by assumption)))) ?_ ?_
    · simp [new_nx']
    · simp [giveUps, giveUp, fresh_none, new_m, new_nx', intsAV, iAV]
  | false =>
    (try ((first | with_reducible refine dops_go ?_ | with_reducible refine OKv_go ?_ | with_reducible refine OKr_go ?_); simp [-cellOK, nw_cells, qy_cells, qy_fold, new_m, new_nx', -opLen, hp])); repeat' (first | refine awp_seq ?_ | refine awp_block ?_ | (refine awp_skip ?_; try simp) | (refine awp_exit ?_; try simp) | (refine awp_ret ?_; try simp) | (refine retP_same (by simp) ?_; simp) | (refine retP_no (by simp) (by simp [noIds]) (by repeat (first | assumption | exact Ext.refl _ | refine ext_new' ?_ | refine Ext.setF ?_ (by first | assumption | (simp [new_nx', St.set, fresh_none]; done) | exact ext_fresh (by assumption)))) ?_; simp [-cellOK, nw_cells, qy_cells, qy_fold, new_m, new_nx', -opLen, hp, new_m, set_m, new_nx']) | ((first | refine awp_reg ?_ | refine awp_drawT (fun _ => false) mixed (by decide +kernel) ?_ | refine awp_drawT isCallO mixed (by decide +kernel) ?_ | refine PCalls.use (hs) ?_ | refine Or.inl ⟨_, Or.inl (hs), ?_⟩); simp [-cellOK, nw_cells, qy_cells, qy_fold, new_m, new_nx', -opLen, hp]) | (refine guarded_split ?_ ?_ <;> (intro hg; simp only [hg]; simp [-cellOK, nw_cells, qy_cells, qy_fold, new_m, new_nx', -opLen, hp])) | (apply awp_cond_t; focus (simp [-cellOK, nw_cells, qy_cells, qy_fold, new_m, new_nx', -opLen, hp]; done)) | (apply awp_cond_f; focus (simp [-cellOK, nw_cells, qy_cells, qy_fold, new_m, new_nx', -opLen, hp]; done)) | (refine awp_cond ?_; simp [-cellOK, nw_cells, qy_cells, qy_fold, new_m, new_nx', -opLen, hp]; refine ⟨?_, ?_⟩ <;> intro hc) | fail)
    refine awp_loopH (fun n' B ρ => Ext σ ρ ∧ B 15 = .raw (.int .i64 n.t.ports.length) ∧ ∃ (i : Nat) (v : AV), B 16 = .raw (.int .i64 i) ∧ i ≤ n.t.ports.length ∧ n' = n.t.ports.length - i ∧ B 5 = v ∧ OwnL σ ρ 1 v (((List.range i).map fun i : Nat => (i : Int)).map iAV)) n.t.ports.length ?_ ?_
    · exact ⟨(by repeat (first | assumption | exact Ext.refl _ | refine ext_new' ?_ | refine Ext.setF ?_ (by first | assumption | (simp [new_nx', St.set, fresh_none]; done) | exact ext_fresh (by assumption)))), by simp, 0, .sl 0 [] true, by simp, by omega, by omega, by simp, .inl ⟨by simp, rfl⟩⟩
    rintro n' B ρ ⟨hE, a15, i, v, a16, hi, rfl, a5, hO⟩ I1 hI1
    by_cases hlt : i < n.t.ports.length
    · have w1 : IntKind.i64.wrap ((i : Int) + 1) = ((i + 1 : Nat) : Int) := by rw [wrap64 (by omega) (by omega)]; omega
      (try ((first | with_reducible refine dops_go ?_ | with_reducible refine OKv_go ?_ | with_reducible refine OKr_go ?_); simp [-cellOK, a5, a15, a16, hlt, w1, -opAppend])); repeat' (first | refine awp_seq ?_ | refine awp_block ?_ | (refine awp_skip ?_; try simp) | (refine awp_exit ?_; try simp) | (refine awp_ret ?_; try simp) | (refine retP_same (by simp) ?_; simp) | (refine retP_no (by simp) (by simp [noIds]) (by repeat (first | assumption | exact Ext.refl _ | refine ext_new' ?_ | refine Ext.setF ?_ (by first | assumption | (simp [new_nx', St.set, fresh_none]; done) | exact ext_fresh (by assumption)))) ?_; simp [-cellOK, a5, a15, a16, hlt, w1, -opAppend, new_m, set_m, new_nx']) | ((first | refine awp_reg ?_ | refine awp_drawT (fun _ => false) mixed (by decide +kernel) ?_ | refine awp_drawT isCallO mixed (by decide +kernel) ?_); simp [-cellOK, a5, a15, a16, hlt, w1, -opAppend]) | (refine guarded_split ?_ ?_ <;> (intro hg; simp only [hg]; simp [-cellOK, a5, a15, a16, hlt, w1, -opAppend])) | (apply awp_cond_t; focus (simp [-cellOK, a5, a15, a16, hlt, w1, -opAppend]; done)) | (apply awp_cond_f; focus (simp [-cellOK, a5, a15, a16, hlt, w1, -opAppend]; done)) | (refine awp_cond ?_; simp [-cellOK, a5, a15, a16, hlt, w1, -opAppend]; refine ⟨?_, ?_⟩ <;> intro hc) | fail)
      refine okr_append slt22 (σ0 := σ) (hO.ext (by repeat (first | assumption | exact Ext.refl _ | refine ext_new' ?_ | refine Ext.setF ?_ (by first | assumption | (simp [new_nx', St.set, fresh_none]; done) | exact ext_fresh (by assumption))))) (by repeat (first | assumption | exact Ext.refl _ | refine ext_new' ?_ | refine Ext.setF ?_ (by first | assumption | (simp [new_nx', St.set, fresh_none]; done) | exact ext_fresh (by assumption)))) (ys := [iAV i]) (by simp [new_m, new_nx', iAV]) (.inr rfl) (by simp [iAV]) (by simp; omega) ?_
      intro v' τ' hO' hE' _ _
      (try ((first | with_reducible refine dops_go ?_ | with_reducible refine OKv_go ?_ | with_reducible refine OKr_go ?_); simp [-cellOK, a5, a15, a16, w1])); repeat' (first | refine awp_seq ?_ | refine awp_block ?_ | (refine awp_skip ?_; try simp) | (refine awp_exit ?_; try simp) | (refine awp_ret ?_; try simp) | (refine retP_same (by simp) ?_; simp) | (refine retP_no (by simp) (by simp [noIds]) (by repeat (first | assumption | exact Ext.refl _ | refine ext_new' ?_ | refine Ext.setF ?_ (by first | assumption | (simp [new_nx', St.set, fresh_none]; done) | exact ext_fresh (by assumption)))) ?_; simp [-cellOK, a5, a15, a16, w1, new_m, set_m, new_nx']) | ((first | refine awp_reg ?_ | refine awp_drawT (fun _ => false) mixed (by decide +kernel) ?_ | refine awp_drawT isCallO mixed (by decide +kernel) ?_); simp [-cellOK, a5, a15, a16, w1]) | (refine guarded_split ?_ ?_ <;> (intro hg; simp only [hg]; simp [-cellOK, a5, a15, a16, w1])) | (apply awp_cond_t; focus (simp [-cellOK, a5, a15, a16, w1]; done)) | (apply awp_cond_f; focus (simp [-cellOK, a5, a15, a16, w1]; done)) | (refine awp_cond ?_; simp [-cellOK, a5, a15, a16, w1]; refine ⟨?_, ?_⟩ <;> intro hc) | fail)
      refine hI1 (n.t.ports.length - (i + 1)) _ _ (by omega) ⟨hE', by simp [a15], i + 1, v', by simp, by omega, rfl, by simp, ?_⟩
      rw [List.range_succ, List.map_append, List.map_append]
      exact hO'
    · have : i = n.t.ports.length := by omega
      subst this
      (try ((first | with_reducible refine dops_go ?_ | with_reducible refine OKv_go ?_ | with_reducible refine OKr_go ?_); simp [-cellOK, a5, a15, a16])); repeat' (first | refine awp_seq ?_ | refine awp_block ?_ | (refine awp_skip ?_; try simp) | (refine awp_exit ?_; try simp) | (refine awp_ret ?_; try simp) | ((first | refine awp_reg ?_ | refine awp_drawT (fun _ => false) mixed (by decide +kernel) ?_ | refine awp_drawT isCallO mixed (by decide +kernel) ?_); simp [-cellOK, a5, a15, a16]) | (refine guarded_split ?_ ?_ <;> (intro hg; simp only [hg]; simp [-cellOK, a5, a15, a16])) | (apply awp_cond_t; focus (simp [-cellOK, a5, a15, a16]; done)) | (apply awp_cond_f; focus (simp [-cellOK, a5, a15, a16]; done)) | (refine awp_cond ?_; simp [-cellOK, a5, a15, a16]; refine ⟨?_, ?_⟩ <;> intro hc) | fail)
      exact retP_own (v := v) (.inr rfl) (by simp) hO hE
def breaksQ (q : Qy) (t u : Tk) : Bool :=
  if q.kind = 0 then !leavesB t q.b else if q.kind = 1 then decide (t.out = 4) else if q.kind = 2 then decide (t.out = 0) else if q.kind = 3 then comesB t q.b else if q.kind = 4 then leavesB t q.b && !comesB t q.w else if q.kind = 5 then !decide (t = u) else false
theorem breaks_calls (n m : Nw) (f g : Fl) (q : Qy) (t u : Tk) (ft fu : Bool) (ht : t.path.length < 2 ^ 60) (hu : u.path.length < 2 ^ 60) :
    PCalls Try.prog 17 [nwAV n f, nwAV m g, qyAV q, tkAV t ft, tkAV u fu] (.raw (.bool (breaksQ q t u))) := by
  have h0 := brk0_calls q t u ft fu
  have h1 := brk1_calls q t u ft fu
  have h2 := brk2_calls q t u ft fu
  have h3 := brk3_calls q t u ft fu ht
  have h4 := brk4_calls q t u ft fu ht
  have h5 := brk5_calls q t u ft fu ht hu
  have hb := broken_calls
  unfold brkAV at hb
  unfold breaksQ
  refine pbody Try.func17 rfl (N := 29) rfl rfl (by simp) (by simp [noIds]) fun σ => ?_
  by_cases k0 : q.kind < 0
  · rw [if_neg (by omega), if_neg (by omega), if_neg (by omega), if_neg (by omega), if_neg (by omega), if_neg (by omega)]
    have k0' : ¬ 0 ≤ q.kind := by omega
    (try ((first | with_reducible refine dops_go ?_ | with_reducible refine OKv_go ?_ | with_reducible refine OKr_go ?_); simp [-cellOK, nw_cells, qy_cells, tk_cells, k0'])); repeat' (first | refine awp_seq ?_ | refine awp_block ?_ | (refine awp_skip ?_; try simp) | (refine awp_exit ?_; try simp) | (refine awp_ret ?_; try simp) | (refine retP_same (by simp) ?_; simp) | (refine retP_no (by simp) (by simp [noIds]) (by repeat (first | assumption | exact Ext.refl _ | refine ext_new' ?_ | refine Ext.setF ?_ (by first | assumption | (simp [new_nx', St.set, fresh_none]; done) | exact ext_fresh (by assumption)))) ?_; simp [-cellOK, nw_cells, qy_cells, tk_cells, k0', new_m, set_m, new_nx']) | ((first | refine awp_reg ?_ | refine awp_drawT (fun _ => false) mixed (by decide +kernel) ?_ | refine awp_drawT isCallO mixed (by decide +kernel) ?_); simp [-cellOK, nw_cells, qy_cells, tk_cells, k0']) | (refine guarded_split ?_ ?_ <;> (intro hg; simp only [hg]; simp [-cellOK, nw_cells, qy_cells, tk_cells, k0'])) | (apply awp_cond_t; focus (simp [-cellOK, nw_cells, qy_cells, tk_cells, k0']; done)) | (apply awp_cond_f; focus (simp [-cellOK, nw_cells, qy_cells, tk_cells, k0']; done)) | (refine awp_cond ?_; simp [-cellOK, nw_cells, qy_cells, tk_cells, k0']; refine ⟨?_, ?_⟩ <;> intro hc) | fail)
  have k0' : 0 ≤ q.kind := by omega
  by_cases k6 : q.kind < 6
  · have : q.kind = 0 ∨ q.kind = 1 ∨ q.kind = 2 ∨ q.kind = 3 ∨ q.kind = 4 ∨ q.kind = 5 := by omega
    rcases this with k | k | k | k | k | k
    · have hf : AV.agg [.raw (.int .i64 0), .raw (.int .i64 q.a), .raw (.int .i64 q.b), .raw (.int .i64 q.w), .raw (.int .u32 q.r.lo), .raw (.int .u32 q.r.hi), .raw (.string q.other)] = qyAV q := by rw [← k]; rfl
      rw [if_pos k]
      (try ((first | with_reducible refine dops_go ?_ | with_reducible refine OKv_go ?_ | with_reducible refine OKr_go ?_); simp [-cellOK, nw_cells, nw_fold, qy_cells, hf, tk_cells, tk_fold, k])); repeat' (first | refine awp_seq ?_ | refine awp_block ?_ | (refine awp_skip ?_; try simp) | (refine awp_exit ?_; try simp) | (refine awp_ret ?_; try simp) | (refine retP_same (by simp) ?_; simp) | (refine retP_no (by simp) (by simp [noIds]) (by repeat (first | assumption | exact Ext.refl _ | refine ext_new' ?_ | refine Ext.setF ?_ (by first | assumption | (simp [new_nx', St.set, fresh_none]; done) | exact ext_fresh (by assumption)))) ?_; simp [-cellOK, nw_cells, nw_fold, qy_cells, hf, tk_cells, tk_fold, k, new_m, set_m, new_nx']) | ((first | refine awp_reg ?_ | refine awp_drawT (fun _ => false) mixed (by decide +kernel) ?_ | refine awp_drawT isCallO mixed (by decide +kernel) ?_ | refine PCalls.use (hb) ?_ | refine Or.inl ⟨_, Or.inl (hb), ?_⟩ | refine PCalls.use (h0) ?_ | refine Or.inl ⟨_, Or.inl (h0), ?_⟩); simp [-cellOK, nw_cells, nw_fold, qy_cells, hf, tk_cells, tk_fold, k]) | (refine guarded_split ?_ ?_ <;> (intro hg; simp only [hg]; simp [-cellOK, nw_cells, nw_fold, qy_cells, hf, tk_cells, tk_fold, k])) | (apply awp_cond_t; focus (simp [-cellOK, nw_cells, nw_fold, qy_cells, hf, tk_cells, tk_fold, k]; done)) | (apply awp_cond_f; focus (simp [-cellOK, nw_cells, nw_fold, qy_cells, hf, tk_cells, tk_fold, k]; done)) | (refine awp_cond ?_; simp [-cellOK, nw_cells, nw_fold, qy_cells, hf, tk_cells, tk_fold, k]; refine ⟨?_, ?_⟩ <;> intro hc) | fail)
    · have hf : AV.agg [.raw (.int .i64 1), .raw (.int .i64 q.a), .raw (.int .i64 q.b), .raw (.int .i64 q.w), .raw (.int .u32 q.r.lo), .raw (.int .u32 q.r.hi), .raw (.string q.other)] = qyAV q := by rw [← k]; rfl
      rw [if_neg (by omega), if_pos k]
      (try ((first | with_reducible refine dops_go ?_ | with_reducible refine OKv_go ?_ | with_reducible refine OKr_go ?_); simp [-cellOK, nw_cells, nw_fold, qy_cells, hf, tk_cells, tk_fold, k])); repeat' (first | refine awp_seq ?_ | refine awp_block ?_ | (refine awp_skip ?_; try simp) | (refine awp_exit ?_; try simp) | (refine awp_ret ?_; try simp) | (refine retP_same (by simp) ?_; simp) | (refine retP_no (by simp) (by simp [noIds]) (by repeat (first | assumption | exact Ext.refl _ | refine ext_new' ?_ | refine Ext.setF ?_ (by first | assumption | (simp [new_nx', St.set, fresh_none]; done) | exact ext_fresh (by assumption)))) ?_; simp [-cellOK, nw_cells, nw_fold, qy_cells, hf, tk_cells, tk_fold, k, new_m, set_m, new_nx']) | ((first | refine awp_reg ?_ | refine awp_drawT (fun _ => false) mixed (by decide +kernel) ?_ | refine awp_drawT isCallO mixed (by decide +kernel) ?_ | refine PCalls.use (hb) ?_ | refine Or.inl ⟨_, Or.inl (hb), ?_⟩ | refine PCalls.use (h1) ?_ | refine Or.inl ⟨_, Or.inl (h1), ?_⟩); simp [-cellOK, nw_cells, nw_fold, qy_cells, hf, tk_cells, tk_fold, k]) | (refine guarded_split ?_ ?_ <;> (intro hg; simp only [hg]; simp [-cellOK, nw_cells, nw_fold, qy_cells, hf, tk_cells, tk_fold, k])) | (apply awp_cond_t; focus (simp [-cellOK, nw_cells, nw_fold, qy_cells, hf, tk_cells, tk_fold, k]; done)) | (apply awp_cond_f; focus (simp [-cellOK, nw_cells, nw_fold, qy_cells, hf, tk_cells, tk_fold, k]; done)) | (refine awp_cond ?_; simp [-cellOK, nw_cells, nw_fold, qy_cells, hf, tk_cells, tk_fold, k]; refine ⟨?_, ?_⟩ <;> intro hc) | fail)
    · have hf : AV.agg [.raw (.int .i64 2), .raw (.int .i64 q.a), .raw (.int .i64 q.b), .raw (.int .i64 q.w), .raw (.int .u32 q.r.lo), .raw (.int .u32 q.r.hi), .raw (.string q.other)] = qyAV q := by rw [← k]; rfl
      rw [if_neg (by omega), if_neg (by omega), if_pos k]
      (try ((first | with_reducible refine dops_go ?_ | with_reducible refine OKv_go ?_ | with_reducible refine OKr_go ?_); simp [-cellOK, nw_cells, nw_fold, qy_cells, hf, tk_cells, tk_fold, k])); repeat' (first | refine awp_seq ?_ | refine awp_block ?_ | (refine awp_skip ?_; try simp) | (refine awp_exit ?_; try simp) | (refine awp_ret ?_; try simp) | (refine retP_same (by simp) ?_; simp) | (refine retP_no (by simp) (by simp [noIds]) (by repeat (first | assumption | exact Ext.refl _ | refine ext_new' ?_ | refine Ext.setF ?_ (by first | assumption | (simp [new_nx', St.set, fresh_none]; done) | exact ext_fresh (by assumption)))) ?_; simp [-cellOK, nw_cells, nw_fold, qy_cells, hf, tk_cells, tk_fold, k, new_m, set_m, new_nx']) | ((first | refine awp_reg ?_ | refine awp_drawT (fun _ => false) mixed (by decide +kernel) ?_ | refine awp_drawT isCallO mixed (by decide +kernel) ?_ | refine PCalls.use (hb) ?_ | refine Or.inl ⟨_, Or.inl (hb), ?_⟩ | refine PCalls.use (h2) ?_ | refine Or.inl ⟨_, Or.inl (h2), ?_⟩); simp [-cellOK, nw_cells, nw_fold, qy_cells, hf, tk_cells, tk_fold, k]) | (refine guarded_split ?_ ?_ <;> (intro hg; simp only [hg]; simp [-cellOK, nw_cells, nw_fold, qy_cells, hf, tk_cells, tk_fold, k])) | (apply awp_cond_t; focus (simp [-cellOK, nw_cells, nw_fold, qy_cells, hf, tk_cells, tk_fold, k]; done)) | (apply awp_cond_f; focus (simp [-cellOK, nw_cells, nw_fold, qy_cells, hf, tk_cells, tk_fold, k]; done)) | (refine awp_cond ?_; simp [-cellOK, nw_cells, nw_fold, qy_cells, hf, tk_cells, tk_fold, k]; refine ⟨?_, ?_⟩ <;> intro hc) | fail)
    · have hf : AV.agg [.raw (.int .i64 3), .raw (.int .i64 q.a), .raw (.int .i64 q.b), .raw (.int .i64 q.w), .raw (.int .u32 q.r.lo), .raw (.int .u32 q.r.hi), .raw (.string q.other)] = qyAV q := by rw [← k]; rfl
      rw [if_neg (by omega), if_neg (by omega), if_neg (by omega), if_pos k]
      (try ((first | with_reducible refine dops_go ?_ | with_reducible refine OKv_go ?_ | with_reducible refine OKr_go ?_); simp [-cellOK, nw_cells, nw_fold, qy_cells, hf, tk_cells, tk_fold, k])); repeat' (first | refine awp_seq ?_ | refine awp_block ?_ | (refine awp_skip ?_; try simp) | (refine awp_exit ?_; try simp) | (refine awp_ret ?_; try simp) | (refine retP_same (by simp) ?_; simp) | (refine retP_no (by simp) (by simp [noIds]) (by repeat (first | assumption | exact Ext.refl _ | refine ext_new' ?_ | refine Ext.setF ?_ (by first | assumption | (simp [new_nx', St.set, fresh_none]; done) | exact ext_fresh (by assumption)))) ?_; simp [-cellOK, nw_cells, nw_fold, qy_cells, hf, tk_cells, tk_fold, k, new_m, set_m, new_nx']) | ((first | refine awp_reg ?_ | refine awp_drawT (fun _ => false) mixed (by decide +kernel) ?_ | refine awp_drawT isCallO mixed (by decide +kernel) ?_ | refine PCalls.use (hb) ?_ | refine Or.inl ⟨_, Or.inl (hb), ?_⟩ | refine PCalls.use (h3) ?_ | refine Or.inl ⟨_, Or.inl (h3), ?_⟩); simp [-cellOK, nw_cells, nw_fold, qy_cells, hf, tk_cells, tk_fold, k]) | (refine guarded_split ?_ ?_ <;> (intro hg; simp only [hg]; simp [-cellOK, nw_cells, nw_fold, qy_cells, hf, tk_cells, tk_fold, k])) | (apply awp_cond_t; focus (simp [-cellOK, nw_cells, nw_fold, qy_cells, hf, tk_cells, tk_fold, k]; done)) | (apply awp_cond_f; focus (simp [-cellOK, nw_cells, nw_fold, qy_cells, hf, tk_cells, tk_fold, k]; done)) | (refine awp_cond ?_; simp [-cellOK, nw_cells, nw_fold, qy_cells, hf, tk_cells, tk_fold, k]; refine ⟨?_, ?_⟩ <;> intro hc) | fail)
    · have hf : AV.agg [.raw (.int .i64 4), .raw (.int .i64 q.a), .raw (.int .i64 q.b), .raw (.int .i64 q.w), .raw (.int .u32 q.r.lo), .raw (.int .u32 q.r.hi), .raw (.string q.other)] = qyAV q := by rw [← k]; rfl
      rw [if_neg (by omega), if_neg (by omega), if_neg (by omega), if_neg (by omega), if_pos k]
      (try ((first | with_reducible refine dops_go ?_ | with_reducible refine OKv_go ?_ | with_reducible refine OKr_go ?_); simp [-cellOK, nw_cells, nw_fold, qy_cells, hf, tk_cells, tk_fold, k])); repeat' (first | refine awp_seq ?_ | refine awp_block ?_ | (refine awp_skip ?_; try simp) | (refine awp_exit ?_; try simp) | (refine awp_ret ?_; try simp) | (refine retP_same (by simp) ?_; simp) | (refine retP_no (by simp) (by simp [noIds]) (by repeat (first | assumption | exact Ext.refl _ | refine ext_new' ?_ | refine Ext.setF ?_ (by first | assumption | (simp [new_nx', St.set, fresh_none]; done) | exact ext_fresh (by assumption)))) ?_; simp [-cellOK, nw_cells, nw_fold, qy_cells, hf, tk_cells, tk_fold, k, new_m, set_m, new_nx']) | ((first | refine awp_reg ?_ | refine awp_drawT (fun _ => false) mixed (by decide +kernel) ?_ | refine awp_drawT isCallO mixed (by decide +kernel) ?_ | refine PCalls.use (hb) ?_ | refine Or.inl ⟨_, Or.inl (hb), ?_⟩ | refine PCalls.use (h4) ?_ | refine Or.inl ⟨_, Or.inl (h4), ?_⟩); simp [-cellOK, nw_cells, nw_fold, qy_cells, hf, tk_cells, tk_fold, k]) | (refine guarded_split ?_ ?_ <;> (intro hg; simp only [hg]; simp [-cellOK, nw_cells, nw_fold, qy_cells, hf, tk_cells, tk_fold, k])) | (apply awp_cond_t; focus (simp [-cellOK, nw_cells, nw_fold, qy_cells, hf, tk_cells, tk_fold, k]; done)) | (apply awp_cond_f; focus (simp [-cellOK, nw_cells, nw_fold, qy_cells, hf, tk_cells, tk_fold, k]; done)) | (refine awp_cond ?_; simp [-cellOK, nw_cells, nw_fold, qy_cells, hf, tk_cells, tk_fold, k]; refine ⟨?_, ?_⟩ <;> intro hc) | fail)
    · have hf : AV.agg [.raw (.int .i64 5), .raw (.int .i64 q.a), .raw (.int .i64 q.b), .raw (.int .i64 q.w), .raw (.int .u32 q.r.lo), .raw (.int .u32 q.r.hi), .raw (.string q.other)] = qyAV q := by rw [← k]; rfl
      rw [if_neg (by omega), if_neg (by omega), if_neg (by omega), if_neg (by omega), if_neg (by omega), if_pos k]
      (try ((first | with_reducible refine dops_go ?_ | with_reducible refine OKv_go ?_ | with_reducible refine OKr_go ?_); simp [-cellOK, nw_cells, nw_fold, qy_cells, hf, tk_cells, tk_fold, k])); repeat' (first | refine awp_seq ?_ | refine awp_block ?_ | (refine awp_skip ?_; try simp) | (refine awp_exit ?_; try simp) | (refine awp_ret ?_; try simp) | (refine retP_same (by simp) ?_; simp) | (refine retP_no (by simp) (by simp [noIds]) (by repeat (first | assumption | exact Ext.refl _ | refine ext_new' ?_ | refine Ext.setF ?_ (by first | assumption | (simp [new_nx', St.set, fresh_none]; done) | exact ext_fresh (by assumption)))) ?_; simp [-cellOK, nw_cells, nw_fold, qy_cells, hf, tk_cells, tk_fold, k, new_m, set_m, new_nx']) | ((first | refine awp_reg ?_ | refine awp_drawT (fun _ => false) mixed (by decide +kernel) ?_ | refine awp_drawT isCallO mixed (by decide +kernel) ?_ | refine PCalls.use (hb) ?_ | refine Or.inl ⟨_, Or.inl (hb), ?_⟩ | refine PCalls.use (h5) ?_ | refine Or.inl ⟨_, Or.inl (h5), ?_⟩); simp [-cellOK, nw_cells, nw_fold, qy_cells, hf, tk_cells, tk_fold, k]) | (refine guarded_split ?_ ?_ <;> (intro hg; simp only [hg]; simp [-cellOK, nw_cells, nw_fold, qy_cells, hf, tk_cells, tk_fold, k])) | (apply awp_cond_t; focus (simp [-cellOK, nw_cells, nw_fold, qy_cells, hf, tk_cells, tk_fold, k]; done)) | (apply awp_cond_f; focus (simp [-cellOK, nw_cells, nw_fold, qy_cells, hf, tk_cells, tk_fold, k]; done)) | (refine awp_cond ?_; simp [-cellOK, nw_cells, nw_fold, qy_cells, hf, tk_cells, tk_fold, k]; refine ⟨?_, ?_⟩ <;> intro hc) | fail)
  · rw [if_neg (by omega), if_neg (by omega), if_neg (by omega), if_neg (by omega), if_neg (by omega), if_neg (by omega)]
    (try ((first | with_reducible refine dops_go ?_ | with_reducible refine OKv_go ?_ | with_reducible refine OKr_go ?_); simp [-cellOK, nw_cells, qy_cells, tk_cells, k0', k6])); repeat' (first | refine awp_seq ?_ | refine awp_block ?_ | (refine awp_skip ?_; try simp) | (refine awp_exit ?_; try simp) | (refine awp_ret ?_; try simp) | (refine retP_same (by simp) ?_; simp) | (refine retP_no (by simp) (by simp [noIds]) (by repeat (first | assumption | exact Ext.refl _ | refine ext_new' ?_ | refine Ext.setF ?_ (by first | assumption | (simp [new_nx', St.set, fresh_none]; done) | exact ext_fresh (by assumption)))) ?_; simp [-cellOK, nw_cells, qy_cells, tk_cells, k0', k6, new_m, set_m, new_nx']) | ((first | refine awp_reg ?_ | refine awp_drawT (fun _ => false) mixed (by decide +kernel) ?_ | refine awp_drawT isCallO mixed (by decide +kernel) ?_); simp [-cellOK, nw_cells, qy_cells, tk_cells, k0', k6]) | (refine guarded_split ?_ ?_ <;> (intro hg; simp only [hg]; simp [-cellOK, nw_cells, qy_cells, tk_cells, k0', k6])) | (apply awp_cond_t; focus (simp [-cellOK, nw_cells, qy_cells, tk_cells, k0', k6]; done)) | (apply awp_cond_f; focus (simp [-cellOK, nw_cells, qy_cells, tk_cells, k0', k6]; done)) | (refine awp_cond ?_; simp [-cellOK, nw_cells, qy_cells, tk_cells, k0', k6]; refine ⟨?_, ?_⟩ <;> intro hc) | fail)
end Go.Proofs.Ytanimmdlgmkmkaa.Av


/- Queries: query.Run, query.Same. -/
namespace Go.Proofs.Ytanimmdlgmkmkaa.Av
open Go
set_option linter.unusedSimpArgs false
set_option linter.unusedVariables false
set_option maxRecDepth 100000
set_option maxHeartbeats 4000000
set_option pp.maxSteps 600

structure Vd where
  holds : Bool
  src : Int
  addr : Int
  tr : Tk
deriving DecidableEq
def vdAV (v : Vd) (f : Bool) : AV := .agg [.raw (.bool v.holds), .raw (.int .i64 v.src), .raw (.int .u32 v.addr), intsAV v.tr.path f, .raw (.int .i64 v.tr.out), .raw (.int .i64 v.tr.last.dev), .raw (.int .i64 v.tr.last.port)]
theorem vd_cells (v : Vd) (f : Bool) : (vdAV v f).cells = [.raw (.bool v.holds), .raw (.int .i64 v.src), .raw (.int .u32 v.addr), intsAV v.tr.path f, .raw (.int .i64 v.tr.out), .raw (.int .i64 v.tr.last.dev), .raw (.int .i64 v.tr.last.port)] := rfl
theorem vd_fold (h : Bool) (s a : Int) (t : Tk) (f : Bool) : AV.agg [.raw (.bool h), .raw (.int .i64 s), .raw (.int .u32 a), intsAV t.path f, .raw (.int .i64 t.out), .raw (.int .i64 t.last.dev), .raw (.int .i64 t.last.port)] = vdAV ⟨h, s, a, t⟩ f := rfl
@[simp] theorem vd_ids (K : Id → Prop) (v : Vd) (b : Bool) : (vdAV v b).ids K := by simp [vdAV]
def noTk : Tk := ⟨[], 0, ⟨0, 0⟩⟩
def seek (n m : Nw) (q : Qy) (d : Int) : List Rg → Option Vd
  | [] => none
  | r :: rs => if breaksQ q (traceR n d r.lo).1 (traceR m d r.lo).1 = true then some ⟨false, d, r.lo, (traceR n d r.lo).1⟩ else seek n m q d rs
def seeks (n m : Nw) (q : Qy) (P : List Rg) : List Int → Option Vd
  | [] => none
  | d :: ds => match seek n m q d P with
    | some v => some v
    | none => seeks n m q P ds
def runQ (n m : Nw) (q : Qy) : Vd × Int :=
  if rightQ n q = false ∨ (q.kind = 5 ∧ n.t ≠ m.t) then (⟨false, 0, 0, noTk⟩, 121) else
    match seeks n (if q.kind = 5 then m else n) q (cutP [n, if q.kind = 5 then m else n] q.r) (sourcesQ n q) with
    | some v => (v, 0)
    | none => (⟨true, 0, 0, noTk⟩, 0)
theorem weaker_vd (b : Bool) (e : Int) : Weaker (.tup [.agg [.raw (.bool b), .raw (.int .i64 0), .raw (.int .u32 0), .sl 0 [] true, .raw (.int .i64 0), .raw (.int .i64 0), .raw (.int .i64 0)], .raw (.int .i64 e)]) (.tup [vdAV ⟨b, 0, 0, noTk⟩ false, .raw (.int .i64 e)]) := by
  intro S v h
  simp only [vdAV, noTk, intsAV, List.map_nil, VRel, LRel] at h ⊢
  obtain ⟨l, rfl, u, us, h1, ⟨l2, rfl, h2⟩, h3⟩ := h
  refine ⟨l, rfl, _, us, h1, ⟨l2, rfl, ?_⟩, h3⟩
  obtain ⟨x1, y1, e1, p1, x2, y2, e2, p2, x3, y3, e3, p3, x4, y4, e4, ⟨base, cap, e, q1, q2, q3⟩, p5⟩ := h2
  exact ⟨x1, y1, e1, p1, x2, y2, e2, p2, x3, y3, e3, p3, x4, y4, e4, ⟨base, cap, e, q1, by simp, by simp⟩, p5⟩
/-- An empty verdict, as it is made. -/
def vd0AV : AV := .agg [.raw (.bool false), .raw (.int .i64 0), .raw (.int .u32 0), .sl 0 [] true, .raw (.int .i64 0), .raw (.int .i64 0), .raw (.int .i64 0)]
theorem vd0_put (a b c d e f g : AV) : setPart vd0AV 0 [a, b, c, d, e, f, g] = .agg [a, b, c, d, e, f, g] := rfl
theorem vd0_fold : AV.agg [.raw (.bool false), .raw (.int .i64 0), .raw (.int .u32 0), .sl 0 [] true, .raw (.int .i64 0), .raw (.int .i64 0), .raw (.int .i64 0)] = vd0AV := rfl
theorem vd0_cells : vd0AV.cells = [.raw (.bool false), .raw (.int .i64 0), .raw (.int .u32 0), .sl 0 [] true, .raw (.int .i64 0), .raw (.int .i64 0), .raw (.int .i64 0)] := rfl
theorem vd0_putV (v : Vd) (f : Bool) : setPart vd0AV 0 (vdAV v f).cells = vdAV v f := rfl
theorem held_len (L : List Rg) : (heldL L).length ≤ 500 := by
  have : ∀ (L : List Rg) (s : Option (List Rg)), (s.getD []).length ≤ 500 → ((L.foldl stepL s).getD []).length ≤ 500 := by
    intro L
    induction L with
    | nil => intro s h; exact h
    | cons r L ih =>
      intro s h
      rw [List.foldl_cons]
      refine ih _ ?_
      unfold stepL
      split
      · simp
      · split
        · simp
        · simp only [Option.getD_some, List.length_cons]; omega
  exact this L (some []) (by simp)
theorem cutsL_len (L : List Rg) : (cutsL L).length ≤ 1 + 2 * L.length := by
  have hcc := cutsL_cuts L
  have := nodup_le (m := 0 :: endsL L) (hcc.srt.imp fun h => by omega) fun x hx => by
    rw [List.mem_cons]; simp only [endsL, List.mem_flatMap]; exact (hcc.mem x).1 hx
  have := endsL_len L
  simp only [List.length_cons] at *
  omega
theorem cutP_len (l : List Nw) (r : Rg) : (cutP l r).length ≤ 1001 := by
  unfold cutP
  split
  · simp
  · unfold cutC
    have h1 := List.length_filterMap_le (cutOne r) (atomsC (cutsL (heldL (rgsOf l))))
    rw [atomsC_len] at h1
    have h2 := cutsL_len (heldL (rgsOf l))
    have h3 := held_len (rgsOf l)
    omega
theorem run_calls (n m : Nw) (f g : Fl) (q : Qy) (hn : NwOK n) (hm : NwOK m) (hq : RgOK q.r) :
    PCalls Try.prog 13 [nwAV n f, nwAV m g, qyAV q] (.tup [vdAV (runQ n m q).1 false, .raw (.int .i64 (runQ n m q).2)]) := by
  have hr := rightQ_calls n f q
  have hs := topoSame_calls n.t m.t f g (by have := hn.ports; omega) (by have := hn.links; omega) (by have := hm.ports; omega) (by have := hm.links; omega)
  have hso := sources_calls n f q hn.ports
  refine pbody Try.func13 rfl (N := 93) rfl rfl (by simp) (by simp [noIds]) fun σ => ?_
  repeat (refine awp_seq ?_)
  refine awp_reg ?_
  simp [-cellOK, nw_cells, qy_cells]
  refine awp_freeze ⟨3, σ.nx 3, 3⟩ ?_
  refine awp_freeze ⟨5, σ.nx 5, 7⟩ ?_
  generalize hτ : St.del _ _ = τ
  generalize hA : (fun t => giveUp _ _ _) = A
  have a3 : A 3 = .pp (nwAV n f).cells 0 := by rw [← hA, ← hτ]; simp [giveUp, St.new, St.del, nw_cells]
  have a4 : A 4 = .rp ⟨4, σ.nx 4, 3⟩ 0 0 := by rw [← hA, ← hτ]; simp [giveUp, St.new, St.del, nw_cells, qy_cells]
  have a5 : A 5 = .pp (qyAV q).cells 0 := by rw [← hA, ← hτ]; simp [giveUp, St.new, St.del, nw_cells, qy_cells]
  have a6 : A 6 = .rp ⟨6, σ.nx 6, 7⟩ 0 0 := by rw [← hA, ← hτ]; simp [giveUp, St.new, St.del, nw_cells, qy_cells]
  have m4 : τ.m ⟨4, σ.nx 4, 3⟩ = some (.buf [nwAV m g]) := by rw [← hτ]; simp [St.new, St.del]
  have m6 : τ.m ⟨6, σ.nx 6, 7⟩ = some (.buf [.agg [.raw (.bool false), .raw (.int .i64 0), .raw (.int .u32 0), .sl 0 [] true, .raw (.int .i64 0), .raw (.int .i64 0), .raw (.int .i64 0)]]) := by rw [← hτ]; simp [St.new, St.del]
  have hE : Ext σ τ := by
    rw [← hτ]
    refine ⟨fun i o h => ?_, fun s => ?_⟩
    · have q1 : i ≠ ⟨3, σ.nx 3, 3⟩ := fun e => by rw [e, fresh_none] at h; cases h
      have q2 : i ≠ ⟨4, σ.nx 4, 3⟩ := fun e => by rw [e, fresh_none] at h; cases h
      have q3 : i ≠ ⟨5, σ.nx 5, 7⟩ := fun e => by rw [e, fresh_none] at h; cases h
      have q4 : i ≠ ⟨6, σ.nx 6, 7⟩ := fun e => by rw [e, fresh_none] at h; cases h
      simp [St.del, St.new, q1, q2, q3, q4, h]
    · simp only [St.del, St.new]
      repeat' split
      all_goals omega
  clear hτ hA
  have f4 : σ.m ⟨4, σ.nx 4, 3⟩ = none := fresh_none _ _ _
  have f6 : σ.m ⟨6, σ.nx 6, 7⟩ = none := fresh_none _ _ _
  obtain ⟨i4, hi4⟩ : ∃ i, (⟨4, σ.nx 4, 3⟩ : Id) = i := ⟨_, rfl⟩
  obtain ⟨i6, hi6⟩ : ∃ i, (⟨6, σ.nx 6, 7⟩ : Id) = i := ⟨_, rfl⟩
  have s4 : i4.slot = 4 := by rw [← hi4]
  have s6 : i6.slot = 6 := by rw [← hi6]
  rw [hi4] at a4 m4 f4
  rw [hi6] at a6 m6 f6
  have d46 : i4 ≠ i6 := fun e => by rw [e, s6] at s4; cases s4
  have htf : ∀ (N : Nw) (F : Fl), AV.agg [intsAV N.t.ports F.p, linksAV N.t.links F.l] = tpAV N.t F := fun _ _ => rfl
  have bad : ∀ {B : Env} {ρ : St}, Ext σ ρ → aresult Try.prog ρ.m B Try.f13.results = some (.tup [.agg [.raw (.bool false), .raw (.int .i64 0), .raw (.int .u32 0), .sl 0 [] true, .raw (.int .i64 0), .raw (.int .i64 0), .raw (.int .i64 0)], .raw (.int .i64 121)]) → RetP Try.prog Try.f13 σ (.tup [vdAV ⟨false, 0, 0, noTk⟩ false, .raw (.int .i64 121)]) .ret B ρ := fun hE h =>
    retP_weak (.inr rfl) hE h (by simpa [giveUps, giveUp] using weaker_vd false 121)
  unfold runQ
  cases hrb : rightQ n q with
  | false =>
    rw [hrb] at hr
    rw [if_pos (.inl rfl)]
    (try ((first | with_reducible refine dops_go ?_ | with_reducible refine OKv_go ?_ | with_reducible refine OKr_go ?_); simp [-cellOK, a3, a4, a5, a6, nw_cells, nw_fold, qy_cells, qy_fold, m6])); repeat' (first | refine awp_seq ?_ | refine awp_block ?_ | (refine awp_skip ?_; try simp) | (refine awp_exit ?_; try simp) | (refine awp_ret ?_; try simp) | ((first | refine awp_reg ?_ | refine awp_drawT (fun _ => false) mixed (by decide +kernel) ?_ | refine awp_drawT isCallO mixed (by decide +kernel) ?_ | refine PCalls.use (hr) ?_ | refine Or.inl ⟨_, Or.inl (hr), ?_⟩); simp [-cellOK, a3, a4, a5, a6, nw_cells, nw_fold, qy_cells, qy_fold, m6]) | (refine guarded_split ?_ ?_ <;> (intro hg; simp only [hg]; simp [-cellOK, a3, a4, a5, a6, nw_cells, nw_fold, qy_cells, qy_fold, m6])) | (apply awp_cond_t; focus (simp [-cellOK, a3, a4, a5, a6, nw_cells, nw_fold, qy_cells, qy_fold, m6]; done)) | (apply awp_cond_f; focus (simp [-cellOK, a3, a4, a5, a6, nw_cells, nw_fold, qy_cells, qy_fold, m6]; done)) | (refine awp_cond ?_; simp [-cellOK, a3, a4, a5, a6, nw_cells, nw_fold, qy_cells, qy_fold, m6]; refine ⟨?_, ?_⟩ <;> intro hc) | fail)
    exact bad (by repeat (first | assumption | exact Ext.refl _ | refine ext_new' ?_ | refine Ext.setF ?_ (by first | assumption | (simp [new_nx', St.set, fresh_none]; done) | exact ext_fresh (by assumption)))) (by simp [set_m, m6, a6])
  | true =>
  rw [hrb] at hr
  obtain ⟨M, hM⟩ : ∃ M, (if q.kind = 5 then m else n) = M := ⟨_, rfl⟩
  obtain ⟨G, hG⟩ : ∃ G, (if q.kind = 5 then g else f) = G := ⟨_, rfl⟩
  have hMok : NwOK M := by rw [← hM]; split <;> assumption
  by_cases hbad : q.kind = 5 ∧ n.t ≠ m.t
  · rw [if_pos (.inr hbad)]
    obtain ⟨k5, hne⟩ := hbad
    have k5 := eq_true k5
    rw [decide_eq_false hne] at hs
    (try ((first | with_reducible refine dops_go ?_ | with_reducible refine OKv_go ?_ | with_reducible refine OKr_go ?_); simp [-cellOK, a3, a4, a5, a6, nw_cells, nw_fold, qy_cells, qy_fold, m4, m6, k5, htf])); repeat' (first | refine awp_seq ?_ | refine awp_block ?_ | (refine awp_skip ?_; try simp) | (refine awp_exit ?_; try simp) | (refine awp_ret ?_; try simp) | ((first | refine awp_reg ?_ | refine awp_drawT (fun _ => false) mixed (by decide +kernel) ?_ | refine awp_drawT isCallO mixed (by decide +kernel) ?_ | refine PCalls.use (hr) ?_ | refine Or.inl ⟨_, Or.inl (hr), ?_⟩ | refine PCalls.use (hs) ?_ | refine Or.inl ⟨_, Or.inl (hs), ?_⟩); simp [-cellOK, a3, a4, a5, a6, nw_cells, nw_fold, qy_cells, qy_fold, m4, m6, k5, htf]) | (refine guarded_split ?_ ?_ <;> (intro hg; simp only [hg]; simp [-cellOK, a3, a4, a5, a6, nw_cells, nw_fold, qy_cells, qy_fold, m4, m6, k5, htf])) | (apply awp_cond_t; focus (simp [-cellOK, a3, a4, a5, a6, nw_cells, nw_fold, qy_cells, qy_fold, m4, m6, k5, htf]; done)) | (apply awp_cond_f; focus (simp [-cellOK, a3, a4, a5, a6, nw_cells, nw_fold, qy_cells, qy_fold, m4, m6, k5, htf]; done)) | (refine awp_cond ?_; simp [-cellOK, a3, a4, a5, a6, nw_cells, nw_fold, qy_cells, qy_fold, m4, m6, k5, htf]; refine ⟨?_, ?_⟩ <;> intro hc) | fail)
    exact bad (by repeat (first | assumption | exact Ext.refl _ | refine ext_new' ?_ | refine Ext.setF ?_ (by first | assumption | (simp [new_nx', St.set, fresh_none]; done) | exact ext_fresh (by assumption)))) (by simp [set_m, m6, a6])
  rw [if_neg (by simp [hbad]), hM]
  have hcut := cut_calls [(n, f), (M, G)] false q.r hq (by simp [hn, hMok]) (by simp)
  simp only [List.map_cons, List.map_nil] at hcut
  generalize (if q.r.hi < q.r.lo then (31 : Int) else 0) = ce at hcut
  have hPl := cutP_len [n, M] q.r
  have hSl : (sourcesQ n q).length < 2 ^ 45 := by
    have := hn.ports
    unfold sourcesQ
    split
    · simp
    · simp; omega
  generalize cutP [n, M] q.r = P at hcut hPl ⊢
  generalize sourcesQ n q = Sq at hso hSl ⊢
  have n4 : ∀ s k z, ¬ s = 4 → (i4 = (⟨s, k, z⟩ : Id)) = False := fun s k z h => eq_false fun e => h (by rw [e] at s4; exact s4)
  have n6 : ∀ s k z, ¬ s = 6 → (i6 = (⟨s, k, z⟩ : Id)) = False := fun s k z h => eq_false fun e => h (by rw [e] at s6; exact s6)
  have d64 := d46.symm
  have ne4 : ∀ k z, i4 ≠ (⟨43, k, z⟩ : Id) := fun k z e => by rw [e] at s4; cases s4
  have ne6 : ∀ k z, i6 ≠ (⟨43, k, z⟩ : Id) := fun k z e => by rw [e] at s6; cases s6
  have hrgf : AV.agg [.raw (.int .u32 q.r.lo), .raw (.int .u32 q.r.hi)] = rgAV q.r := rfl
  by_cases k5 : q.kind = 5
  focus
    have hsame : n.t = m.t := Classical.byContradiction fun h => hbad ⟨k5, h⟩
    rw [decide_eq_true hsame] at hs
    have e1 : m = M := by rw [← hM, if_pos k5]
    have e2 : g = G := by rw [← hG, if_pos k5]
    rw [e1, e2] at m4 hs
    have k5 := eq_true k5
    (try ((first | with_reducible refine dops_go ?_ | with_reducible refine OKv_go ?_ | with_reducible refine OKr_go ?_); simp [-cellOK, a3, a4, a5, a6, nw_cells, nw_fold, qy_cells, qy_fold, m4, m6, k5, htf])); repeat' (first | refine awp_seq ?_ | refine awp_block ?_ | (refine awp_skip ?_; try simp) | (refine awp_exit ?_; try simp) | (refine awp_ret ?_; try simp) | (refine retP_same (by simp) ?_; simp) | (refine retP_no (by simp) (by simp [noIds]) (by repeat (first | assumption | exact Ext.refl _ | refine ext_new' ?_ | refine Ext.setF ?_ (by first | assumption | (simp [new_nx', St.set, fresh_none]; done) | exact ext_fresh (by assumption)))) ?_; simp [-cellOK, a3, a4, a5, a6, nw_cells, nw_fold, qy_cells, qy_fold, m4, m6, k5, htf, new_m, set_m, new_nx']) | ((first | refine awp_reg ?_ | refine awp_drawT (fun _ => false) mixed (by decide +kernel) ?_ | refine awp_drawT isCallO mixed (by decide +kernel) ?_ | refine PCalls.use (hr) ?_ | refine Or.inl ⟨_, Or.inl (hr), ?_⟩ | refine PCalls.use (hs) ?_ | refine Or.inl ⟨_, Or.inl (hs), ?_⟩); simp [-cellOK, a3, a4, a5, a6, nw_cells, nw_fold, qy_cells, qy_fold, m4, m6, k5, htf]) | (refine guarded_split ?_ ?_ <;> (intro hg; simp only [hg]; simp [-cellOK, a3, a4, a5, a6, nw_cells, nw_fold, qy_cells, qy_fold, m4, m6, k5, htf])) | (apply awp_cond_t; focus (simp [-cellOK, a3, a4, a5, a6, nw_cells, nw_fold, qy_cells, qy_fold, m4, m6, k5, htf]; done)) | (apply awp_cond_f; focus (simp [-cellOK, a3, a4, a5, a6, nw_cells, nw_fold, qy_cells, qy_fold, m4, m6, k5, htf]; done)) | (refine awp_cond ?_; simp [-cellOK, a3, a4, a5, a6, nw_cells, nw_fold, qy_cells, qy_fold, m4, m6, k5, htf]; refine ⟨?_, ?_⟩ <;> intro hc) | fail)
    refine hcut.useFz (σ0 := σ) ⟨43, τ.nx 43, 3⟩ (ext_fresh hE) (by repeat (first | assumption | exact Ext.refl _ | refine ext_new' ?_ | refine Ext.setF ?_ (by first | assumption | (simp [new_nx', St.set, fresh_none]; done) | exact ext_fresh (by assumption)))) (by simp [giveUp, new_m, netsAV, hrgf]; rfl) ?_
    intro τ2 hE2 hk2 _
    have g4 : τ2.m i4 = some (.buf [nwAV M G]) := hk2 i4 _ (ne4 _ _) (new_up _ _ m4)
    have g6 := hk2 i6 _ (ne6 _ _) (new_up _ _ m6)
  rotate_left
  focus
    have e1 : M = n := by rw [← hM, if_neg k5]
    have e2 : G = f := by rw [← hG, if_neg k5]
    have hnp : setPart (nwAV m g) 0 [intsAV n.t.ports f.p, linksAV n.t.links f.l, rulesAV n.rules f.r] = nwAV n f := rfl
    (try ((first | with_reducible refine dops_go ?_ | with_reducible refine OKv_go ?_ | with_reducible refine OKr_go ?_); simp [-cellOK, a3, a4, a5, a6, nw_cells, nw_fold, qy_cells, qy_fold, m4, m6, k5, htf, hnp])); repeat' (first | refine awp_seq ?_ | refine awp_block ?_ | (refine awp_skip ?_; try simp) | (refine awp_exit ?_; try simp) | (refine awp_ret ?_; try simp) | (refine retP_same (by simp) ?_; simp) | (refine retP_no (by simp) (by simp [noIds]) (by repeat (first | assumption | exact Ext.refl _ | refine ext_new' ?_ | refine Ext.setF ?_ (by first | assumption | (simp [new_nx', St.set, fresh_none]; done) | exact ext_fresh (by assumption)))) ?_; simp [-cellOK, a3, a4, a5, a6, nw_cells, nw_fold, qy_cells, qy_fold, m4, m6, k5, htf, hnp, new_m, set_m, new_nx']) | ((first | refine awp_reg ?_ | refine awp_drawT (fun _ => false) mixed (by decide +kernel) ?_ | refine awp_drawT isCallO mixed (by decide +kernel) ?_ | refine PCalls.use (hr) ?_ | refine Or.inl ⟨_, Or.inl (hr), ?_⟩ | refine PCalls.use (hs) ?_ | refine Or.inl ⟨_, Or.inl (hs), ?_⟩); simp [-cellOK, a3, a4, a5, a6, nw_cells, nw_fold, qy_cells, qy_fold, m4, m6, k5, htf, hnp]) | (refine guarded_split ?_ ?_ <;> (intro hg; simp only [hg]; simp [-cellOK, a3, a4, a5, a6, nw_cells, nw_fold, qy_cells, qy_fold, m4, m6, k5, htf, hnp])) | (apply awp_cond_t; focus (simp [-cellOK, a3, a4, a5, a6, nw_cells, nw_fold, qy_cells, qy_fold, m4, m6, k5, htf, hnp]; done)) | (apply awp_cond_f; focus (simp [-cellOK, a3, a4, a5, a6, nw_cells, nw_fold, qy_cells, qy_fold, m4, m6, k5, htf, hnp]; done)) | (refine awp_cond ?_; simp [-cellOK, a3, a4, a5, a6, nw_cells, nw_fold, qy_cells, qy_fold, m4, m6, k5, htf, hnp]; refine ⟨?_, ?_⟩ <;> intro hc) | fail)
    refine hcut.useFz (σ0 := σ) ⟨43, τ.nx 43, 3⟩ (ext_fresh hE) (by repeat (first | assumption | exact Ext.refl _ | refine ext_new' ?_ | refine Ext.setF ?_ (by first | assumption | (simp [new_nx', St.set, fresh_none]; done) | exact ext_fresh (by assumption)))) (by simp [giveUp, new_m, set_m, netsAV, hrgf, e1, e2]; rfl) ?_
    intro τ2 hE2 hk2 _
    have g4 : τ2.m i4 = some (.buf [nwAV M G]) := by rw [e1, e2]; exact hk2 i4 _ (ne4 _ _) (new_up _ _ (set_hit m4))
    have g6 := hk2 i6 _ (ne6 _ _) (new_up _ _ ((set_ne d46.symm).trans m6))
  all_goals
    rw [vd0_fold] at g6
    obtain ⟨R0, hR0⟩ : ∃ R0, seeks n M q P Sq = R0 := ⟨_, rfl⟩
    rw [hR0]
    (try ((first | with_reducible refine dops_go ?_ | with_reducible refine OKv_go ?_ | with_reducible refine OKr_go ?_); simp [-cellOK, a3, a4, a5, a6, g4, g6, nw_cells, nw_fold, qy_cells, qy_fold, rgsAV])); repeat' (first | refine awp_seq ?_ | refine awp_block ?_ | (refine awp_skip ?_; try simp) | (refine awp_exit ?_; try simp) | (refine awp_ret ?_; try simp) | (refine retP_same (by simp) ?_; simp) | (refine retP_no (by simp) (by simp [noIds]) (by repeat (first | assumption | exact Ext.refl _ | refine ext_new' ?_ | refine Ext.setF ?_ (by first | assumption | (simp [new_nx', St.set, fresh_none]; done) | exact ext_fresh (by assumption)))) ?_; simp [-cellOK, a3, a4, a5, a6, g4, g6, nw_cells, nw_fold, qy_cells, qy_fold, rgsAV, new_m, set_m, new_nx']) | ((first | refine awp_reg ?_ | refine awp_drawT (fun _ => false) mixed (by decide +kernel) ?_ | refine awp_drawT isCallO mixed (by decide +kernel) ?_ | refine PCalls.use (hso) ?_ | refine Or.inl ⟨_, Or.inl (hso), ?_⟩); simp [-cellOK, a3, a4, a5, a6, g4, g6, nw_cells, nw_fold, qy_cells, qy_fold, rgsAV]) | (refine guarded_split ?_ ?_ <;> (intro hg; simp only [hg]; simp [-cellOK, a3, a4, a5, a6, g4, g6, nw_cells, nw_fold, qy_cells, qy_fold, rgsAV])) | (apply awp_cond_t; focus (simp [-cellOK, a3, a4, a5, a6, g4, g6, nw_cells, nw_fold, qy_cells, qy_fold, rgsAV]; done)) | (apply awp_cond_f; focus (simp [-cellOK, a3, a4, a5, a6, g4, g6, nw_cells, nw_fold, qy_cells, qy_fold, rgsAV]; done)) | (refine awp_cond ?_; simp [-cellOK, a3, a4, a5, a6, g4, g6, nw_cells, nw_fold, qy_cells, qy_fold, rgsAV]; refine ⟨?_, ?_⟩ <;> intro hc) | fail)
    refine awp_loopH (fun n' B ρ => Ext σ ρ ∧ B 3 = .pp (nwAV n f).cells 0 ∧ B 4 = .rp i4 0 0 ∧ B 5 = .pp (qyAV q).cells 0 ∧ B 6 = .rp i6 0 0 ∧ ρ.m i4 = some (.buf [nwAV M G]) ∧ ρ.m i6 = some (.buf [vd0AV]) ∧ B 8 = rgsAV P false ∧ B 51 = intsAV Sq false ∧ B 52 = .raw (.int .i64 Sq.length) ∧ ∃ i : Nat, B 53 = .raw (.int .i64 i) ∧ i ≤ Sq.length ∧ n' = Sq.length - i ∧ seeks n M q P (Sq.drop i) = R0) Sq.length ?_ ?_
    · exact ⟨(by repeat (first | assumption | exact Ext.refl _ | refine ext_new' ?_ | refine Ext.setF ?_ (by first | assumption | (simp [new_nx', St.set, fresh_none]; done) | exact ext_fresh (by assumption)))), by simp [a3], by simp [a4], by simp [a5], by simp [a6], g4, g6, by simp [rgsAV], by simp [intsAV], by simp [intsAV], 0, by simp, by omega, by omega, by simpa using hR0⟩
    clear a3 a4 a5 a6 g4 g6 m4 m6 hE2 hE hk2 hR0
    rintro n' B ρ ⟨hE, a3, a4, a5, a6, m4, m6, a8, a51, a52, i, a53, hi, rfl, hR⟩ I1 hI1
    by_cases hlt : i < Sq.length
    · have hx : Sq[i]? = some Sq[i] := List.getElem?_eq_getElem hlt
      have w1 : IntKind.i64.wrap ((i : Int) + 1) = ((i + 1 : Nat) : Int) := by rw [wrap64 (by omega) (by omega)]; omega
      rw [List.drop_eq_getElem_cons hlt] at hR
      obtain ⟨d, hd⟩ : ∃ d, Sq[i] = d := ⟨_, rfl⟩
      rw [hd] at hR
      simp only [seeks] at hR
      (try ((first | with_reducible refine dops_go ?_ | with_reducible refine OKv_go ?_ | with_reducible refine OKr_go ?_); simp [-cellOK, a3, a4, a5, a6, a8, a51, a52, a53, m4, m6, hlt, hx, hd, rgsAV, intsAV, iAV])); repeat' (first | refine awp_seq ?_ | refine awp_block ?_ | (refine awp_skip ?_; try simp) | (refine awp_exit ?_; try simp) | (refine awp_ret ?_; try simp) | (refine retP_same (by simp) ?_; simp) | (refine retP_no (by simp) (by simp [noIds]) (by repeat (first | assumption | exact Ext.refl _ | refine ext_new' ?_ | refine Ext.setF ?_ (by first | assumption | (simp [new_nx', St.set, fresh_none]; done) | exact ext_fresh (by assumption)))) ?_; simp [-cellOK, a3, a4, a5, a6, a8, a51, a52, a53, m4, m6, hlt, hx, hd, rgsAV, intsAV, iAV, new_m, set_m, new_nx']) | ((first | refine awp_reg ?_ | refine awp_drawT (fun _ => false) mixed (by decide +kernel) ?_ | refine awp_drawT isCallO mixed (by decide +kernel) ?_); simp [-cellOK, a3, a4, a5, a6, a8, a51, a52, a53, m4, m6, hlt, hx, hd, rgsAV, intsAV, iAV]) | (refine guarded_split ?_ ?_ <;> (intro hg; simp only [hg]; simp [-cellOK, a3, a4, a5, a6, a8, a51, a52, a53, m4, m6, hlt, hx, hd, rgsAV, intsAV, iAV])) | (apply awp_cond_t; focus (simp [-cellOK, a3, a4, a5, a6, a8, a51, a52, a53, m4, m6, hlt, hx, hd, rgsAV, intsAV, iAV]; done)) | (apply awp_cond_f; focus (simp [-cellOK, a3, a4, a5, a6, a8, a51, a52, a53, m4, m6, hlt, hx, hd, rgsAV, intsAV, iAV]; done)) | (refine awp_cond ?_; simp [-cellOK, a3, a4, a5, a6, a8, a51, a52, a53, m4, m6, hlt, hx, hd, rgsAV, intsAV, iAV]; refine ⟨?_, ?_⟩ <;> intro hc) | fail)
      refine awp_loopH (fun n' C τ => Ext σ τ ∧ C 3 = .pp (nwAV n f).cells 0 ∧ C 4 = .rp i4 0 0 ∧ C 5 = .pp (qyAV q).cells 0 ∧ C 6 = .rp i6 0 0 ∧ τ.m i4 = some (.buf [nwAV M G]) ∧ τ.m i6 = some (.buf [vd0AV]) ∧ C 8 = rgsAV P false ∧ C 51 = intsAV Sq false ∧ C 52 = .raw (.int .i64 Sq.length) ∧ C 53 = .raw (.int .i64 i) ∧ C 11 = .raw (.int .i64 d) ∧ C 57 = rgsAV P false ∧ C 58 = .raw (.int .i64 P.length) ∧ ∃ j : Nat, C 59 = .raw (.int .i64 j) ∧ j ≤ P.length ∧ n' = P.length - j ∧ seek n M q d P = seek n M q d (P.drop j)) P.length ?_ ?_
      · exact ⟨(by repeat (first | assumption | exact Ext.refl _ | refine ext_new' ?_ | refine Ext.setF ?_ (by first | assumption | (simp [new_nx', St.set, fresh_none]; done) | exact ext_fresh (by assumption)))), by simp [a3], by simp [a4], by simp [a5], by simp [a6], m4, m6, by simp [a8, rgsAV], by simp [a51, intsAV], by simp [a52], by simp [a53], by simp, by simp [rgsAV], by simp, 0, by simp, by omega, by omega, by simp⟩
      clear a3 a4 a5 a6 a8 a51 a52 a53 m4 m6 hE
      rintro n' C τ ⟨hE, a3, a4, a5, a6, m4, m6, a8, a51, a52, a53, a11, a57, a58, j, a59, hj, rfl, hS⟩ J1 hJ1
      by_cases hjl : j < P.length
      · have hy : P[j]? = some P[j] := List.getElem?_eq_getElem hjl
        have w2 : IntKind.i64.wrap ((j : Int) + 1) = ((j + 1 : Nat) : Int) := by rw [wrap64 (by omega) (by omega)]; omega
        rw [List.drop_eq_getElem_cons hjl] at hS
        obtain ⟨r, hr'⟩ : ∃ r, P[j] = r := ⟨_, rfl⟩
        rw [hr'] at hS
        simp only [seek] at hS
        have h1 := trace_calls n f d r.lo hn
        have h2 := trace_calls M G d r.lo hMok
        have l1 := traceR_len n d r.lo
        have l2 := traceR_len M d r.lo
        have l3 := hn.links
        have l4 := hMok.links
        have hb := breaks_calls n M f G q (traceR n d r.lo).1 (traceR M d r.lo).1 false false (by omega) (by omega)
        generalize (traceR n d r.lo).1 = T at h1 hb hS
        generalize (traceR M d r.lo).1 = U at h2 hb hS
        generalize (traceR n d r.lo).2 = eT at h1
        generalize (traceR M d r.lo).2 = eU at h2
        have hrq : ∀ x y : Int, setPart (AV.agg [.raw (.int .u32 0), .raw (.int .u32 0)]) 0 [.raw (.int .u32 x), .raw (.int .u32 y)] = rgAV ⟨x, y⟩ := fun _ _ => rfl
        have hrf : ∀ x y : Int, AV.agg [.raw (.int .u32 x), .raw (.int .u32 y)] = rgAV ⟨x, y⟩ := fun _ _ => rfl
        have hrp : ∀ x y : Int, setPart (rgAV ⟨0, 0⟩) 0 [.raw (.int .u32 x), .raw (.int .u32 y)] = rgAV ⟨x, y⟩ := fun _ _ => rfl
        by_cases hbr : breaksQ q T U = true
        · rw [hbr] at hb
          rw [if_pos hbr] at hS
          rw [hS] at hR
          simp only [] at hR
          subst hR
          (try ((first | with_reducible refine dops_go ?_ | with_reducible refine OKv_go ?_ | with_reducible refine OKr_go ?_); simp [-cellOK, a3, a4, a5, a6, a8, a51, a52, a53, a11, a57, a58, a59, m4, m6, hjl, hy, hr', rgsAV, rg_cells, hrq, hrf, hrp, nw_cells, nw_fold, qy_cells, qy_fold, tk_cells, tk_fold, tk_putL, vd0_cells, vd0_put, vd0_putV, vd_cells, vd_fold, new_m, set_m, new_nx', n4, n6, d46, d64])); repeat' (first | refine awp_seq ?_ | refine awp_block ?_ | (refine awp_skip ?_; try simp) | (refine awp_exit ?_; try simp) | (refine awp_ret ?_; try simp) | (refine retP_same (by simp) ?_; simp) | (refine retP_no (by simp) (by simp [noIds]) (by repeat (first | assumption | exact Ext.refl _ | refine ext_new' ?_ | refine Ext.setF ?_ (by first | assumption | (simp [new_nx', St.set, fresh_none]; done) | exact ext_fresh (by assumption)))) ?_; simp [-cellOK, a3, a4, a5, a6, a8, a51, a52, a53, a11, a57, a58, a59, m4, m6, hjl, hy, hr', rgsAV, rg_cells, hrq, hrf, hrp, nw_cells, nw_fold, qy_cells, qy_fold, tk_cells, tk_fold, tk_putL, vd0_cells, vd0_put, vd0_putV, vd_cells, vd_fold, new_m, set_m, new_nx', n4, n6, d46, d64, new_m, set_m, new_nx']) | ((first | refine awp_reg ?_ | refine awp_drawT (fun _ => false) mixed (by decide +kernel) ?_ | refine awp_drawT isCallO mixed (by decide +kernel) ?_ | refine PCalls.use (h1) ?_ | refine Or.inl ⟨_, Or.inl (h1), ?_⟩ | refine PCalls.use (h2) ?_ | refine Or.inl ⟨_, Or.inl (h2), ?_⟩ | refine PCalls.use (hb) ?_ | refine Or.inl ⟨_, Or.inl (hb), ?_⟩); simp [-cellOK, a3, a4, a5, a6, a8, a51, a52, a53, a11, a57, a58, a59, m4, m6, hjl, hy, hr', rgsAV, rg_cells, hrq, hrf, hrp, nw_cells, nw_fold, qy_cells, qy_fold, tk_cells, tk_fold, tk_putL, vd0_cells, vd0_put, vd0_putV, vd_cells, vd_fold, new_m, set_m, new_nx', n4, n6, d46, d64]) | (refine guarded_split ?_ ?_ <;> (intro hg; simp only [hg]; simp [-cellOK, a3, a4, a5, a6, a8, a51, a52, a53, a11, a57, a58, a59, m4, m6, hjl, hy, hr', rgsAV, rg_cells, hrq, hrf, hrp, nw_cells, nw_fold, qy_cells, qy_fold, tk_cells, tk_fold, tk_putL, vd0_cells, vd0_put, vd0_putV, vd_cells, vd_fold, new_m, set_m, new_nx', n4, n6, d46, d64])) | (apply awp_cond_t; focus (simp [-cellOK, a3, a4, a5, a6, a8, a51, a52, a53, a11, a57, a58, a59, m4, m6, hjl, hy, hr', rgsAV, rg_cells, hrq, hrf, hrp, nw_cells, nw_fold, qy_cells, qy_fold, tk_cells, tk_fold, tk_putL, vd0_cells, vd0_put, vd0_putV, vd_cells, vd_fold, new_m, set_m, new_nx', n4, n6, d46, d64]; done)) | (apply awp_cond_f; focus (simp [-cellOK, a3, a4, a5, a6, a8, a51, a52, a53, a11, a57, a58, a59, m4, m6, hjl, hy, hr', rgsAV, rg_cells, hrq, hrf, hrp, nw_cells, nw_fold, qy_cells, qy_fold, tk_cells, tk_fold, tk_putL, vd0_cells, vd0_put, vd0_putV, vd_cells, vd_fold, new_m, set_m, new_nx', n4, n6, d46, d64]; done)) | (refine awp_cond ?_; simp [-cellOK, a3, a4, a5, a6, a8, a51, a52, a53, a11, a57, a58, a59, m4, m6, hjl, hy, hr', rgsAV, rg_cells, hrq, hrf, hrp, nw_cells, nw_fold, qy_cells, qy_fold, tk_cells, tk_fold, tk_putL, vd0_cells, vd0_put, vd0_putV, vd_cells, vd_fold, new_m, set_m, new_nx', n4, n6, d46, d64]; refine ⟨?_, ?_⟩ <;> intro hc) | fail)
        · have hbr : breaksQ q T U = false := by simpa using hbr
          rw [hbr] at hb
          rw [hbr, if_neg (by simp)] at hS
          (try ((first | with_reducible refine dops_go ?_ | with_reducible refine OKv_go ?_ | with_reducible refine OKr_go ?_); simp [-cellOK, a3, a4, a5, a6, a8, a51, a52, a53, a11, a57, a58, a59, m4, m6, hjl, hy, hr', rgsAV, rg_cells, hrq, hrf, hrp, nw_cells, nw_fold, qy_cells, qy_fold, tk_cells, tk_fold, tk_putL, new_m, set_m, new_nx', n4, n6, d46, d64, w2])); repeat' (first | refine awp_seq ?_ | refine awp_block ?_ | (refine awp_skip ?_; try simp) | (refine awp_exit ?_; try simp) | (refine awp_ret ?_; try simp) | (refine retP_same (by simp) ?_; simp) | (refine retP_no (by simp) (by simp [noIds]) (by repeat (first | assumption | exact Ext.refl _ | refine ext_new' ?_ | refine Ext.setF ?_ (by first | assumption | (simp [new_nx', St.set, fresh_none]; done) | exact ext_fresh (by assumption)))) ?_; simp [-cellOK, a3, a4, a5, a6, a8, a51, a52, a53, a11, a57, a58, a59, m4, m6, hjl, hy, hr', rgsAV, rg_cells, hrq, hrf, hrp, nw_cells, nw_fold, qy_cells, qy_fold, tk_cells, tk_fold, tk_putL, new_m, set_m, new_nx', n4, n6, d46, d64, w2, new_m, set_m, new_nx']) | ((first | refine awp_reg ?_ | refine awp_drawT (fun _ => false) mixed (by decide +kernel) ?_ | refine awp_drawT isCallO mixed (by decide +kernel) ?_ | refine PCalls.use (h1) ?_ | refine Or.inl ⟨_, Or.inl (h1), ?_⟩ | refine PCalls.use (h2) ?_ | refine Or.inl ⟨_, Or.inl (h2), ?_⟩ | refine PCalls.use (hb) ?_ | refine Or.inl ⟨_, Or.inl (hb), ?_⟩); simp [-cellOK, a3, a4, a5, a6, a8, a51, a52, a53, a11, a57, a58, a59, m4, m6, hjl, hy, hr', rgsAV, rg_cells, hrq, hrf, hrp, nw_cells, nw_fold, qy_cells, qy_fold, tk_cells, tk_fold, tk_putL, new_m, set_m, new_nx', n4, n6, d46, d64, w2]) | (refine guarded_split ?_ ?_ <;> (intro hg; simp only [hg]; simp [-cellOK, a3, a4, a5, a6, a8, a51, a52, a53, a11, a57, a58, a59, m4, m6, hjl, hy, hr', rgsAV, rg_cells, hrq, hrf, hrp, nw_cells, nw_fold, qy_cells, qy_fold, tk_cells, tk_fold, tk_putL, new_m, set_m, new_nx', n4, n6, d46, d64, w2])) | (apply awp_cond_t; focus (simp [-cellOK, a3, a4, a5, a6, a8, a51, a52, a53, a11, a57, a58, a59, m4, m6, hjl, hy, hr', rgsAV, rg_cells, hrq, hrf, hrp, nw_cells, nw_fold, qy_cells, qy_fold, tk_cells, tk_fold, tk_putL, new_m, set_m, new_nx', n4, n6, d46, d64, w2]; done)) | (apply awp_cond_f; focus (simp [-cellOK, a3, a4, a5, a6, a8, a51, a52, a53, a11, a57, a58, a59, m4, m6, hjl, hy, hr', rgsAV, rg_cells, hrq, hrf, hrp, nw_cells, nw_fold, qy_cells, qy_fold, tk_cells, tk_fold, tk_putL, new_m, set_m, new_nx', n4, n6, d46, d64, w2]; done)) | (refine awp_cond ?_; simp [-cellOK, a3, a4, a5, a6, a8, a51, a52, a53, a11, a57, a58, a59, m4, m6, hjl, hy, hr', rgsAV, rg_cells, hrq, hrf, hrp, nw_cells, nw_fold, qy_cells, qy_fold, tk_cells, tk_fold, tk_putL, new_m, set_m, new_nx', n4, n6, d46, d64, w2]; refine ⟨?_, ?_⟩ <;> intro hc) | fail)
          refine hJ1 (P.length - (j + 1)) _ _ (by omega) ⟨(by repeat (first | assumption | exact Ext.refl _ | refine ext_new' ?_ | refine Ext.setF ?_ (by first | assumption | (simp [new_nx', St.set, fresh_none]; done) | exact ext_fresh (by assumption)))), by simp [a3], by simp [a4], by simp [a5], by simp [a6], ?_, ?_, by simp [a8, rgsAV], by simp [a51], by simp [a52], by simp [a53], by simp [a11], by simp [a57, rgsAV], by simp [a58], j + 1, by simp, by omega, rfl, hS⟩
          · simp [new_m, set_m, new_nx', n4, m4]
          · simp [new_m, set_m, new_nx', n6, m6]
      · have : j = P.length := by omega
        subst this
        rw [List.drop_length] at hS
        rw [hS] at hR
        simp only [seek] at hR
        (try ((first | with_reducible refine dops_go ?_ | with_reducible refine OKv_go ?_ | with_reducible refine OKr_go ?_); simp [-cellOK, a3, a4, a5, a6, a8, a51, a52, a53, a11, a57, a58, a59, w1])); repeat' (first | refine awp_seq ?_ | refine awp_block ?_ | (refine awp_skip ?_; try simp) | (refine awp_exit ?_; try simp) | (refine awp_ret ?_; try simp) | (refine retP_same (by simp) ?_; simp) | (refine retP_no (by simp) (by simp [noIds]) (by repeat (first | assumption | exact Ext.refl _ | refine ext_new' ?_ | refine Ext.setF ?_ (by first | assumption | (simp [new_nx', St.set, fresh_none]; done) | exact ext_fresh (by assumption)))) ?_; simp [-cellOK, a3, a4, a5, a6, a8, a51, a52, a53, a11, a57, a58, a59, w1, new_m, set_m, new_nx']) | ((first | refine awp_reg ?_ | refine awp_drawT (fun _ => false) mixed (by decide +kernel) ?_ | refine awp_drawT isCallO mixed (by decide +kernel) ?_); simp [-cellOK, a3, a4, a5, a6, a8, a51, a52, a53, a11, a57, a58, a59, w1]) | (refine guarded_split ?_ ?_ <;> (intro hg; simp only [hg]; simp [-cellOK, a3, a4, a5, a6, a8, a51, a52, a53, a11, a57, a58, a59, w1])) | (apply awp_cond_t; focus (simp [-cellOK, a3, a4, a5, a6, a8, a51, a52, a53, a11, a57, a58, a59, w1]; done)) | (apply awp_cond_f; focus (simp [-cellOK, a3, a4, a5, a6, a8, a51, a52, a53, a11, a57, a58, a59, w1]; done)) | (refine awp_cond ?_; simp [-cellOK, a3, a4, a5, a6, a8, a51, a52, a53, a11, a57, a58, a59, w1]; refine ⟨?_, ?_⟩ <;> intro hc) | fail)
        exact hI1 (Sq.length - (i + 1)) _ _ (by omega) ⟨hE, by simp [a3], by simp [a4], by simp [a5], by simp [a6], m4, m6, by simp [a8], by simp [a51], by simp [a52], i + 1, by simp, by omega, rfl, hR⟩
    · have : i = Sq.length := by omega
      subst this
      rw [List.drop_length] at hR
      simp only [seeks] at hR
      subst hR
      (try ((first | with_reducible refine dops_go ?_ | with_reducible refine OKv_go ?_ | with_reducible refine OKr_go ?_); simp [-cellOK, a3, a4, a5, a6, a8, a51, a52, a53, m6, vd0_cells, vd0_put])); repeat' (first | refine awp_seq ?_ | refine awp_block ?_ | (refine awp_skip ?_; try simp) | (refine awp_exit ?_; try simp) | (refine awp_ret ?_; try simp) | ((first | refine awp_reg ?_ | refine awp_drawT (fun _ => false) mixed (by decide +kernel) ?_ | refine awp_drawT isCallO mixed (by decide +kernel) ?_); simp [-cellOK, a3, a4, a5, a6, a8, a51, a52, a53, m6, vd0_cells, vd0_put]) | (refine guarded_split ?_ ?_ <;> (intro hg; simp only [hg]; simp [-cellOK, a3, a4, a5, a6, a8, a51, a52, a53, m6, vd0_cells, vd0_put])) | (apply awp_cond_t; focus (simp [-cellOK, a3, a4, a5, a6, a8, a51, a52, a53, m6, vd0_cells, vd0_put]; done)) | (apply awp_cond_f; focus (simp [-cellOK, a3, a4, a5, a6, a8, a51, a52, a53, m6, vd0_cells, vd0_put]; done)) | (refine awp_cond ?_; simp [-cellOK, a3, a4, a5, a6, a8, a51, a52, a53, m6, vd0_cells, vd0_put]; refine ⟨?_, ?_⟩ <;> intro hc) | fail)
      refine retP_weak (x := .tup [.agg [.raw (.bool true), .raw (.int .i64 0), .raw (.int .u32 0), .sl 0 [] true, .raw (.int .i64 0), .raw (.int .i64 0), .raw (.int .i64 0)], .raw (.int .i64 0)]) (.inr rfl) (Ext.setF hE f6) ?_ ?_
      · simp [set_m, m6, a6]
      · simpa [giveUps, giveUp] using weaker_vd true 0
/-- Are two verdicts alike? -/
theorem vdSame_calls (x y : Vd) (f g : Bool) (hx : x.tr.path.length < 2 ^ 60) (hy : y.tr.path.length < 2 ^ 60) : PCalls Try.prog 14 [vdAV x f, vdAV y g] (.raw (.bool (decide (x = y)))) := by
  have h := tkSame_calls x.tr y.tr f g hx hy
  have e : decide (x = y) = (decide (x.holds = y.holds) && (decide (x.src = y.src) && (decide (x.addr = y.addr) && decide (x.tr = y.tr)))) := by
    cases x; cases y; rw [Bool.eq_iff_iff]; simp
  rw [e]
  generalize decide (x.tr = y.tr) = b at h ⊢
  refine pbody Try.func14 rfl (N := 31) rfl rfl (by simp) (by simp [noIds]) fun σ => ?_
  have hb : (x.holds == y.holds) = decide (x.holds = y.holds) := by cases x.holds <;> cases y.holds <;> rfl
  by_cases h1 : x.holds = y.holds <;> by_cases h2 : x.src = y.src <;> by_cases h3 : x.addr = y.addr <;> ((try ((first | with_reducible refine dops_go ?_ | with_reducible refine OKv_go ?_ | with_reducible refine OKr_go ?_); simp [-cellOK, vd_cells, tk_fold, hb, h1, h2, h3])); repeat' (first | refine awp_seq ?_ | refine awp_block ?_ | (refine awp_skip ?_; try simp) | (refine awp_exit ?_; try simp) | (refine awp_ret ?_; try simp) | (refine retP_same (by simp) ?_; simp) | (refine retP_no (by simp) (by simp [noIds]) (by repeat (first | assumption | exact Ext.refl _ | refine ext_new' ?_ | refine Ext.setF ?_ (by first | assumption | (simp [new_nx', St.set, fresh_none]; done) | exact ext_fresh (by assumption)))) ?_; simp [-cellOK, vd_cells, tk_fold, hb, h1, h2, h3, new_m, set_m, new_nx']) | ((first | refine awp_reg ?_ | refine awp_drawT (fun _ => false) mixed (by decide +kernel) ?_ | refine awp_drawT isCallO mixed (by decide +kernel) ?_ | refine PCalls.use (h) ?_ | refine Or.inl ⟨_, Or.inl (h), ?_⟩); simp [-cellOK, vd_cells, tk_fold, hb, h1, h2, h3]) | (refine guarded_split ?_ ?_ <;> (intro hg; simp only [hg]; simp [-cellOK, vd_cells, tk_fold, hb, h1, h2, h3])) | (apply awp_cond_t; focus (simp [-cellOK, vd_cells, tk_fold, hb, h1, h2, h3]; done)) | (apply awp_cond_f; focus (simp [-cellOK, vd_cells, tk_fold, hb, h1, h2, h3]; done)) | (refine awp_cond ?_; simp [-cellOK, vd_cells, tk_fold, hb, h1, h2, h3]; refine ⟨?_, ?_⟩ <;> intro hc) | fail))
end Go.Proofs.Ytanimmdlgmkmkaa.Av


/- Networks: right networks. -/
namespace Go.Proofs.Ytanimmdlgmkmkaa.Av
open Go
set_option linter.unusedSimpArgs false
set_option linter.unusedVariables false
set_option maxRecDepth 100000
set_option maxHeartbeats 2000000
set_option pp.maxSteps 300

def rightN (n : Nw) : Bool := rightT n.t && (allB n.rules && fitsB n.t n.rules)
end Go.Proofs.Ytanimmdlgmkmkaa.Av


/- Networks: the document's step. -/
namespace Go.Proofs.Ytanimmdlgmkmkaa.Av
open Go
set_option linter.unusedSimpArgs false
set_option linter.unusedVariables false
set_option maxRecDepth 100000
set_option maxHeartbeats 2000000
set_option pp.maxSteps 600

/-- The step as the document says it. -/
def refStepF (n : Nw) (d a : Int) : Int × Pt :=
  if refDeniesB n.rules d a = true then (2, ⟨0, 0⟩) else if n.rules.any (refP d a false) = false then (0, ⟨0, 0⟩) else if (minR (n.rules.filter (refP d a false))).kind = 1 then (1, ⟨0, 0⟩)
  else if (refNextL n.t.links ⟨d, (minR (n.rules.filter (refP d a false))).port⟩).isSome = true then (4, ⟨d, (minR (n.rules.filter (refP d a false))).port⟩) else (3, ⟨d, (minR (n.rules.filter (refP d a false))).port⟩)
end Go.Proofs.Ytanimmdlgmkmkaa.Av


/- Networks, plain laws: the program's next port is the document's on right topologies. -/
namespace Go.Proofs.Ytanimmdlgmkmkaa.Av
open Go
set_option linter.unusedSimpArgs false
set_option linter.unusedVariables false
set_option maxRecDepth 100000

def lookF (m : List (Pt × Pt)) (p : Pt) : Option Pt := (m.find? fun e => decide (p = e.1)).map (·.2)
/-- The ports of links, one after the other. -/
def flatP : List Lk → List Pt
  | [] => []
  | l :: ls => l.a :: l.b :: flatP ls
end Go.Proofs.Ytanimmdlgmkmkaa.Av


/- Networks, plain laws: the map is full exactly if no port is joined twice. -/
namespace Go.Proofs.Ytanimmdlgmkmkaa.Av
open Go
set_option linter.unusedSimpArgs false
set_option linter.unusedVariables false
set_option maxRecDepth 100000

theorem upd_len (m : List (Pt × Pt)) (k v : Pt) : (upd m k v).length ≤ m.length + 1 ∧ ((upd m k v).length = m.length + 1 ↔ k ∉ m.map (·.1)) := by
  have hle : (m.filter fun e => decide (k ≠ e.1)).length ≤ m.length := List.length_filter_le _ _
  have hl : (upd m k v).length = (m.filter fun e => decide (k ≠ e.1)).length + 1 := by simp [upd]
  refine ⟨by omega, ?_⟩
  rw [hl]
  constructor
  · intro h hk
    obtain ⟨e, he, rfl⟩ := List.mem_map.1 hk
    have := List.length_filter_lt_length_iff_exists (p := fun x : Pt × Pt => decide (e.1 ≠ x.1)) (l := m) |>.2 ⟨e, he, by simp⟩
    omega
  · intro h
    have : (m.filter fun e => decide (k ≠ e.1)) = m := by
      rw [List.filter_eq_self]
      intro x hx
      simp only [decide_eq_true_eq]
      intro q
      exact h (q ▸ List.mem_map.2 ⟨x, hx, rfl⟩)
    rw [this]
theorem upd_keys (m : List (Pt × Pt)) (k v x : Pt) : x ∈ (upd m k v).map (·.1) ↔ x = k ∨ x ∈ m.map (·.1) := by
  simp only [upd, List.map_append, List.mem_append, List.map_cons, List.map_nil, List.mem_singleton]
  constructor
  · rintro (h | h)
    · obtain ⟨e, he, rfl⟩ := List.mem_map.1 h
      exact .inr (List.mem_map.2 ⟨e, (List.mem_filter.1 he).1, rfl⟩)
    · exact .inl h
  · rintro (h | h)
    · exact .inr h
    · by_cases q : x = k
      · exact .inr q
      · obtain ⟨e, he, rfl⟩ := List.mem_map.1 h
        exact .inl (List.mem_map.2 ⟨e, List.mem_filter.2 ⟨he, by simpa using fun r => q r.symm⟩, rfl⟩)
theorem fold_len (ls : List Lk) (m : List (Pt × Pt)) :
    (ls.foldl (fun m l => upd (upd m l.a l.b) l.b l.a) m).length ≤ m.length + 2 * ls.length ∧
    ((ls.foldl (fun m l => upd (upd m l.a l.b) l.b l.a) m).length = m.length + 2 * ls.length ↔ (flatP ls).Nodup ∧ ∀ p ∈ flatP ls, p ∉ m.map (·.1)) := by
  induction ls generalizing m with
  | nil => simp [flatP]
  | cons l ls ih =>
    obtain ⟨i1, i2⟩ := ih (upd (upd m l.a l.b) l.b l.a)
    obtain ⟨a1, a2⟩ := upd_len m l.a l.b
    obtain ⟨b1, b2⟩ := upd_len (upd m l.a l.b) l.b l.a
    rw [List.foldl_cons, List.length_cons]
    refine ⟨by omega, ?_⟩
    simp only [upd_keys, not_or] at b2 i2
    simp only [flatP, List.nodup_cons, List.mem_cons, not_or]
    constructor
    · intro h
      have h1 := a2.1 (by omega)
      have h2 := b2.1 (by omega)
      have h3 := i2.1 (by omega)
      refine ⟨⟨⟨fun q => h2.1 q.symm, fun q => (h3.2 _ q).2.1 rfl⟩, fun q => (h3.2 _ q).1 rfl, h3.1⟩, ?_⟩
      rintro p (rfl | rfl | hp)
      · exact h1
      · exact h2.2
      · exact (h3.2 _ hp).2.2
    · rintro ⟨⟨⟨hab, ha⟩, hb, hn⟩, hd⟩
      have e1 := a2.2 (hd _ (.inl rfl))
      have e2 := b2.2 ⟨fun q => hab q.symm, hd _ (.inr (.inl rfl))⟩
      have e3 := i2.2 ⟨hn, fun p hp => ⟨fun q => hb (q ▸ hp), fun q => ha (q ▸ hp), hd _ (.inr (.inr hp))⟩⟩
      omega
theorem joinM_full (ls : List Lk) : (joinM ls).length = 2 * ls.length ↔ (flatP ls).Nodup := by
  have := (fold_len ls []).2
  simpa [joinM] using this
end Go.Proofs.Ytanimmdlgmkmkaa.Av


/- Networks, plain laws: on right networks the program's step is the document's. -/
namespace Go.Proofs.Ytanimmdlgmkmkaa.Av
open Go
set_option linter.unusedSimpArgs false
set_option linter.unusedVariables false
set_option maxRecDepth 100000

theorem allFrom_mem {l : List Ru} {last : Int} (h : allFrom last l = true) : ∀ r ∈ l, ruleB r = true := by
  induction l generalizing last with
  | nil => simp
  | cons x l ih =>
    simp only [allFrom, Bool.and_eq_true] at h
    intro r hr
    rcases List.mem_cons.1 hr with rfl | hr
    · exact h.1.1
    · exact ih h.2 r hr
end Go.Proofs.Ytanimmdlgmkmkaa.Av


/- Queries, the plain law: addresses between the same cuts fare alike; what a verdict tells. -/
namespace Go.Proofs.Ytanimmdlgmkmkaa.Av
set_option linter.unusedSimpArgs false
set_option linter.unusedVariables false

/-- Two addresses lie on the same side of all cuts. -/
def SameSide (L : List Rg) (a b : Int) : Prop := ∀ x ∈ cutsL L, (x ≤ a ↔ x ≤ b)
theorem atom_has {c : List Int} {L : List Rg} (h : Cuts c L) {x : Int} (h0 : 0 ≤ x) (h1 : x < 4294967296) : ∃ a ∈ atomsC c, a.lo ≤ x ∧ x ≤ a.hi := by
  obtain ⟨p, hp⟩ : ∃ p, c.countP (fun y => decide (y ≤ x)) = p + 1 := ⟨_, (Nat.succ_pred_eq_of_pos (h.pos h0)).symm⟩
  have hle : c.countP (fun y => decide (y ≤ x)) ≤ c.length := List.countP_le_length
  have hpl : p < c.length := by omega
  have hci : c[p]? = some c[p] := List.getElem?_eq_getElem hpl
  have hs := countP_srt h.srt x
  have k1 := (hs p _ hci).2 (by omega)
  have hg := atomsC_get c p
  rw [hci] at hg
  refine ⟨_, List.mem_of_getElem? hg, k1, ?_⟩
  simp only []
  cases hn : c[p + 1]? with
  | none => simp only []; omega
  | some y =>
    have := hs _ _ hn
    simp only []
    have : ¬ y ≤ x := fun hyx => by have := this.1 hyx; omega
    omega
theorem part_has {c : List Int} {L : List Rg} (h : Cuts c L) {r : Rg} {x : Int} (h0 : 0 ≤ x) (h1 : x < 4294967296) (hx : r.lo ≤ x ∧ x ≤ r.hi) : ∃ p ∈ cutC c r, p.lo ≤ x ∧ x ≤ p.hi := by
  obtain ⟨a, ha, k1, k2⟩ := atom_has h h0 h1
  refine ⟨⟨max a.lo r.lo, min a.hi r.hi⟩, ?_, by simp only []; omega⟩
  unfold cutC
  refine List.mem_filterMap.2 ⟨a, ha, ?_⟩
  unfold cutOne
  rw [if_pos (by omega)]
theorem seek_some {n m : Nw} {q : Qy} {d : Int} {v : Vd} : ∀ {P : List Rg}, seek n m q d P = some v → ∃ p ∈ P, v = ⟨false, d, p.lo, (traceR n d p.lo).1⟩ ∧ breaksQ q (traceR n d p.lo).1 (traceR m d p.lo).1 = true
  | [], h => by simp [seek] at h
  | r :: rs, h => by
    simp only [seek] at h
    split at h
    · rename_i hb
      simp only [Option.some.injEq] at h
      exact ⟨r, by simp, h.symm, hb⟩
    · obtain ⟨p, hp, h1, h2⟩ := seek_some h
      exact ⟨p, by simp [hp], h1, h2⟩
theorem seeks_some {n m : Nw} {q : Qy} {P : List Rg} {v : Vd} : ∀ {S : List Int}, seeks n m q P S = some v → ∃ d ∈ S, ∃ p ∈ P, v = ⟨false, d, p.lo, (traceR n d p.lo).1⟩ ∧ breaksQ q (traceR n d p.lo).1 (traceR m d p.lo).1 = true
  | [], h => by simp [seeks] at h
  | d :: ds, h => by
    simp only [seeks] at h
    cases hs : seek n m q d P with
    | none =>
      rw [hs] at h
      obtain ⟨d', hd, p, hp, h1, h2⟩ := seeks_some h
      exact ⟨d', by simp [hd], p, hp, h1, h2⟩
    | some w =>
      rw [hs] at h
      simp only [Option.some.injEq] at h
      subst h
      obtain ⟨p, hp, h1, h2⟩ := seek_some hs
      exact ⟨d, by simp, p, hp, h1, h2⟩
/-! ### Right networks -/
theorem right_rules {n : Nw} (h : rightN n = true) : (∀ r ∈ n.rules, ruleB r = true) ∧ n.rules.length ≤ 40 := by
  unfold rightN at h
  simp only [Bool.and_eq_true] at h
  have h2 := h.2.1
  unfold allB at h2
  simp only [Bool.and_eq_true, decide_eq_true_eq] at h2
  exact ⟨allFrom_mem h2.1, h2.2⟩
theorem rule_le {r : Ru} (h : ruleB r = true) : r.r.lo ≤ r.r.hi := by
  unfold ruleB at h
  simp only [Bool.and_eq_true, decide_eq_true_eq] at h
  exact h.2
theorem rgs_le {l : List Nw} (h : ∀ n ∈ l, rightN n = true) : ∀ r ∈ rgsOf l, r.lo ≤ r.hi := by
  intro r hr
  unfold rgsOf at hr
  obtain ⟨n, hn, hr⟩ := List.mem_flatMap.1 hr
  obtain ⟨x, hx, rfl⟩ := List.mem_map.1 hr
  exact rule_le ((right_rules (h n hn)).1 x hx)
theorem held_right {l : List Nw} (h : ∀ n ∈ l, rightN n = true) (hl : l.length ≤ 12) : heldL (rgsOf l) = (rgsOf l).reverse := by
  refine held_few (rgs_le h) ?_
  have : ∀ l : List Nw, (∀ n ∈ l, rightN n = true) → (rgsOf l).length ≤ 40 * l.length := by
    intro l
    induction l with
    | nil => intro _; simp [rgsOf]
    | cons n l ih =>
      intro h
      have h1 := (right_rules (h n (by simp))).2
      have h2 := ih fun m hm => h m (by simp [hm])
      simp only [rgsOf, List.flatMap_cons, List.length_append, List.length_map, List.length_cons] at h2 ⊢
      omega
  have := this l h
  omega
theorem cuts_right {l : List Nw} (h : ∀ n ∈ l, rightN n = true) (hl : l.length ≤ 12) : cutsL (heldL (rgsOf l)) = cutsL (rgsOf l) := by
  rw [held_right h hl]; exact cutsL_perm (List.reverse_perm _)
theorem cutP_right {l : List Nw} (h : ∀ n ∈ l, rightN n = true) (hl : l.length ≤ 12) {r : Rg} (hr : r.lo ≤ r.hi) : cutP l r = cutC (cutsL (rgsOf l)) r := by
  unfold cutP
  rw [if_neg (by omega), cuts_right h hl]
end Go.Proofs.Ytanimmdlgmkmkaa.Av


/- Networks: right topologies, by the document; the first two stretches. -/
namespace Go.Proofs.Ytanimmdlgmkmkaa.Av
open Go
set_option linter.unusedSimpArgs false
set_option linter.unusedVariables false
set_option maxRecDepth 100000
set_option pp.maxSteps 600

/-- The document's right topologies: few ports, all links' ports there, none joined twice. -/
def nodupB : List Pt → Bool
  | [] => true
  | p :: l => !l.contains p && nodupB l
theorem nodupB_iff (l : List Pt) : nodupB l = true ↔ l.Nodup := by
  induction l with
  | nil => simp [nodupB]
  | cons p l ih => simp [nodupB, ih]
def refRightT (t : Tp) : Bool := !decide (t.ports.length < 1) && (!decide (8 < t.ports.length) && (!decide (16 < t.links.length) && (t.ports.all (fun n => decide (1 ≤ n) && decide (n ≤ 4)) && ((flatP t.links).all (hasB t) && nodupB (flatP t.links)))))
theorem linkBad_any {t : Tp} (ls : List Lk) (hn : (flatP ls).Nodup) : ls.any (linkBad t) = !(flatP ls).all (hasB t) := by
  induction ls with
  | nil => rfl
  | cons l ls ih =>
    simp only [flatP, List.nodup_cons, List.mem_cons, not_or] at hn
    rw [List.any_cons, ih hn.2.2]
    simp only [flatP, List.all_cons, linkBad]
    have hab : decide (l.a = l.b) = false := by simpa using hn.1.1
    rw [hab]
    cases hasB t l.a <;> cases hasB t l.b <;> simp
theorem rightT_eq (t : Tp) : rightT t = refRightT t := by
  have h1 : decide (t.ports.length = 0) = decide (t.ports.length < 1) := by
    rw [Bool.eq_iff_iff]; simp
  have h2 : (!portsBad t) = t.ports.all (fun n => decide (1 ≤ n) && decide (n ≤ 4)) := by
    unfold portsBad
    induction t.ports with
    | nil => rfl
    | cons n l ih =>
      rw [List.any_cons, List.all_cons, ← ih, Bool.not_or]
      congr 1
      rw [Bool.eq_iff_iff]; simp
  unfold rightT refRightT
  rw [h1, h2]
  by_cases hn : (flatP t.links).Nodup
  · rw [decide_eq_true ((joinM_full _).2 hn), (nodupB_iff _).2 hn, linkBad_any _ hn, Bool.not_not]
  · have e1 : nodupB (flatP t.links) = false := by
      cases h : nodupB (flatP t.links) with
      | false => rfl
      | true => exact absurd ((nodupB_iff _).1 h) hn
    rw [decide_eq_false (fun h => hn ((joinM_full _).1 h)), e1]
    simp
end Go.Proofs.Ytanimmdlgmkmkaa.Av


/- Networks: ref topo.Right (begun). -/
namespace Go.Proofs.Ytanimmdlgmkmkaa.Av
open Go
set_option linter.unusedSimpArgs false
set_option linter.unusedVariables false
set_option maxRecDepth 100000
set_option maxHeartbeats 2000000
set_option pp.maxSteps 600

theorem refRight_calls (t : Tp) (f : Fl) (hl : t.ports.length < 2 ^ 60) (hl2 : t.links.length < 2 ^ 42) : PCalls Try.prog 80 [tpAV t f] (.raw (.bool (refRightT t))) := by
  refine pbody Try.func80 rfl (N := 96) rfl rfl (by simp) (by simp [noIds]) fun σ => ?_
  repeat (refine awp_seq ?_)
  refine awp_reg ?_
  have ho1 : cellOK (intsAV t.ports f.p) = true := rfl
  have ho2 : cellOK (linksAV t.links f.l) = true := rfl
  simp only [cellOK] at ho1 ho2
  simp [tp_cells, ho1, ho2]
  refine awp_freeze ⟨1, σ.nx 1, 2⟩ ?_
  generalize hτ : St.del _ _ = τ
  generalize hA : (fun t => giveUp _ _ _) = A
  have a1 : A 1 = .pp [intsAV t.ports f.p, linksAV t.links f.l] 0 := by rw [← hA, ← hτ]; simp [giveUp, St.new, St.del, tp_cells]
  have hE : Ext σ τ := by
    rw [← hτ]
    refine ⟨fun i o h => ?_, fun s => ?_⟩
    · rw [del_other (fun e => by rw [e, fresh_none] at h; cases h)]
      exact new_up _ _ h
    · exact St.new_le σ 1 2 (.buf [tpAV t f]) s
  clear hτ hA
  by_cases q1 : t.ports.length < 1
  · have q1' : (t.ports.length : Int) < 1 := by omega
    (try (first | (with_reducible refine dops_go ?_; simp [intsAV, linksAV, a1, hE, q1, q1']) | (with_reducible refine OKv_go ?_; simp [intsAV, linksAV, a1, hE, q1, q1']) | (with_reducible refine OKr_go ?_; simp [intsAV, linksAV, a1, hE, q1, q1']))); repeat' (first | refine awp_seq ?_ | refine awp_block ?_ | (refine awp_skip ?_; try simp) | (refine awp_exit ?_; try simp) | (refine awp_ret ?_; try simp) | (refine retP_same (by simp) ?_; simp) | (refine retP_flat (by simp) (by simp) (by simp (maxDischargeDepth := 30) [intsAV, linksAV, a1, hE, q1, q1']) ?_; simp) | (refine awp_reg ?_; simp [intsAV, linksAV, a1, hE, q1, q1']) | (refine awp_drawT (fun _ => false) mixed (by decide +kernel) ?_; simp [intsAV, linksAV, a1, hE, q1, q1']) | (refine guarded_split ?_ ?_ <;> (intro hg; simp only [hg]; simp [intsAV, linksAV, a1, hE, q1, q1'])) | (apply awp_cond_t; focus (simp [intsAV, linksAV, a1, hE, q1, q1']; done)) | (apply awp_cond_f; focus (simp [intsAV, linksAV, a1, hE, q1, q1']; done)) | (refine awp_cond ?_; simp [intsAV, linksAV, a1, hE, q1, q1']; refine ⟨?_, ?_⟩ <;> intro hc))
    all_goals simp [refRightT, q1]
  have q1' : ¬ (t.ports.length : Int) < 1 := by omega
  by_cases q2 : 8 < t.ports.length
  · have q2' : (8 : Int) < (t.ports.length : Int) := by omega
    (try (first | (with_reducible refine dops_go ?_; simp [intsAV, linksAV, a1, hE, q1, q1', q2, q2']) | (with_reducible refine OKv_go ?_; simp [intsAV, linksAV, a1, hE, q1, q1', q2, q2']) | (with_reducible refine OKr_go ?_; simp [intsAV, linksAV, a1, hE, q1, q1', q2, q2']))); repeat' (first | refine awp_seq ?_ | refine awp_block ?_ | (refine awp_skip ?_; try simp) | (refine awp_exit ?_; try simp) | (refine awp_ret ?_; try simp) | (refine retP_same (by simp) ?_; simp) | (refine retP_flat (by simp) (by simp) (by simp (maxDischargeDepth := 30) [intsAV, linksAV, a1, hE, q1, q1', q2, q2']) ?_; simp) | (refine awp_reg ?_; simp [intsAV, linksAV, a1, hE, q1, q1', q2, q2']) | (refine awp_drawT (fun _ => false) mixed (by decide +kernel) ?_; simp [intsAV, linksAV, a1, hE, q1, q1', q2, q2']) | (refine guarded_split ?_ ?_ <;> (intro hg; simp only [hg]; simp [intsAV, linksAV, a1, hE, q1, q1', q2, q2'])) | (apply awp_cond_t; focus (simp [intsAV, linksAV, a1, hE, q1, q1', q2, q2']; done)) | (apply awp_cond_f; focus (simp [intsAV, linksAV, a1, hE, q1, q1', q2, q2']; done)) | (refine awp_cond ?_; simp [intsAV, linksAV, a1, hE, q1, q1', q2, q2']; refine ⟨?_, ?_⟩ <;> intro hc))
    all_goals simp [refRightT, q2]
  have q2' : ¬ (8 : Int) < (t.ports.length : Int) := by omega
  by_cases q3 : 16 < t.links.length
  · have q3' : (16 : Int) < (t.links.length : Int) := by omega
    (try (first | (with_reducible refine dops_go ?_; simp [intsAV, linksAV, a1, hE, q1, q1', q2, q2', q3, q3']) | (with_reducible refine OKv_go ?_; simp [intsAV, linksAV, a1, hE, q1, q1', q2, q2', q3, q3']) | (with_reducible refine OKr_go ?_; simp [intsAV, linksAV, a1, hE, q1, q1', q2, q2', q3, q3']))); repeat' (first | refine awp_seq ?_ | refine awp_block ?_ | (refine awp_skip ?_; try simp) | (refine awp_exit ?_; try simp) | (refine awp_ret ?_; try simp) | (refine retP_same (by simp) ?_; simp) | (refine retP_flat (by simp) (by simp) (by simp (maxDischargeDepth := 30) [intsAV, linksAV, a1, hE, q1, q1', q2, q2', q3, q3']) ?_; simp) | (refine awp_reg ?_; simp [intsAV, linksAV, a1, hE, q1, q1', q2, q2', q3, q3']) | (refine awp_drawT (fun _ => false) mixed (by decide +kernel) ?_; simp [intsAV, linksAV, a1, hE, q1, q1', q2, q2', q3, q3']) | (refine guarded_split ?_ ?_ <;> (intro hg; simp only [hg]; simp [intsAV, linksAV, a1, hE, q1, q1', q2, q2', q3, q3'])) | (apply awp_cond_t; focus (simp [intsAV, linksAV, a1, hE, q1, q1', q2, q2', q3, q3']; done)) | (apply awp_cond_f; focus (simp [intsAV, linksAV, a1, hE, q1, q1', q2, q2', q3, q3']; done)) | (refine awp_cond ?_; simp [intsAV, linksAV, a1, hE, q1, q1', q2, q2', q3, q3']; refine ⟨?_, ?_⟩ <;> intro hc))
    all_goals simp [refRightT, q3]
  have q3' : ¬ (16 : Int) < (t.links.length : Int) := by omega
  (try (first | (with_reducible refine dops_go ?_; simp [intsAV, linksAV, a1, hE, q1, q1', q2, q2', q3, q3']) | (with_reducible refine OKv_go ?_; simp [intsAV, linksAV, a1, hE, q1, q1', q2, q2', q3, q3']) | (with_reducible refine OKr_go ?_; simp [intsAV, linksAV, a1, hE, q1, q1', q2, q2', q3, q3']))); repeat' (first | refine awp_seq ?_ | refine awp_block ?_ | (refine awp_skip ?_; try simp) | (refine awp_exit ?_; try simp) | (refine awp_ret ?_; try simp) | (refine retP_same (by simp) ?_; simp) | (refine retP_flat (by simp) (by simp) (by simp (maxDischargeDepth := 30) [intsAV, linksAV, a1, hE, q1, q1', q2, q2', q3, q3']) ?_; simp) | (refine awp_reg ?_; simp [intsAV, linksAV, a1, hE, q1, q1', q2, q2', q3, q3']) | (refine awp_drawT (fun _ => false) mixed (by decide +kernel) ?_; simp [intsAV, linksAV, a1, hE, q1, q1', q2, q2', q3, q3']) | (refine guarded_split ?_ ?_ <;> (intro hg; simp only [hg]; simp [intsAV, linksAV, a1, hE, q1, q1', q2, q2', q3, q3'])) | (apply awp_cond_t; focus (simp [intsAV, linksAV, a1, hE, q1, q1', q2, q2', q3, q3']; done)) | (apply awp_cond_f; focus (simp [intsAV, linksAV, a1, hE, q1, q1', q2, q2', q3, q3']; done)) | (refine awp_cond ?_; simp [intsAV, linksAV, a1, hE, q1, q1', q2, q2', q3, q3']; refine ⟨?_, ?_⟩ <;> intro hc))
  refine awp_loopH (fun n B ρ => Ext σ ρ ∧ B 1 = .pp [intsAV t.ports f.p, linksAV t.links f.l] 0 ∧ ∃ i : Nat, B 3 = .raw (.int .i64 i) ∧ i ≤ t.ports.length ∧ n = t.ports.length - i ∧ (t.ports.take i).all (fun n => decide (1 ≤ n) && decide (n ≤ 4)) = true) t.ports.length ?_ ?_
  · exact ⟨hE, by simp [a1], 0, by simp, by omega, by omega, by simp⟩
  clear hE a1
  rintro n B ρ ⟨hE, a1, i, a3, hi, rfl, hall⟩ I1 hI1
  by_cases hlt : i < t.ports.length
  · have hx : t.ports[i]? = some t.ports[i] := List.getElem?_eq_getElem hlt
    have w1 : IntKind.i64.wrap ((i : Int) + 1) = ((i + 1 : Nat) : Int) := by rw [wrap64 (by omega) (by omega)]; omega
    by_cases p1 : t.ports[i] < 1
    · have hf : t.ports.all (fun n => decide (1 ≤ n) && decide (n ≤ 4)) = false := by
        rw [List.all_eq_false]
        exact ⟨_, List.getElem_mem hlt, by simp; omega⟩
      (try (first | (with_reducible refine dops_go ?_; simp [intsAV, linksAV, iAV, a1, a3, hE, hlt, hx, w1, p1]) | (with_reducible refine OKv_go ?_; simp [intsAV, linksAV, iAV, a1, a3, hE, hlt, hx, w1, p1]) | (with_reducible refine OKr_go ?_; simp [intsAV, linksAV, iAV, a1, a3, hE, hlt, hx, w1, p1]))); repeat' (first | refine awp_seq ?_ | refine awp_block ?_ | (refine awp_skip ?_; try simp) | (refine awp_exit ?_; try simp) | (refine awp_ret ?_; try simp) | (refine retP_same (by simp) ?_; simp) | (refine retP_flat (by simp) (by simp) (by simp (maxDischargeDepth := 30) [intsAV, linksAV, iAV, a1, a3, hE, hlt, hx, w1, p1]) ?_; simp) | (refine awp_reg ?_; simp [intsAV, linksAV, iAV, a1, a3, hE, hlt, hx, w1, p1]) | (refine awp_drawT (fun _ => false) mixed (by decide +kernel) ?_; simp [intsAV, linksAV, iAV, a1, a3, hE, hlt, hx, w1, p1]) | (refine guarded_split ?_ ?_ <;> (intro hg; simp only [hg]; simp [intsAV, linksAV, iAV, a1, a3, hE, hlt, hx, w1, p1])) | (apply awp_cond_t; focus (simp [intsAV, linksAV, iAV, a1, a3, hE, hlt, hx, w1, p1]; done)) | (apply awp_cond_f; focus (simp [intsAV, linksAV, iAV, a1, a3, hE, hlt, hx, w1, p1]; done)) | (refine awp_cond ?_; simp [intsAV, linksAV, iAV, a1, a3, hE, hlt, hx, w1, p1]; refine ⟨?_, ?_⟩ <;> intro hc))
      all_goals simp [refRightT, hf]
    · by_cases p2 : 4 < t.ports[i]
      · have hf : t.ports.all (fun n => decide (1 ≤ n) && decide (n ≤ 4)) = false := by
          rw [List.all_eq_false]
          exact ⟨_, List.getElem_mem hlt, by simp; omega⟩
        (try (first | (with_reducible refine dops_go ?_; simp [intsAV, linksAV, iAV, a1, a3, hE, hlt, hx, w1, p1, p2]) | (with_reducible refine OKv_go ?_; simp [intsAV, linksAV, iAV, a1, a3, hE, hlt, hx, w1, p1, p2]) | (with_reducible refine OKr_go ?_; simp [intsAV, linksAV, iAV, a1, a3, hE, hlt, hx, w1, p1, p2]))); repeat' (first | refine awp_seq ?_ | refine awp_block ?_ | (refine awp_skip ?_; try simp) | (refine awp_exit ?_; try simp) | (refine awp_ret ?_; try simp) | (refine retP_same (by simp) ?_; simp) | (refine retP_flat (by simp) (by simp) (by simp (maxDischargeDepth := 30) [intsAV, linksAV, iAV, a1, a3, hE, hlt, hx, w1, p1, p2]) ?_; simp) | (refine awp_reg ?_; simp [intsAV, linksAV, iAV, a1, a3, hE, hlt, hx, w1, p1, p2]) | (refine awp_drawT (fun _ => false) mixed (by decide +kernel) ?_; simp [intsAV, linksAV, iAV, a1, a3, hE, hlt, hx, w1, p1, p2]) | (refine guarded_split ?_ ?_ <;> (intro hg; simp only [hg]; simp [intsAV, linksAV, iAV, a1, a3, hE, hlt, hx, w1, p1, p2])) | (apply awp_cond_t; focus (simp [intsAV, linksAV, iAV, a1, a3, hE, hlt, hx, w1, p1, p2]; done)) | (apply awp_cond_f; focus (simp [intsAV, linksAV, iAV, a1, a3, hE, hlt, hx, w1, p1, p2]; done)) | (refine awp_cond ?_; simp [intsAV, linksAV, iAV, a1, a3, hE, hlt, hx, w1, p1, p2]; refine ⟨?_, ?_⟩ <;> intro hc))
        all_goals simp [refRightT, hf]
      · have hp : (decide (1 ≤ t.ports[i]) && decide (t.ports[i] ≤ 4)) = true := by
          rw [Bool.and_eq_true, decide_eq_true_eq, decide_eq_true_eq]; exact ⟨by omega, by omega⟩
        have hall' : (t.ports.take (i + 1)).all (fun n => decide (1 ≤ n) && decide (n ≤ 4)) = true := by
          rw [List.take_add_one, hx, List.all_append, hall, Option.toList_some, List.all_cons, hp]; rfl
        (try (first | (with_reducible refine dops_go ?_; simp [intsAV, linksAV, iAV, a1, a3, hE, hlt, hx, w1, p1, p2]) | (with_reducible refine OKv_go ?_; simp [intsAV, linksAV, iAV, a1, a3, hE, hlt, hx, w1, p1, p2]) | (with_reducible refine OKr_go ?_; simp [intsAV, linksAV, iAV, a1, a3, hE, hlt, hx, w1, p1, p2]))); repeat' (first | refine awp_seq ?_ | refine awp_block ?_ | (refine awp_skip ?_; try simp) | (refine awp_exit ?_; try simp) | (refine awp_ret ?_; try simp) | (refine retP_same (by simp) ?_; simp) | (refine retP_flat (by simp) (by simp) (by simp (maxDischargeDepth := 30) [intsAV, linksAV, iAV, a1, a3, hE, hlt, hx, w1, p1, p2]) ?_; simp) | (refine awp_reg ?_; simp [intsAV, linksAV, iAV, a1, a3, hE, hlt, hx, w1, p1, p2]) | (refine awp_drawT (fun _ => false) mixed (by decide +kernel) ?_; simp [intsAV, linksAV, iAV, a1, a3, hE, hlt, hx, w1, p1, p2]) | (refine guarded_split ?_ ?_ <;> (intro hg; simp only [hg]; simp [intsAV, linksAV, iAV, a1, a3, hE, hlt, hx, w1, p1, p2])) | (apply awp_cond_t; focus (simp [intsAV, linksAV, iAV, a1, a3, hE, hlt, hx, w1, p1, p2]; done)) | (apply awp_cond_f; focus (simp [intsAV, linksAV, iAV, a1, a3, hE, hlt, hx, w1, p1, p2]; done)) | (refine awp_cond ?_; simp [intsAV, linksAV, iAV, a1, a3, hE, hlt, hx, w1, p1, p2]; refine ⟨?_, ?_⟩ <;> intro hc))
        exact hI1 (t.ports.length - (i + 1)) _ _ (by omega) ⟨hE, by simp [a1, intsAV, linksAV], i + 1, by simp, by omega, rfl, hall'⟩
  · have : i = t.ports.length := by omega
    subst this
    rw [List.take_length] at hall
    (try (first | (with_reducible refine dops_go ?_; simp [intsAV, linksAV, iAV, a1, a3, hE]) | (with_reducible refine OKv_go ?_; simp [intsAV, linksAV, iAV, a1, a3, hE]) | (with_reducible refine OKr_go ?_; simp [intsAV, linksAV, iAV, a1, a3, hE]))); repeat' (first | refine awp_seq ?_ | refine awp_block ?_ | (refine awp_skip ?_; try simp) | (refine awp_exit ?_; try simp) | (refine awp_ret ?_; try simp) | (refine retP_same (by simp) ?_; simp) | (refine retP_flat (by simp) (by simp) (by simp (maxDischargeDepth := 30) [intsAV, linksAV, iAV, a1, a3, hE]) ?_; simp) | (refine awp_reg ?_; simp [intsAV, linksAV, iAV, a1, a3, hE]) | (refine awp_drawT (fun _ => false) mixed (by decide +kernel) ?_; simp [intsAV, linksAV, iAV, a1, a3, hE]) | (refine guarded_split ?_ ?_ <;> (intro hg; simp only [hg]; simp [intsAV, linksAV, iAV, a1, a3, hE])) | (apply awp_cond_t; focus (simp [intsAV, linksAV, iAV, a1, a3, hE]; done)) | (apply awp_cond_f; focus (simp [intsAV, linksAV, iAV, a1, a3, hE]; done)) | (refine awp_cond ?_; simp [intsAV, linksAV, iAV, a1, a3, hE]; refine ⟨?_, ?_⟩ <;> intro hc))
    refine awp_loopH (fun n B ρ => Ext σ ρ ∧ B 1 = .pp [intsAV t.ports f.p, linksAV t.links f.l] 0 ∧ ∃ (k : Nat) (v : AV), B 4 = v ∧ OwnL σ ρ 2 v ((flatP (t.links.take k)).map ptAV) ∧ B 5 = .raw (.int .i64 k) ∧ k ≤ t.links.length ∧ n = t.links.length - k) t.links.length ?_ ?_
    · exact ⟨hE, by simp [a1, intsAV, linksAV], 0, _, rfl, .inl ⟨by simp [flatP], by simp⟩, by simp, by omega, by omega⟩
    clear hE a1 a3 hI1 I1
    rintro n B ρ ⟨hE, a1, k, v, a4, hO, a5, hk, rfl⟩ I1 hI1
    have hfl : ∀ L : List Lk, (flatP L).length = 2 * L.length := by
      intro L; induction L with
      | nil => rfl
      | cons l L ih => simp only [flatP, List.length_cons, ih]; omega
    by_cases hlt : k < t.links.length
    · have hx : t.links[k]? = some t.links[k] := List.getElem?_eq_getElem hlt
      have w1 : IntKind.i64.wrap ((k : Int) + 1) = ((k + 1 : Nat) : Int) := by rw [wrap64 (by omega) (by omega)]; omega
      have hfp : flatP (t.links.take (k + 1)) = flatP (t.links.take k) ++ [t.links[k].a, t.links[k].b] := by
        rw [List.take_add_one, hx]
        generalize t.links.take k = L
        induction L with
        | nil => rfl
        | cons l L ih => simp only [List.cons_append, flatP, ih]
      have fa : AV.agg [.raw (.int .i64 t.links[k].a.dev), .raw (.int .i64 t.links[k].a.port)] = ptAV t.links[k].a := rfl
      have fb : AV.agg [.raw (.int .i64 t.links[k].b.dev), .raw (.int .i64 t.links[k].b.port)] = ptAV t.links[k].b := rfl
      have hpc : ∀ q : Pt, (ptAV q).cells = [.raw (.int .i64 q.dev), .raw (.int .i64 q.port)] := fun q => rfl
      (try (first | (with_reducible refine dops_go ?_; simp [linksAV, intsAV, a1, a4, a5, hlt, hx, lk_cells', fa, fb, hpc, w1, -opAppend]) | (with_reducible refine OKv_go ?_; simp [linksAV, intsAV, a1, a4, a5, hlt, hx, lk_cells', fa, fb, hpc, w1, -opAppend]) | (with_reducible refine OKr_go ?_; simp [linksAV, intsAV, a1, a4, a5, hlt, hx, lk_cells', fa, fb, hpc, w1, -opAppend]))); repeat' (first | refine awp_seq ?_ | refine awp_block ?_ | (refine awp_skip ?_; try simp) | (refine awp_exit ?_; try simp) | (refine awp_ret ?_; try simp) | (refine retP_same (by simp) ?_; simp) | (refine retP_flat (by simp) (by simp) (by simp (maxDischargeDepth := 30) [linksAV, intsAV, a1, a4, a5, hlt, hx, lk_cells', fa, fb, hpc, w1, -opAppend]) ?_; simp) | (refine awp_reg ?_; simp [linksAV, intsAV, a1, a4, a5, hlt, hx, lk_cells', fa, fb, hpc, w1, -opAppend]) | (refine awp_drawT (fun _ => false) mixed (by decide +kernel) ?_; simp [linksAV, intsAV, a1, a4, a5, hlt, hx, lk_cells', fa, fb, hpc, w1, -opAppend]) | (refine guarded_split ?_ ?_ <;> (intro hg; simp only [hg]; simp [linksAV, intsAV, a1, a4, a5, hlt, hx, lk_cells', fa, fb, hpc, w1, -opAppend])) | (apply awp_cond_t; focus (simp [linksAV, intsAV, a1, a4, a5, hlt, hx, lk_cells', fa, fb, hpc, w1, -opAppend]; done)) | (apply awp_cond_f; focus (simp [linksAV, intsAV, a1, a4, a5, hlt, hx, lk_cells', fa, fb, hpc, w1, -opAppend]; done)) | (refine awp_cond ?_; simp [linksAV, intsAV, a1, a4, a5, hlt, hx, lk_cells', fa, fb, hpc, w1, -opAppend]; refine ⟨?_, ?_⟩ <;> intro hc))
      refine okr_append slt169 (hO.ext (Ext.new _ _ _ _)) (hE.trans (Ext.new _ _ _ _)) (ys := [ptAV t.links[k].a, ptAV t.links[k].b]) (by simp) (.inr rfl) (by simp [hpc]) (by simp [hfl, Nat.min_eq_left hk]; omega) ?_
      intro v' τ' hO' hE' _ _
      (try (first | (with_reducible refine dops_go ?_; simp [linksAV, intsAV, a1, a4, a5, w1]) | (with_reducible refine OKv_go ?_; simp [linksAV, intsAV, a1, a4, a5, w1]) | (with_reducible refine OKr_go ?_; simp [linksAV, intsAV, a1, a4, a5, w1]))); repeat' (first | refine awp_seq ?_ | refine awp_block ?_ | (refine awp_skip ?_; try simp) | (refine awp_exit ?_; try simp) | (refine awp_ret ?_; try simp) | (refine retP_same (by simp) ?_; simp) | (refine retP_flat (by simp) (by simp) (by simp (maxDischargeDepth := 30) [linksAV, intsAV, a1, a4, a5, w1]) ?_; simp) | (refine awp_reg ?_; simp [linksAV, intsAV, a1, a4, a5, w1]) | (refine awp_drawT (fun _ => false) mixed (by decide +kernel) ?_; simp [linksAV, intsAV, a1, a4, a5, w1]) | (refine guarded_split ?_ ?_ <;> (intro hg; simp only [hg]; simp [linksAV, intsAV, a1, a4, a5, w1])) | (apply awp_cond_t; focus (simp [linksAV, intsAV, a1, a4, a5, w1]; done)) | (apply awp_cond_f; focus (simp [linksAV, intsAV, a1, a4, a5, w1]; done)) | (refine awp_cond ?_; simp [linksAV, intsAV, a1, a4, a5, w1]; refine ⟨?_, ?_⟩ <;> intro hc))
      exact hI1 (t.links.length - (k + 1)) _ _ (by omega) ⟨hE', by simp [a1, intsAV, linksAV], k + 1, v', by simp, by rw [hfp]; simpa using hO', by simp, by omega, rfl⟩
    · have : k = t.links.length := by omega
      subst this
      rw [List.take_length] at hO
      have hFl := hfl t.links
      obtain ⟨F, hF⟩ : ∃ F, flatP t.links = F := ⟨_, rfl⟩
      have hres : refRightT t = (F.all (hasB t) && nodupB F) := by
        unfold refRightT
        rw [hF, hall, decide_eq_false q1, decide_eq_false q2, decide_eq_false q3]; rfl
      rw [hres]
      rw [hF] at hO hFl
      clear hres hI1 hall hfl
      have hpc : ∀ q : Pt, (ptAV q).cells = [.raw (.int .i64 q.dev), .raw (.int .i64 q.port)] := fun q => rfl
      have hpf : ∀ q : Pt, AV.agg [.raw (.int .i64 q.dev), .raw (.int .i64 q.port)] = ptAV q := fun q => rfl
      have htf : AV.agg [AV.sl 1 (t.ports.map iAV) f.p, AV.sl 4 (t.links.map lkAV) f.l] = tpAV t f := rfl
      have hbin : ∀ x y : Pt, opBin Try.prog .eql 41 (ptAV x) (ptAV y) = some (.raw (.bool (decide (x = y)))) := fun x y => by
        have e1 : opBin Try.prog .eql 41 (ptAV x) (ptAV y) = if Try.prog.eqGuardType Try.prog.depth 41 = false then (structEq Try.prog 4 41 (ptAV x) (ptAV y)).bind fun b => (nilBin .eql b).map .raw else none := rfl
        have := key_eq x y
        rw [e1, if_pos eqg41]
        rw [show structEq Try.prog 4 41 (ptAV x) (ptAV y) = some (decide (x = y)) from this]
        rfl
      (try (first | (with_reducible refine dops_go ?_; simp [linksAV, intsAV, a1, a4, a5]) | (with_reducible refine OKv_go ?_; simp [linksAV, intsAV, a1, a4, a5]) | (with_reducible refine OKr_go ?_; simp [linksAV, intsAV, a1, a4, a5]))); repeat' (first | refine awp_seq ?_ | refine awp_block ?_ | (refine awp_skip ?_; try simp) | (refine awp_exit ?_; try simp) | (refine awp_ret ?_; try simp) | (refine retP_same (by simp) ?_; simp) | (refine retP_flat (by simp) (by simp) (by simp (maxDischargeDepth := 30) [linksAV, intsAV, a1, a4, a5]) ?_; simp) | (refine awp_reg ?_; simp [linksAV, intsAV, a1, a4, a5]) | (refine awp_drawT (fun _ => false) mixed (by decide +kernel) ?_; simp [linksAV, intsAV, a1, a4, a5]) | (refine guarded_split ?_ ?_ <;> (intro hg; simp only [hg]; simp [linksAV, intsAV, a1, a4, a5])) | (apply awp_cond_t; focus (simp [linksAV, intsAV, a1, a4, a5]; done)) | (apply awp_cond_f; focus (simp [linksAV, intsAV, a1, a4, a5]; done)) | (refine awp_cond ?_; simp [linksAV, intsAV, a1, a4, a5]; refine ⟨?_, ?_⟩ <;> intro hc))
      refine awp_settle 4 (by simpa [a4] using hO) hE ?_
      intro A' τ' hE' e4 hf _ _ _ _
      have b1 : A' 1 = .pp [intsAV t.ports f.p, linksAV t.links f.l] 0 := by rw [hf 1 (by simp) (by simp [a1])]; simp [a1]
      have b6 : A' 6 = .raw (.int .i64 0) := by rw [hf 6 (by simp) (by simp)]; simp
      clear hf hE a1 a4 a5 hO
      refine awp_loopH (fun n B ρ => Ext σ ρ ∧ B 1 = .pp [intsAV t.ports f.p, linksAV t.links f.l] 0 ∧ B 4 = .sl 2 (F.map ptAV) false ∧ ∃ i : Nat, B 6 = .raw (.int .i64 i) ∧ i ≤ F.length ∧ n = F.length - i ∧ (F.take i).all (hasB t) = true ∧ (F.take i).Nodup) F.length ?_ ?_
      · exact ⟨hE', b1, e4, 0, by simp [b6], by omega, by omega, by simp, by simp⟩
      clear hE' b1 e4 b6
      rintro n B ρ ⟨hE, a1, a4, i, a6, hi, rfl, hal, hnd⟩ I1 hI1
      by_cases hlt : i < F.length
      · have hx : F[i]? = some F[i] := List.getElem?_eq_getElem hlt
        have w1 : IntKind.i64.wrap ((i : Int) + 1) = ((i + 1 : Nat) : Int) := by rw [wrap64 (by omega) (by omega)]; omega
        have hh := refHas_calls t f F[i] hl
        by_cases hb : hasB t F[i] = true
        · rw [hb] at hh
          (try ((first | with_reducible refine dops_go ?_ | with_reducible refine OKv_go ?_ | with_reducible refine OKr_go ?_); simp [-cellOK, linksAV, intsAV, a1, a4, a6, hlt, hx, hpc, htf])); repeat' (first | refine awp_seq ?_ | refine awp_block ?_ | (refine awp_skip ?_; try simp) | (refine awp_exit ?_; try simp) | (refine awp_ret ?_; try simp) | (refine retP_same (by simp) ?_; simp) | (refine retP_no (by simp) (by simp [noIds]) (by repeat (first | assumption | exact Ext.refl _ | refine ext_new' ?_ | refine Ext.setF ?_ (by first | assumption | (simp [new_nx', St.set, fresh_none]; done) | exact ext_fresh (by assumption)))) ?_; simp [-cellOK, linksAV, intsAV, a1, a4, a6, hlt, hx, hpc, htf, new_m, set_m, new_nx']) | ((first | refine awp_reg ?_ | refine awp_drawT (fun _ => false) mixed (by decide +kernel) ?_ | refine awp_drawT isCallO mixed (by decide +kernel) ?_ | refine PCalls.use (hh) ?_ | refine Or.inl ⟨_, Or.inl (hh), ?_⟩); simp [-cellOK, linksAV, intsAV, a1, a4, a6, hlt, hx, hpc, htf]) | (refine guarded_split ?_ ?_ <;> (intro hg; simp only [hg]; simp [-cellOK, linksAV, intsAV, a1, a4, a6, hlt, hx, hpc, htf])) | (apply awp_cond_t; focus (simp [-cellOK, linksAV, intsAV, a1, a4, a6, hlt, hx, hpc, htf]; done)) | (apply awp_cond_f; focus (simp [-cellOK, linksAV, intsAV, a1, a4, a6, hlt, hx, hpc, htf]; done)) | (refine awp_cond ?_; simp [-cellOK, linksAV, intsAV, a1, a4, a6, hlt, hx, hpc, htf]; refine ⟨?_, ?_⟩ <;> intro hc) | fail)
          refine awp_loopH (fun n B ρ => Ext σ ρ ∧ B 1 = .pp [intsAV t.ports f.p, linksAV t.links f.l] 0 ∧ B 4 = .sl 2 (F.map ptAV) false ∧ B 6 = .raw (.int .i64 i) ∧ ∃ k : Nat, B 8 = .raw (.int .i64 k) ∧ k ≤ i ∧ n = i - k ∧ ∀ j, (hj : j < k) → (hji : j < F.length) → F[j] ≠ F[i]) i ?_ ?_
          · exact ⟨by simp [hE], by simp [a1, linksAV, intsAV], by simp [a4], by simp [a6], 0, by simp, by omega, by omega, fun j hj => by omega⟩
          rintro n C τ ⟨hE, a1, a4, a6, k, a8, hk, rfl, hne⟩ J1 hJ1
          by_cases hki : k < i
          · have hkl : k < F.length := by omega
            have hx2 : F[k]? = some F[k] := List.getElem?_eq_getElem hkl
            have w2 : IntKind.i64.wrap ((k : Int) + 1) = ((k + 1 : Nat) : Int) := by rw [wrap64 (by omega) (by omega)]; omega
            by_cases he : F[k] = F[i]
            · have hnn : nodupB F = false := by
                cases h : nodupB F with
                | false => rfl
                | true =>
                  have := (nodupB_iff _).1 h
                  exact absurd he (List.pairwise_iff_getElem.1 this k i hkl hlt hki)
              have hd : decide (F[k] = F[i]) = true := decide_eq_true he
              rw [show (F.all (hasB t) && nodupB F) = false by rw [hnn, Bool.and_false]]
              (try ((first | with_reducible refine dops_go ?_ | with_reducible refine OKv_go ?_ | with_reducible refine OKr_go ?_); simp [-cellOK, linksAV, intsAV, hE, a1, a4, a6, a8, hlt, hx, hkl, hki, hx2, w2, hpc, hpf, -opBin, hbin, opBin_raw, hd])); repeat' (first | refine awp_seq ?_ | refine awp_block ?_ | (refine awp_skip ?_; try simp) | (refine awp_exit ?_; try simp) | (refine awp_ret ?_; try simp) | (refine retP_same (by simp) ?_; simp) | (refine retP_no (by simp) (by simp [noIds]) (by repeat (first | assumption | exact Ext.refl _ | refine ext_new' ?_ | refine Ext.setF ?_ (by first | assumption | (simp [new_nx', St.set, fresh_none]; done) | exact ext_fresh (by assumption)))) ?_; simp [-cellOK, linksAV, intsAV, hE, a1, a4, a6, a8, hlt, hx, hkl, hki, hx2, w2, hpc, hpf, -opBin, hbin, opBin_raw, hd, new_m, set_m, new_nx']) | ((first | refine awp_reg ?_ | refine awp_drawT (fun _ => false) mixed (by decide +kernel) ?_ | refine awp_drawT isCallO mixed (by decide +kernel) ?_ | refine PCalls.use (hh) ?_ | refine Or.inl ⟨_, Or.inl (hh), ?_⟩); simp [-cellOK, linksAV, intsAV, hE, a1, a4, a6, a8, hlt, hx, hkl, hki, hx2, w2, hpc, hpf, -opBin, hbin, opBin_raw, hd]) | (refine guarded_split ?_ ?_ <;> (intro hg; simp only [hg]; simp [-cellOK, linksAV, intsAV, hE, a1, a4, a6, a8, hlt, hx, hkl, hki, hx2, w2, hpc, hpf, -opBin, hbin, opBin_raw, hd])) | (apply awp_cond_t; focus (simp [-cellOK, linksAV, intsAV, hE, a1, a4, a6, a8, hlt, hx, hkl, hki, hx2, w2, hpc, hpf, -opBin, hbin, opBin_raw, hd]; done)) | (apply awp_cond_f; focus (simp [-cellOK, linksAV, intsAV, hE, a1, a4, a6, a8, hlt, hx, hkl, hki, hx2, w2, hpc, hpf, -opBin, hbin, opBin_raw, hd]; done)) | (refine awp_cond ?_; simp [-cellOK, linksAV, intsAV, hE, a1, a4, a6, a8, hlt, hx, hkl, hki, hx2, w2, hpc, hpf, -opBin, hbin, opBin_raw, hd]; refine ⟨?_, ?_⟩ <;> intro hc) | fail)
            · have hd : decide (F[k] = F[i]) = false := decide_eq_false he
              (try ((first | with_reducible refine dops_go ?_ | with_reducible refine OKv_go ?_ | with_reducible refine OKr_go ?_); simp [-cellOK, linksAV, intsAV, a1, a4, a6, a8, hlt, hx, hkl, hki, hx2, w2, hpc, hpf, -opBin, hbin, opBin_raw, hd])); repeat' (first | refine awp_seq ?_ | refine awp_block ?_ | (refine awp_skip ?_; try simp) | (refine awp_exit ?_; try simp) | (refine awp_ret ?_; try simp) | (refine retP_same (by simp) ?_; simp) | (refine retP_no (by simp) (by simp [noIds]) (by repeat (first | assumption | exact Ext.refl _ | refine ext_new' ?_ | refine Ext.setF ?_ (by first | assumption | (simp [new_nx', St.set, fresh_none]; done) | exact ext_fresh (by assumption)))) ?_; simp [-cellOK, linksAV, intsAV, a1, a4, a6, a8, hlt, hx, hkl, hki, hx2, w2, hpc, hpf, -opBin, hbin, opBin_raw, hd, new_m, set_m, new_nx']) | ((first | refine awp_reg ?_ | refine awp_drawT (fun _ => false) mixed (by decide +kernel) ?_ | refine awp_drawT isCallO mixed (by decide +kernel) ?_ | refine PCalls.use (hh) ?_ | refine Or.inl ⟨_, Or.inl (hh), ?_⟩); simp [-cellOK, linksAV, intsAV, a1, a4, a6, a8, hlt, hx, hkl, hki, hx2, w2, hpc, hpf, -opBin, hbin, opBin_raw, hd]) | (refine guarded_split ?_ ?_ <;> (intro hg; simp only [hg]; simp [-cellOK, linksAV, intsAV, a1, a4, a6, a8, hlt, hx, hkl, hki, hx2, w2, hpc, hpf, -opBin, hbin, opBin_raw, hd])) | (apply awp_cond_t; focus (simp [-cellOK, linksAV, intsAV, a1, a4, a6, a8, hlt, hx, hkl, hki, hx2, w2, hpc, hpf, -opBin, hbin, opBin_raw, hd]; done)) | (apply awp_cond_f; focus (simp [-cellOK, linksAV, intsAV, a1, a4, a6, a8, hlt, hx, hkl, hki, hx2, w2, hpc, hpf, -opBin, hbin, opBin_raw, hd]; done)) | (refine awp_cond ?_; simp [-cellOK, linksAV, intsAV, a1, a4, a6, a8, hlt, hx, hkl, hki, hx2, w2, hpc, hpf, -opBin, hbin, opBin_raw, hd]; refine ⟨?_, ?_⟩ <;> intro hc) | fail)
              exact hJ1 (i - (k + 1)) _ _ (by omega) ⟨hE, by simp [a1, linksAV, intsAV], by simp [a4], by simp [a6], k + 1, by simp, by omega, rfl, fun j hj hji => by
                by_cases e : j = k
                · subst e; exact he
                · exact hne j (by omega) hji⟩
          · have : k = i := by omega
            subst this
            (try ((first | with_reducible refine dops_go ?_ | with_reducible refine OKv_go ?_ | with_reducible refine OKr_go ?_); simp [-cellOK, linksAV, intsAV, a1, a4, a6, a8, w1])); repeat' (first | refine awp_seq ?_ | refine awp_block ?_ | (refine awp_skip ?_; try simp) | (refine awp_exit ?_; try simp) | (refine awp_ret ?_; try simp) | (refine retP_same (by simp) ?_; simp) | (refine retP_no (by simp) (by simp [noIds]) (by repeat (first | assumption | exact Ext.refl _ | refine ext_new' ?_ | refine Ext.setF ?_ (by first | assumption | (simp [new_nx', St.set, fresh_none]; done) | exact ext_fresh (by assumption)))) ?_; simp [-cellOK, linksAV, intsAV, a1, a4, a6, a8, w1, new_m, set_m, new_nx']) | ((first | refine awp_reg ?_ | refine awp_drawT (fun _ => false) mixed (by decide +kernel) ?_ | refine awp_drawT isCallO mixed (by decide +kernel) ?_ | refine PCalls.use (hh) ?_ | refine Or.inl ⟨_, Or.inl (hh), ?_⟩); simp [-cellOK, linksAV, intsAV, a1, a4, a6, a8, w1]) | (refine guarded_split ?_ ?_ <;> (intro hg; simp only [hg]; simp [-cellOK, linksAV, intsAV, a1, a4, a6, a8, w1])) | (apply awp_cond_t; focus (simp [-cellOK, linksAV, intsAV, a1, a4, a6, a8, w1]; done)) | (apply awp_cond_f; focus (simp [-cellOK, linksAV, intsAV, a1, a4, a6, a8, w1]; done)) | (refine awp_cond ?_; simp [-cellOK, linksAV, intsAV, a1, a4, a6, a8, w1]; refine ⟨?_, ?_⟩ <;> intro hc) | fail)
            refine hI1 (F.length - (k + 1)) _ _ (by omega) ⟨hE, by simp [a1, linksAV, intsAV], by simp [a4], k + 1, by simp, by omega, rfl, ?_, ?_⟩
            · rw [List.take_add_one, hx, List.all_append, hal, Option.toList_some, List.all_cons, hb]; rfl
            · rw [List.take_add_one, hx, List.nodup_append]
              refine ⟨hnd, by simp, fun a ha b hbm e => ?_⟩
              simp only [Option.toList_some, List.mem_singleton] at hbm
              subst hbm; subst e
              obtain ⟨j, hj, e2⟩ := List.mem_iff_getElem.1 ha
              simp only [List.length_take] at hj
              rw [List.getElem_take] at e2
              exact hne j (by omega) (by omega) e2
        · have hb' : hasB t F[i] = false := by simpa using hb
          rw [hb'] at hh
          have hF0 : F.all (hasB t) = false := by
            rw [List.all_eq_false]
            exact ⟨_, List.getElem_mem hlt, by simp [hb']⟩
          rw [show (F.all (hasB t) && nodupB F) = false by rw [hF0, Bool.false_and]]
          (try ((first | with_reducible refine dops_go ?_ | with_reducible refine OKv_go ?_ | with_reducible refine OKr_go ?_); simp [-cellOK, linksAV, intsAV, hE, a1, a4, a6, hlt, hx, hpc, hpf, htf])); repeat' (first | refine awp_seq ?_ | refine awp_block ?_ | (refine awp_skip ?_; try simp) | (refine awp_exit ?_; try simp) | (refine awp_ret ?_; try simp) | (refine retP_same (by simp) ?_; simp) | (refine retP_no (by simp) (by simp [noIds]) (by repeat (first | assumption | exact Ext.refl _ | refine ext_new' ?_ | refine Ext.setF ?_ (by first | assumption | (simp [new_nx', St.set, fresh_none]; done) | exact ext_fresh (by assumption)))) ?_; simp [-cellOK, linksAV, intsAV, hE, a1, a4, a6, hlt, hx, hpc, hpf, htf, new_m, set_m, new_nx']) | ((first | refine awp_reg ?_ | refine awp_drawT (fun _ => false) mixed (by decide +kernel) ?_ | refine awp_drawT isCallO mixed (by decide +kernel) ?_ | refine PCalls.use (hh) ?_ | refine Or.inl ⟨_, Or.inl (hh), ?_⟩); simp [-cellOK, linksAV, intsAV, hE, a1, a4, a6, hlt, hx, hpc, hpf, htf]) | (refine guarded_split ?_ ?_ <;> (intro hg; simp only [hg]; simp [-cellOK, linksAV, intsAV, hE, a1, a4, a6, hlt, hx, hpc, hpf, htf])) | (apply awp_cond_t; focus (simp [-cellOK, linksAV, intsAV, hE, a1, a4, a6, hlt, hx, hpc, hpf, htf]; done)) | (apply awp_cond_f; focus (simp [-cellOK, linksAV, intsAV, hE, a1, a4, a6, hlt, hx, hpc, hpf, htf]; done)) | (refine awp_cond ?_; simp [-cellOK, linksAV, intsAV, hE, a1, a4, a6, hlt, hx, hpc, hpf, htf]; refine ⟨?_, ?_⟩ <;> intro hc) | fail)
      · have : i = F.length := by omega
        subst this
        rw [List.take_length] at hal hnd
        have hnn := (nodupB_iff F).2 hnd
        rw [hal, hnn]
        (try ((first | with_reducible refine dops_go ?_ | with_reducible refine OKv_go ?_ | with_reducible refine OKr_go ?_); simp [-cellOK, linksAV, intsAV, hE, a1, a4, a6])); repeat' (first | refine awp_seq ?_ | refine awp_block ?_ | (refine awp_skip ?_; try simp) | (refine awp_exit ?_; try simp) | (refine awp_ret ?_; try simp) | (refine retP_same (by simp) ?_; simp) | (refine retP_no (by simp) (by simp [noIds]) (by repeat (first | assumption | exact Ext.refl _ | refine ext_new' ?_ | refine Ext.setF ?_ (by first | assumption | (simp [new_nx', St.set, fresh_none]; done) | exact ext_fresh (by assumption)))) ?_; simp [-cellOK, linksAV, intsAV, hE, a1, a4, a6, new_m, set_m, new_nx']) | ((first | refine awp_reg ?_ | refine awp_drawT (fun _ => false) mixed (by decide +kernel) ?_ | refine awp_drawT isCallO mixed (by decide +kernel) ?_); simp [-cellOK, linksAV, intsAV, hE, a1, a4, a6]) | (refine guarded_split ?_ ?_ <;> (intro hg; simp only [hg]; simp [-cellOK, linksAV, intsAV, hE, a1, a4, a6])) | (apply awp_cond_t; focus (simp [-cellOK, linksAV, intsAV, hE, a1, a4, a6]; done)) | (apply awp_cond_f; focus (simp [-cellOK, linksAV, intsAV, hE, a1, a4, a6]; done)) | (refine awp_cond ?_; simp [-cellOK, linksAV, intsAV, hE, a1, a4, a6]; refine ⟨?_, ?_⟩ <;> intro hc) | fail)
end Go.Proofs.Ytanimmdlgmkmkaa.Av


/- Networks: the document's right rules, all of them. -/
namespace Go.Proofs.Ytanimmdlgmkmkaa.Av
open Go
set_option linter.unusedSimpArgs false
set_option linter.unusedVariables false
set_option maxRecDepth 100000
set_option maxHeartbeats 2000000
set_option pp.maxSteps 300

/-- The ID ahead of the place i. -/
def idAt (l : List Ru) (i : Nat) : Int := match i with | 0 => 0 | k + 1 => match l[k]? with | some r => r.id | none => 0
theorem refAll_calls (l : List Ru) (f : Bool) (hl : l.length < 2932031007403) (hid : ∀ r ∈ l, -9223372036854775808 ≤ r.id ∧ r.id < 9223372036854775808) : PCalls Try.prog 81 [rulesAV l f] (.raw (.bool (allB l))) := by
  refine pbody Try.func81 rfl (N := 39) rfl rfl (by simp) (by simp [noIds]) fun σ => ?_
  (try (first | (with_reducible refine dops_go ?_; simp [rulesAV]) | (with_reducible refine OKv_go ?_; simp [rulesAV]) | (with_reducible refine OKr_go ?_; simp [rulesAV]))); repeat' (first | refine awp_seq ?_ | refine awp_block ?_ | (refine awp_skip ?_; try simp) | (refine awp_exit ?_; try simp) | (refine awp_ret ?_; try simp) | (refine retP_same (by simp) ?_; simp) | (refine retP_flat (by simp) (by simp) (by simp (maxDischargeDepth := 30) [rulesAV]) ?_; simp) | (refine awp_reg ?_; simp [rulesAV]) | (refine awp_drawT (fun _ => false) mixed (by decide +kernel) ?_; simp [rulesAV]) | (refine guarded_split ?_ ?_ <;> (intro hg; simp only [hg]; simp [rulesAV])) | (apply awp_cond_t; focus (simp [rulesAV]; done)) | (apply awp_cond_f; focus (simp [rulesAV]; done)) | (refine awp_cond ?_; simp [rulesAV]; refine ⟨?_, ?_⟩ <;> intro hc))
  refine awp_loopH (fun n A τ => τ = σ ∧ A 0 = rulesAV l f ∧ ∃ i : Nat, A 3 = .raw (.int .i64 i) ∧ i ≤ l.length ∧ n = l.length - i ∧ allFrom 0 l = allFrom (idAt l i) (l.drop i)) l.length ?_ ?_
  · exact ⟨rfl, by simp [rulesAV], 0, by simp, by omega, by omega, by simp [idAt]⟩
  rintro n A τ ⟨rfl, a0, i, a3, hi, rfl, hall⟩ I1 hI1
  by_cases hlt : i < l.length
  · have hx : l[i]? = some l[i] := List.getElem?_eq_getElem hlt
    have w1 : IntKind.i64.wrap ((i : Int) + 1) = ((i + 1 : Nat) : Int) := by rw [wrap64 (by omega) (by omega)]; omega
    have hd : l.drop i = l[i] :: l.drop (i + 1) := List.drop_eq_getElem_cons hlt
    rw [hd] at hall
    simp only [allFrom] at hall
    obtain ⟨b, hb⟩ : ∃ b, ruleB l[i] = b := ⟨_, rfl⟩
    have hr := hb ▸ refRuleRight_calls l[i] (hid _ (List.getElem_mem _)).1 (hid _ (List.getElem_mem _)).2
    rw [hb] at hall
    (try (first | (with_reducible refine dops_go ?_; simp [rulesAV, a0, a3, hlt, hx, ru_cells, ru_ok, ru_fold, w1]) | (with_reducible refine OKv_go ?_; simp [rulesAV, a0, a3, hlt, hx, ru_cells, ru_ok, ru_fold, w1]) | (with_reducible refine OKr_go ?_; simp [rulesAV, a0, a3, hlt, hx, ru_cells, ru_ok, ru_fold, w1]))); repeat' (first | refine awp_seq ?_ | refine awp_block ?_ | (refine awp_skip ?_; try simp) | (refine awp_exit ?_; try simp) | (refine awp_ret ?_; try simp) | (refine retP_same (by simp) ?_; simp) | (refine retP_flat (by simp) (by simp) (by simp (maxDischargeDepth := 30) [rulesAV, a0, a3, hlt, hx, ru_cells, ru_ok, ru_fold, w1]) ?_; simp) | (refine awp_reg ?_; simp [rulesAV, a0, a3, hlt, hx, ru_cells, ru_ok, ru_fold, w1]) | (refine awp_drawT (fun _ => false) mixed (by decide +kernel) ?_; simp [rulesAV, a0, a3, hlt, hx, ru_cells, ru_ok, ru_fold, w1]) | (refine guarded_split ?_ ?_ <;> (intro hg; simp only [hg]; simp [rulesAV, a0, a3, hlt, hx, ru_cells, ru_ok, ru_fold, w1])) | (apply awp_cond_t; focus (simp [rulesAV, a0, a3, hlt, hx, ru_cells, ru_ok, ru_fold, w1]; done)) | (apply awp_cond_f; focus (simp [rulesAV, a0, a3, hlt, hx, ru_cells, ru_ok, ru_fold, w1]; done)) | (refine awp_cond ?_; simp [rulesAV, a0, a3, hlt, hx, ru_cells, ru_ok, ru_fold, w1]; refine ⟨?_, ?_⟩ <;> intro hc))
    refine PCalls.use hr ?_
    cases b with
    | false =>
      (try (first | (with_reducible refine dops_go ?_; simp [rulesAV, a0, a3, hlt, hx, ru_cells, ru_ok, ru_fold, w1]) | (with_reducible refine OKv_go ?_; simp [rulesAV, a0, a3, hlt, hx, ru_cells, ru_ok, ru_fold, w1]) | (with_reducible refine OKr_go ?_; simp [rulesAV, a0, a3, hlt, hx, ru_cells, ru_ok, ru_fold, w1]))); repeat' (first | refine awp_seq ?_ | refine awp_block ?_ | (refine awp_skip ?_; try simp) | (refine awp_exit ?_; try simp) | (refine awp_ret ?_; try simp) | (refine retP_same (by simp) ?_; simp) | (refine retP_flat (by simp) (by simp) (by simp (maxDischargeDepth := 30) [rulesAV, a0, a3, hlt, hx, ru_cells, ru_ok, ru_fold, w1]) ?_; simp) | (refine awp_reg ?_; simp [rulesAV, a0, a3, hlt, hx, ru_cells, ru_ok, ru_fold, w1]) | (refine awp_drawT (fun _ => false) mixed (by decide +kernel) ?_; simp [rulesAV, a0, a3, hlt, hx, ru_cells, ru_ok, ru_fold, w1]) | (refine guarded_split ?_ ?_ <;> (intro hg; simp only [hg]; simp [rulesAV, a0, a3, hlt, hx, ru_cells, ru_ok, ru_fold, w1])) | (apply awp_cond_t; focus (simp [rulesAV, a0, a3, hlt, hx, ru_cells, ru_ok, ru_fold, w1]; done)) | (apply awp_cond_f; focus (simp [rulesAV, a0, a3, hlt, hx, ru_cells, ru_ok, ru_fold, w1]; done)) | (refine awp_cond ?_; simp [rulesAV, a0, a3, hlt, hx, ru_cells, ru_ok, ru_fold, w1]; refine ⟨?_, ?_⟩ <;> intro hc))
      all_goals simp [allB, hall]
    | true =>
      cases i with
      | zero =>
        have hpos : 1 ≤ l[0].id := by
          have := hb; unfold ruleB at this; simp at this; omega
        (try (first | (with_reducible refine dops_go ?_; simp [rulesAV, a0, a3, hlt, hx, ru_cells, ru_ok, ru_fold, w1]) | (with_reducible refine OKv_go ?_; simp [rulesAV, a0, a3, hlt, hx, ru_cells, ru_ok, ru_fold, w1]) | (with_reducible refine OKr_go ?_; simp [rulesAV, a0, a3, hlt, hx, ru_cells, ru_ok, ru_fold, w1]))); repeat' (first | refine awp_seq ?_ | refine awp_block ?_ | (refine awp_skip ?_; try simp) | (refine awp_exit ?_; try simp) | (refine awp_ret ?_; try simp) | (refine retP_same (by simp) ?_; simp) | (refine retP_flat (by simp) (by simp) (by simp (maxDischargeDepth := 30) [rulesAV, a0, a3, hlt, hx, ru_cells, ru_ok, ru_fold, w1]) ?_; simp) | (refine awp_reg ?_; simp [rulesAV, a0, a3, hlt, hx, ru_cells, ru_ok, ru_fold, w1]) | (refine awp_drawT (fun _ => false) mixed (by decide +kernel) ?_; simp [rulesAV, a0, a3, hlt, hx, ru_cells, ru_ok, ru_fold, w1]) | (refine guarded_split ?_ ?_ <;> (intro hg; simp only [hg]; simp [rulesAV, a0, a3, hlt, hx, ru_cells, ru_ok, ru_fold, w1])) | (apply awp_cond_t; focus (simp [rulesAV, a0, a3, hlt, hx, ru_cells, ru_ok, ru_fold, w1]; done)) | (apply awp_cond_f; focus (simp [rulesAV, a0, a3, hlt, hx, ru_cells, ru_ok, ru_fold, w1]; done)) | (refine awp_cond ?_; simp [rulesAV, a0, a3, hlt, hx, ru_cells, ru_ok, ru_fold, w1]; refine ⟨?_, ?_⟩ <;> intro hc))
        have w0 : IntKind.i64.wrap 1 = 1 := wrap64 (by omega) (by omega)
        have hx0 : l[0]? = some l[0] := hx
        have h0 : (0 : Int) < l[0].id := by omega
        have h1 : idAt l 1 = l[0].id := by simp [idAt, hx0]
        exact hI1 (l.length - 1) _ _ (by omega) ⟨rfl, by simp [a0, rulesAV], 1, by simp [w0], by omega, rfl, by rw [hall, h1]; simp [idAt, h0]⟩
      | succ k =>
        have hk : k < l.length := by omega
        have hxk : l[k]? = some l[k] := List.getElem?_eq_getElem hk
        have w2 : IntKind.i64.wrap (k : Int) = k := wrap64 (by omega) (by omega)
        have hp0 : (0 : Int) ≤ (k : Int) + 1 := by omega
        have htn : ((k : Int) + 1).toNat = k + 1 := by omega
        have w4 : IntKind.i64.wrap ((k : Int) + 1 + 1) = (k : Int) + 1 + 1 := wrap64 (by omega) (by omega)
        have w3 : IntKind.i64.wrap ((k : Int) + 1 - 1) = k := by rw [wrap64 (by omega) (by omega)]; omega
        have hidk : idAt l (k + 1) = l[k].id := by simp [idAt, hxk]
        rw [hidk] at hall
        have hpk : (0 : Int) < (k : Int) + 1 := by omega
        by_cases hle : l[k + 1].id ≤ l[k].id
        · have hnl : ¬ l[k].id < l[k + 1].id := by omega
          (try (first | (with_reducible refine dops_go ?_; simp [rulesAV, a0, a3, hlt, hx, hk, hxk, ru_cells, ru_ok, ru_fold, w1, w2, w3, w4, hp0, htn, hpk, hle]) | (with_reducible refine OKv_go ?_; simp [rulesAV, a0, a3, hlt, hx, hk, hxk, ru_cells, ru_ok, ru_fold, w1, w2, w3, w4, hp0, htn, hpk, hle]) | (with_reducible refine OKr_go ?_; simp [rulesAV, a0, a3, hlt, hx, hk, hxk, ru_cells, ru_ok, ru_fold, w1, w2, w3, w4, hp0, htn, hpk, hle]))); repeat' (first | refine awp_seq ?_ | refine awp_block ?_ | (refine awp_skip ?_; try simp) | (refine awp_exit ?_; try simp) | (refine awp_ret ?_; try simp) | (refine retP_same (by simp) ?_; simp) | (refine retP_flat (by simp) (by simp) (by simp (maxDischargeDepth := 30) [rulesAV, a0, a3, hlt, hx, hk, hxk, ru_cells, ru_ok, ru_fold, w1, w2, w3, w4, hp0, htn, hpk, hle]) ?_; simp) | (refine awp_reg ?_; simp [rulesAV, a0, a3, hlt, hx, hk, hxk, ru_cells, ru_ok, ru_fold, w1, w2, w3, w4, hp0, htn, hpk, hle]) | (refine awp_drawT (fun _ => false) mixed (by decide +kernel) ?_; simp [rulesAV, a0, a3, hlt, hx, hk, hxk, ru_cells, ru_ok, ru_fold, w1, w2, w3, w4, hp0, htn, hpk, hle]) | (refine guarded_split ?_ ?_ <;> (intro hg; simp only [hg]; simp [rulesAV, a0, a3, hlt, hx, hk, hxk, ru_cells, ru_ok, ru_fold, w1, w2, w3, w4, hp0, htn, hpk, hle])) | (apply awp_cond_t; focus (simp [rulesAV, a0, a3, hlt, hx, hk, hxk, ru_cells, ru_ok, ru_fold, w1, w2, w3, w4, hp0, htn, hpk, hle]; done)) | (apply awp_cond_f; focus (simp [rulesAV, a0, a3, hlt, hx, hk, hxk, ru_cells, ru_ok, ru_fold, w1, w2, w3, w4, hp0, htn, hpk, hle]; done)) | (refine awp_cond ?_; simp [rulesAV, a0, a3, hlt, hx, hk, hxk, ru_cells, ru_ok, ru_fold, w1, w2, w3, w4, hp0, htn, hpk, hle]; refine ⟨?_, ?_⟩ <;> intro hc))
          all_goals simp [allB, hall, hnl]
        · have hg : l[k].id < l[k + 1].id := by omega
          (try (first | (with_reducible refine dops_go ?_; simp [rulesAV, a0, a3, hlt, hx, hk, hxk, ru_cells, ru_ok, ru_fold, w1, w2, w3, w4, hp0, htn, hpk, hle]) | (with_reducible refine OKv_go ?_; simp [rulesAV, a0, a3, hlt, hx, hk, hxk, ru_cells, ru_ok, ru_fold, w1, w2, w3, w4, hp0, htn, hpk, hle]) | (with_reducible refine OKr_go ?_; simp [rulesAV, a0, a3, hlt, hx, hk, hxk, ru_cells, ru_ok, ru_fold, w1, w2, w3, w4, hp0, htn, hpk, hle]))); repeat' (first | refine awp_seq ?_ | refine awp_block ?_ | (refine awp_skip ?_; try simp) | (refine awp_exit ?_; try simp) | (refine awp_ret ?_; try simp) | (refine retP_same (by simp) ?_; simp) | (refine retP_flat (by simp) (by simp) (by simp (maxDischargeDepth := 30) [rulesAV, a0, a3, hlt, hx, hk, hxk, ru_cells, ru_ok, ru_fold, w1, w2, w3, w4, hp0, htn, hpk, hle]) ?_; simp) | (refine awp_reg ?_; simp [rulesAV, a0, a3, hlt, hx, hk, hxk, ru_cells, ru_ok, ru_fold, w1, w2, w3, w4, hp0, htn, hpk, hle]) | (refine awp_drawT (fun _ => false) mixed (by decide +kernel) ?_; simp [rulesAV, a0, a3, hlt, hx, hk, hxk, ru_cells, ru_ok, ru_fold, w1, w2, w3, w4, hp0, htn, hpk, hle]) | (refine guarded_split ?_ ?_ <;> (intro hg; simp only [hg]; simp [rulesAV, a0, a3, hlt, hx, hk, hxk, ru_cells, ru_ok, ru_fold, w1, w2, w3, w4, hp0, htn, hpk, hle])) | (apply awp_cond_t; focus (simp [rulesAV, a0, a3, hlt, hx, hk, hxk, ru_cells, ru_ok, ru_fold, w1, w2, w3, w4, hp0, htn, hpk, hle]; done)) | (apply awp_cond_f; focus (simp [rulesAV, a0, a3, hlt, hx, hk, hxk, ru_cells, ru_ok, ru_fold, w1, w2, w3, w4, hp0, htn, hpk, hle]; done)) | (refine awp_cond ?_; simp [rulesAV, a0, a3, hlt, hx, hk, hxk, ru_cells, ru_ok, ru_fold, w1, w2, w3, w4, hp0, htn, hpk, hle]; refine ⟨?_, ?_⟩ <;> intro hc))
          exact hI1 (l.length - (k + 1 + 1)) _ _ (by omega) ⟨rfl, by simp [a0, rulesAV], k + 1 + 1, by simp, by omega, rfl, by rw [hall]; simp [idAt, hx, hg]⟩
  · have : i = l.length := by omega
    subst this
    (try (first | (with_reducible refine dops_go ?_; simp [rulesAV, a0, a3]) | (with_reducible refine OKv_go ?_; simp [rulesAV, a0, a3]) | (with_reducible refine OKr_go ?_; simp [rulesAV, a0, a3]))); repeat' (first | refine awp_seq ?_ | refine awp_block ?_ | (refine awp_skip ?_; try simp) | (refine awp_exit ?_; try simp) | (refine awp_ret ?_; try simp) | (refine retP_same (by simp) ?_; simp) | (refine retP_flat (by simp) (by simp) (by simp (maxDischargeDepth := 30) [rulesAV, a0, a3]) ?_; simp) | (refine awp_reg ?_; simp [rulesAV, a0, a3]) | (refine awp_drawT (fun _ => false) mixed (by decide +kernel) ?_; simp [rulesAV, a0, a3]) | (refine guarded_split ?_ ?_ <;> (intro hg; simp only [hg]; simp [rulesAV, a0, a3])) | (apply awp_cond_t; focus (simp [rulesAV, a0, a3]; done)) | (apply awp_cond_f; focus (simp [rulesAV, a0, a3]; done)) | (refine awp_cond ?_; simp [rulesAV, a0, a3]; refine ⟨?_, ?_⟩ <;> intro hc))
    rw [List.drop_length] at hall
    simp only [allFrom] at hall
    simp [allB, hall]
    omega
end Go.Proofs.Ytanimmdlgmkmkaa.Av


/- The laws' own functions: right networks, such as are asked about, the live question of queries. -/
namespace Go.Proofs.Ytanimmdlgmkmkaa.Av
open Go
set_option linter.unusedSimpArgs false
set_option linter.unusedVariables false
set_option maxRecDepth 100000
set_option maxHeartbeats 4000000
set_option pp.maxSteps 600

theorem refNwRight_calls (n : Nw) (f : Fl) (hn : NwOK n) : PCalls Try.prog 45 [nwAV n f] (.raw (.bool (rightN n))) := by
  have l1 := hn.ports
  have l2 := hn.links
  have l3 := hn.rules
  have h1 := refRight_calls n.t f (by omega) l2
  have h2 := refAll_calls n.rules f.r l3 hn.id
  have h3 := refFits_calls n.t f n.rules f.r (by omega) (by omega)
  rw [← rightT_eq] at h1
  unfold rightN
  have htf : ∀ (N : Nw) (F : Fl), AV.agg [intsAV N.t.ports F.p, linksAV N.t.links F.l] = tpAV N.t F := fun _ _ => rfl
  generalize rightT n.t = b1 at h1 ⊢
  generalize allB n.rules = b2 at h2 ⊢
  generalize fitsB n.t n.rules = b3 at h3 ⊢
  refine pbody Try.func45 rfl (N := 22) rfl rfl (by simp) (by simp [noIds]) fun σ => ?_
  cases b1 <;> cases b2 <;> ((try ((first | with_reducible refine dops_go ?_ | with_reducible refine OKv_go ?_ | with_reducible refine OKr_go ?_); simp [-cellOK, nw_cells, htf])); repeat' (first | refine awp_seq ?_ | refine awp_block ?_ | (refine awp_skip ?_; try simp) | (refine awp_exit ?_; try simp) | (refine awp_ret ?_; try simp) | (refine retP_same (by simp) ?_; simp) | (refine retP_no (by simp) (by simp [noIds]) (by repeat (first | assumption | exact Ext.refl _ | refine ext_new' ?_ | refine Ext.setF ?_ (by first | assumption | (simp [new_nx', St.set, fresh_none]; done) | exact ext_fresh (by assumption)))) ?_; simp [-cellOK, nw_cells, htf, new_m, set_m, new_nx']) | ((first | refine awp_reg ?_ | refine awp_drawT (fun _ => false) mixed (by decide +kernel) ?_ | refine awp_drawT isCallO mixed (by decide +kernel) ?_ | refine PCalls.use (h1) ?_ | refine Or.inl ⟨_, Or.inl (h1), ?_⟩ | refine PCalls.use (h2) ?_ | refine Or.inl ⟨_, Or.inl (h2), ?_⟩ | refine PCalls.use (h3) ?_ | refine Or.inl ⟨_, Or.inl (h3), ?_⟩); simp [-cellOK, nw_cells, htf]) | (refine guarded_split ?_ ?_ <;> (intro hg; simp only [hg]; simp [-cellOK, nw_cells, htf])) | (apply awp_cond_t; focus (simp [-cellOK, nw_cells, htf]; done)) | (apply awp_cond_f; focus (simp [-cellOK, nw_cells, htf]; done)) | (refine awp_cond ?_; simp [-cellOK, nw_cells, htf]; refine ⟨?_, ?_⟩ <;> intro hc) | fail))
def fits09 (n : Nw) : Bool := !decide (20 < n.t.ports.length) && (!decide (40 < n.t.links.length) && (!decide (60 < n.rules.length) && rightN n))
/-- What is known of a network before its sizes are. -/
structure NwW (n : Nw) : Prop where
  rg : ∀ r ∈ n.rules, RgOK r.r
  id : ∀ r ∈ n.rules, -9223372036854775808 ≤ r.id ∧ r.id < 9223372036854775808
theorem NwOK.w {n : Nw} (h : NwOK n) : NwW n := ⟨h.rg, h.id⟩
theorem NwW.small {n : Nw} (h : NwW n) (h1 : ¬ 20 < n.t.ports.length) (h2 : ¬ 40 < n.t.links.length) (h3 : ¬ 60 < n.rules.length) : NwOK n where
  rg := h.rg
  id := h.id
  ports := by omega
  links := by omega
  rules := by omega
theorem NwW.fits {n : Nw} (h : NwW n) (hf : fits09 n = true) : NwOK n := by
  unfold fits09 at hf
  simp only [Bool.and_eq_true, Bool.not_eq_true', decide_eq_false_iff_not] at hf
  exact h.small hf.1 hf.2.1 hf.2.2.1
theorem fits09_calls (n : Nw) (f : Fl) (hn : NwW n) : PCalls Try.prog 19 [nwAV n f] (.raw (.bool (fits09 n))) := by
  have h1 := fun a b c => refNwRight_calls n f (hn.small a b c)
  unfold fits09
  generalize rightN n = b1 at h1 ⊢
  have hp : ∀ m, opLen Try.prog m 22 (intsAV n.t.ports f.p) = some (.raw (.int .i64 n.t.ports.length)) := fun m => by simp [intsAV]
  have hk : ∀ m, opLen Try.prog m 23 (linksAV n.t.links f.l) = some (.raw (.int .i64 n.t.links.length)) := fun m => by simp [linksAV]
  have hu : ∀ m, opLen Try.prog m 26 (rulesAV n.rules f.r) = some (.raw (.int .i64 n.rules.length)) := fun m => by simp [rulesAV]
  generalize n.t.ports.length = x at hp h1 ⊢
  generalize n.t.links.length = y at hk h1 ⊢
  generalize n.rules.length = z at hu h1 ⊢
  refine pbody Try.func19 rfl (N := 25) rfl rfl (by simp) (by simp [noIds]) fun σ => ?_
  by_cases q1 : 20 < x
  · have q1' : (20 : Int) < (x : Int) := by omega
    (try ((first | with_reducible refine dops_go ?_ | with_reducible refine OKv_go ?_ | with_reducible refine OKr_go ?_); simp [-cellOK, nw_cells, nw_fold, -opLen, hp, hk, hu, q1, q1'])); repeat' (first | refine awp_seq ?_ | refine awp_block ?_ | (refine awp_skip ?_; try simp) | (refine awp_exit ?_; try simp) | (refine awp_ret ?_; try simp) | (refine retP_same (by simp) ?_; simp) | (refine retP_no (by simp) (by simp [noIds]) (by repeat (first | assumption | exact Ext.refl _ | refine ext_new' ?_ | refine Ext.setF ?_ (by first | assumption | (simp [new_nx', St.set, fresh_none]; done) | exact ext_fresh (by assumption)))) ?_; simp [-cellOK, nw_cells, nw_fold, -opLen, hp, hk, hu, q1, q1', new_m, set_m, new_nx']) | ((first | refine awp_reg ?_ | refine awp_drawT (fun _ => false) mixed (by decide +kernel) ?_ | refine awp_drawT isCallO mixed (by decide +kernel) ?_); simp [-cellOK, nw_cells, nw_fold, -opLen, hp, hk, hu, q1, q1']) | (refine guarded_split ?_ ?_ <;> (intro hg; simp only [hg]; simp [-cellOK, nw_cells, nw_fold, -opLen, hp, hk, hu, q1, q1'])) | (apply awp_cond_t; focus (simp [-cellOK, nw_cells, nw_fold, -opLen, hp, hk, hu, q1, q1']; done)) | (apply awp_cond_f; focus (simp [-cellOK, nw_cells, nw_fold, -opLen, hp, hk, hu, q1, q1']; done)) | (refine awp_cond ?_; simp [-cellOK, nw_cells, nw_fold, -opLen, hp, hk, hu, q1, q1']; refine ⟨?_, ?_⟩ <;> intro hc) | fail)
  have q1' : ¬ (20 : Int) < (x : Int) := by omega
  by_cases q2 : 40 < y
  · have q2' : (40 : Int) < (y : Int) := by omega
    (try ((first | with_reducible refine dops_go ?_ | with_reducible refine OKv_go ?_ | with_reducible refine OKr_go ?_); simp [-cellOK, nw_cells, nw_fold, -opLen, hp, hk, hu, q1, q1', q2, q2'])); repeat' (first | refine awp_seq ?_ | refine awp_block ?_ | (refine awp_skip ?_; try simp) | (refine awp_exit ?_; try simp) | (refine awp_ret ?_; try simp) | (refine retP_same (by simp) ?_; simp) | (refine retP_no (by simp) (by simp [noIds]) (by repeat (first | assumption | exact Ext.refl _ | refine ext_new' ?_ | refine Ext.setF ?_ (by first | assumption | (simp [new_nx', St.set, fresh_none]; done) | exact ext_fresh (by assumption)))) ?_; simp [-cellOK, nw_cells, nw_fold, -opLen, hp, hk, hu, q1, q1', q2, q2', new_m, set_m, new_nx']) | ((first | refine awp_reg ?_ | refine awp_drawT (fun _ => false) mixed (by decide +kernel) ?_ | refine awp_drawT isCallO mixed (by decide +kernel) ?_); simp [-cellOK, nw_cells, nw_fold, -opLen, hp, hk, hu, q1, q1', q2, q2']) | (refine guarded_split ?_ ?_ <;> (intro hg; simp only [hg]; simp [-cellOK, nw_cells, nw_fold, -opLen, hp, hk, hu, q1, q1', q2, q2'])) | (apply awp_cond_t; focus (simp [-cellOK, nw_cells, nw_fold, -opLen, hp, hk, hu, q1, q1', q2, q2']; done)) | (apply awp_cond_f; focus (simp [-cellOK, nw_cells, nw_fold, -opLen, hp, hk, hu, q1, q1', q2, q2']; done)) | (refine awp_cond ?_; simp [-cellOK, nw_cells, nw_fold, -opLen, hp, hk, hu, q1, q1', q2, q2']; refine ⟨?_, ?_⟩ <;> intro hc) | fail)
  have q2' : ¬ (40 : Int) < (y : Int) := by omega
  by_cases q3 : 60 < z
  · have q3' : (60 : Int) < (z : Int) := by omega
    (try ((first | with_reducible refine dops_go ?_ | with_reducible refine OKv_go ?_ | with_reducible refine OKr_go ?_); simp [-cellOK, nw_cells, nw_fold, -opLen, hp, hk, hu, q1, q1', q2, q2', q3, q3'])); repeat' (first | refine awp_seq ?_ | refine awp_block ?_ | (refine awp_skip ?_; try simp) | (refine awp_exit ?_; try simp) | (refine awp_ret ?_; try simp) | (refine retP_same (by simp) ?_; simp) | (refine retP_no (by simp) (by simp [noIds]) (by repeat (first | assumption | exact Ext.refl _ | refine ext_new' ?_ | refine Ext.setF ?_ (by first | assumption | (simp [new_nx', St.set, fresh_none]; done) | exact ext_fresh (by assumption)))) ?_; simp [-cellOK, nw_cells, nw_fold, -opLen, hp, hk, hu, q1, q1', q2, q2', q3, q3', new_m, set_m, new_nx']) | ((first | refine awp_reg ?_ | refine awp_drawT (fun _ => false) mixed (by decide +kernel) ?_ | refine awp_drawT isCallO mixed (by decide +kernel) ?_); simp [-cellOK, nw_cells, nw_fold, -opLen, hp, hk, hu, q1, q1', q2, q2', q3, q3']) | (refine guarded_split ?_ ?_ <;> (intro hg; simp only [hg]; simp [-cellOK, nw_cells, nw_fold, -opLen, hp, hk, hu, q1, q1', q2, q2', q3, q3'])) | (apply awp_cond_t; focus (simp [-cellOK, nw_cells, nw_fold, -opLen, hp, hk, hu, q1, q1', q2, q2', q3, q3']; done)) | (apply awp_cond_f; focus (simp [-cellOK, nw_cells, nw_fold, -opLen, hp, hk, hu, q1, q1', q2, q2', q3, q3']; done)) | (refine awp_cond ?_; simp [-cellOK, nw_cells, nw_fold, -opLen, hp, hk, hu, q1, q1', q2, q2', q3, q3']; refine ⟨?_, ?_⟩ <;> intro hc) | fail)
  have q3' : ¬ (60 : Int) < (z : Int) := by omega
  have h1 := h1 q1 q2 q3
  (try ((first | with_reducible refine dops_go ?_ | with_reducible refine OKv_go ?_ | with_reducible refine OKr_go ?_); simp [-cellOK, nw_cells, nw_fold, -opLen, hp, hk, hu, q1, q1', q2, q2', q3, q3'])); repeat' (first | refine awp_seq ?_ | refine awp_block ?_ | (refine awp_skip ?_; try simp) | (refine awp_exit ?_; try simp) | (refine awp_ret ?_; try simp) | (refine retP_same (by simp) ?_; simp) | (refine retP_no (by simp) (by simp [noIds]) (by repeat (first | assumption | exact Ext.refl _ | refine ext_new' ?_ | refine Ext.setF ?_ (by first | assumption | (simp [new_nx', St.set, fresh_none]; done) | exact ext_fresh (by assumption)))) ?_; simp [-cellOK, nw_cells, nw_fold, -opLen, hp, hk, hu, q1, q1', q2, q2', q3, q3', new_m, set_m, new_nx']) | ((first | refine awp_reg ?_ | refine awp_drawT (fun _ => false) mixed (by decide +kernel) ?_ | refine awp_drawT isCallO mixed (by decide +kernel) ?_ | refine PCalls.use (h1) ?_ | refine Or.inl ⟨_, Or.inl (h1), ?_⟩); simp [-cellOK, nw_cells, nw_fold, -opLen, hp, hk, hu, q1, q1', q2, q2', q3, q3']) | (refine guarded_split ?_ ?_ <;> (intro hg; simp only [hg]; simp [-cellOK, nw_cells, nw_fold, -opLen, hp, hk, hu, q1, q1', q2, q2', q3, q3'])) | (apply awp_cond_t; focus (simp [-cellOK, nw_cells, nw_fold, -opLen, hp, hk, hu, q1, q1', q2, q2', q3, q3']; done)) | (apply awp_cond_f; focus (simp [-cellOK, nw_cells, nw_fold, -opLen, hp, hk, hu, q1, q1', q2, q2', q3, q3']; done)) | (refine awp_cond ?_; simp [-cellOK, nw_cells, nw_fold, -opLen, hp, hk, hu, q1, q1', q2, q2', q3, q3']; refine ⟨?_, ?_⟩ <;> intro hc) | fail)
def nw2AV (n m : Nw) (f g : Fl) : AV := .agg ((nwAV n f).cells ++ (nwAV m g).cells)
theorem nw2_cells (n m : Nw) (f g : Fl) : (nw2AV n m f g).cells = [intsAV n.t.ports f.p, linksAV n.t.links f.l, rulesAV n.rules f.r, intsAV m.t.ports g.p, linksAV m.t.links g.l, rulesAV m.rules g.r] := rfl
theorem nw2_fold (n m : Nw) (f g : Fl) : AV.agg [intsAV n.t.ports f.p, linksAV n.t.links f.l, rulesAV n.rules f.r, intsAV m.t.ports g.p, linksAV m.t.links g.l, rulesAV m.rules g.r] = nw2AV n m f g := rfl
def fits12 (n m : Nw) (q : Qy) : Bool := fits09 n && (fits09 m && decide (q.other.size ≤ 60))
theorem fits12_calls (n m : Nw) (f g : Fl) (q : Qy) (hn : NwW n) (hm : NwW m) : PCalls Try.prog 11 [nw2AV n m f g, qyAV q] (.raw (.bool (fits12 n m q))) := by
  have h1 := fits09_calls n f hn
  have h2 := fits09_calls m g hm
  unfold fits12
  generalize fits09 n = b1 at h1 ⊢
  generalize fits09 m = b2 at h2 ⊢
  generalize hz : q.other.size = z
  have hz' : (q.other.size : Int) = z := by rw [hz]
  refine pbody Try.func11 rfl (N := 23) rfl rfl (by simp) (by simp [noIds]) fun σ => ?_
  have hdz : decide ((z : Int) ≤ 60) = decide (z ≤ 60) := by congr 1; exact propext (by omega)
  cases b1 <;> cases b2 <;> ((try ((first | with_reducible refine dops_go ?_ | with_reducible refine OKv_go ?_ | with_reducible refine OKr_go ?_); simp [-cellOK, nw2_cells, nw_fold, qy_cells, hz', hdz])); repeat' (first | refine awp_seq ?_ | refine awp_block ?_ | (refine awp_skip ?_; try simp) | (refine awp_exit ?_; try simp) | (refine awp_ret ?_; try simp) | (refine retP_same (by simp) ?_; simp) | (refine retP_no (by simp) (by simp [noIds]) (by repeat (first | assumption | exact Ext.refl _ | refine ext_new' ?_ | refine Ext.setF ?_ (by first | assumption | (simp [new_nx', St.set, fresh_none]; done) | exact ext_fresh (by assumption)))) ?_; simp [-cellOK, nw2_cells, nw_fold, qy_cells, hz', hdz, new_m, set_m, new_nx']) | ((first | refine awp_reg ?_ | refine awp_drawT (fun _ => false) mixed (by decide +kernel) ?_ | refine awp_drawT isCallO mixed (by decide +kernel) ?_ | refine PCalls.use (h1) ?_ | refine Or.inl ⟨_, Or.inl (h1), ?_⟩ | refine PCalls.use (h2) ?_ | refine Or.inl ⟨_, Or.inl (h2), ?_⟩); simp [-cellOK, nw2_cells, nw_fold, qy_cells, hz', hdz]) | (refine guarded_split ?_ ?_ <;> (intro hg; simp only [hg]; simp [-cellOK, nw2_cells, nw_fold, qy_cells, hz', hdz])) | (apply awp_cond_t; focus (simp [-cellOK, nw2_cells, nw_fold, qy_cells, hz', hdz]; done)) | (apply awp_cond_f; focus (simp [-cellOK, nw2_cells, nw_fold, qy_cells, hz', hdz]; done)) | (refine awp_cond ?_; simp [-cellOK, nw2_cells, nw_fold, qy_cells, hz', hdz]; refine ⟨?_, ?_⟩ <;> intro hc) | fail))
/-- The network of the live questions. -/
def netN : Nw := ⟨⟨[2, 3, 2], [⟨⟨0, 1⟩, ⟨1, 0⟩⟩, ⟨⟨1, 1⟩, ⟨2, 0⟩⟩]⟩, [⟨1, 0, 0, 0, ⟨0, 99⟩, 1⟩, ⟨2, 1, 0, 0, ⟨0, 49⟩, 1⟩, ⟨3, 1, 0, 0, ⟨50, 59⟩, 0⟩, ⟨4, 2, 0, 0, ⟨0, 29⟩, 1⟩, ⟨5, 2, 0, 3, ⟨20, 24⟩, 0⟩]⟩
def flN : Fl := ⟨false, false, false⟩
theorem netN_ok : NwOK netN where
  rg := by
    intro r hr
    simp only [netN, List.mem_cons, List.not_mem_nil, or_false] at hr
    rcases hr with rfl | rfl | rfl | rfl | rfl <;> exact ⟨by decide, by decide, by decide, by decide⟩
  ports := by decide
  links := by decide
  rules := by decide
  id := by
    intro r hr
    simp only [netN, List.mem_cons, List.not_mem_nil, or_false] at hr
    rcases hr with rfl | rfl | rfl | rfl | rfl <;> exact ⟨by decide, by decide⟩
theorem net_calls : PCalls Try.prog 36 [] (nwAV netN flN) := by
  refine pbody Try.func36 rfl (N := 26) rfl rfl (by simp) (by simp [noIds]) fun σ => ?_
  (try ((first | with_reducible refine dops_go ?_ | with_reducible refine OKv_go ?_ | with_reducible refine OKr_go ?_); simp [-cellOK, new_m, set_m, new_nx'])); repeat' (first | refine awp_seq ?_ | refine awp_block ?_ | (refine awp_skip ?_; try simp) | (refine awp_exit ?_; try simp) | (refine awp_ret ?_; try simp) | ((first | refine awp_reg ?_ | refine awp_drawT (fun _ => false) mixed (by decide +kernel) ?_ | refine awp_drawT isCallO mixed (by decide +kernel) ?_); simp [-cellOK, new_m, set_m, new_nx']) | (refine guarded_split ?_ ?_ <;> (intro hg; simp only [hg]; simp [-cellOK, new_m, set_m, new_nx'])) | (apply awp_cond_t; focus (simp [-cellOK, new_m, set_m, new_nx']; done)) | (apply awp_cond_f; focus (simp [-cellOK, new_m, set_m, new_nx']; done)) | (refine awp_cond ?_; simp [-cellOK, new_m, set_m, new_nx']; refine ⟨?_, ?_⟩ <;> intro hc) | fail)
  refine retP_give (x := .agg [.rs ⟨3, σ.nx 3, 1⟩ 0 3, .rs ⟨10, σ.nx 10, 4⟩ 0 2, .rs ⟨22, σ.nx 22, 7⟩ 0 5]) (.inr rfl) (by repeat (first | assumption | exact Ext.refl _ | refine ext_new' ?_ | refine Ext.setF ?_ (by first | assumption | (simp [new_nx', St.set, fresh_none]; done) | exact ext_fresh (by assumption)))) ?_ ?_
  · simp [new_m, set_m, new_nx']
  · simp [giveUps, giveUp, fresh_none, new_m, set_m, new_nx', nwAV, intsAV, linksAV, rulesAV, netN, flN, iAV, lkAV, ruAV]
def aq1 : Qy := ⟨0, 0, 2, 0, ⟨5, 30⟩, ⟨#[]⟩⟩
def aq2 : Qy := ⟨4, 0, 2, 1, ⟨0, 4294967295⟩, ⟨#[]⟩⟩
def aq3 : Qy := ⟨1, 0, 0, 0, ⟨0, 59⟩, ⟨#[]⟩⟩
end Go.Proofs.Ytanimmdlgmkmkaa.Av


/- Queries, the plain law: what the three laws without the document's answer say. -/
namespace Go.Proofs.Ytanimmdlgmkmkaa.Av
set_option linter.unusedSimpArgs false
set_option linter.unusedVariables false

theorem noDev_iff (n : Nw) (d : Int) : noDev n d = false ↔ 0 ≤ d ∧ d < n.t.ports.length := by
  unfold noDev
  simp only [Bool.or_eq_false_iff, decide_eq_false_iff_not]
  omega
structure RightQ (n : Nw) (q : Qy) : Prop where
  k0 : 0 ≤ q.kind
  k5 : q.kind ≤ 5
  le : q.r.lo ≤ q.r.hi
  a : 0 ≤ q.a ∧ q.a < n.t.ports.length
  b : 0 ≤ q.b ∧ q.b < n.t.ports.length
  w : 0 ≤ q.w ∧ q.w < n.t.ports.length
  one : singleB q = true ∨ (q.a = 0 ∧ q.b = 0)
  way : q.kind = 4 ∨ q.w = 0
  oth : q.kind = 5 ∨ noOther q = true
theorem rightQ_iff (n : Nw) (q : Qy) : rightQ n q = true ↔ RightQ n q := by
  unfold rightQ
  simp only [List.any_cons, List.any_nil, Bool.or_false, Bool.and_eq_true, Bool.not_eq_true', Bool.or_eq_false_iff, noDev_iff, decide_eq_false_iff_not, Bool.or_eq_true, decide_eq_true_eq]
  constructor
  · rintro ⟨⟨h1, h2, h3⟩, ⟨h4, h5, h6⟩, h7, h8, h9⟩
    exact ⟨by omega, by omega, by omega, h4, h5, h6, h7, h8, h9⟩
  · rintro ⟨h1, h2, h3, h4, h5, h6, h7, h8, h9⟩
    exact ⟨⟨by omega, by omega, by omega⟩, ⟨h4, h5, h6⟩, h7, h8, h9⟩
theorem source_ok {n : Nw} {q : Qy} (h : RightQ n q) {d : Int} (hd : d ∈ sourcesQ n q) : 0 ≤ d ∧ d < n.t.ports.length := by
  unfold sourcesQ at hd
  split at hd
  · simp only [List.mem_singleton] at hd; subst hd; exact h.a
  · simp only [List.mem_map, List.mem_range] at hd
    obtain ⟨i, hi, rfl⟩ := hd
    omega
theorem trace_ok {n : Nw} {d : Int} (h : 0 ≤ d ∧ d < n.t.ports.length) (a : Int) : traceR n d a = (traceF n d a, 0) := by
  unfold traceR
  rw [if_neg (by omega)]
theorem breaksQ_u {q : Qy} (h : q.kind ≠ 5) (t u u' : Tk) : breaksQ q t u = breaksQ q t u' := by
  unfold breaksQ
  repeat' split
  all_goals first | rfl | (exfalso; exact h (by assumption))
/-- What is known of a query that is answered. -/
structure RunOK (n m : Nw) (q : Qy) (v : Vd) (M : Nw) : Prop where
  right : RightQ n q
  top : q.kind = 5 → n.t = m.t
  other : M = if q.kind = 5 then m else n
  res : (v = ⟨true, 0, 0, noTk⟩ ∧ seeks n M q (cutP [n, M] q.r) (sourcesQ n q) = none) ∨ seeks n M q (cutP [n, M] q.r) (sourcesQ n q) = some v
theorem run_of {n m : Nw} {q : Qy} (h : RightQ n q) (ht : q.kind = 5 → n.t = m.t) : runQ n m q = match seeks n (if q.kind = 5 then m else n) q (cutP [n, if q.kind = 5 then m else n] q.r) (sourcesQ n q) with
    | some v => (v, 0)
    | none => (⟨true, 0, 0, noTk⟩, 0) := by
  have hb : ¬ (rightQ n q = false ∨ (q.kind = 5 ∧ n.t ≠ m.t)) := by
    rintro (h1 | ⟨h1, h2⟩)
    · rw [(rightQ_iff n q).2 h] at h1; cases h1
    · exact h2 (ht h1)
  unfold runQ
  rw [if_neg hb]
  all_goals rfl
structure Broken (n m : Nw) (q : Qy) (v : Vd) : Prop where
  lo : q.r.lo ≤ v.addr
  hi : v.addr ≤ q.r.hi
  dev : q.kind = 5 → (traceR m v.src v.addr).2 = 0
  gen : genuineB n v.addr v.tr = true
  head : ∃ l, v.tr.path = v.src :: l
  brk : breaksQ q v.tr (traceR m v.src v.addr).1 = true
end Go.Proofs.Ytanimmdlgmkmkaa.Av


/- label: clones, a network of one's own, what becomes at a device. -/
namespace Go.Proofs.Ytanimmdlgmkmkaa.Av
open Go
set_option linter.unusedSimpArgs false
set_option linter.unusedVariables false
set_option maxRecDepth 100000
set_option maxHeartbeats 4000000
set_option pp.maxSteps 600

theorem pcalls_nil {P : Program} {f : FuncId} {sz : Nat} {fl : Bool} {r : AV} (h : ∀ b cap, PCalls P f [.raw (.slice b 0 cap)] r) : PCalls P f [.sl sz [] fl] r :=
  ⟨(h none 0).1, fun σ => acalls_nil fun b cap => (h b cap).2 σ⟩
theorem ok_ints : ∀ z : List Int, cellsOK (cellsL (z.map iAV)) = true := fun z => by
  induction z with
  | nil => rfl
  | cons r z ih => simp [cellsL, iAV, cellsOK, cellOK] at ih ⊢; try exact ih
theorem intClone_calls (l : List Int) (f : Bool) (hl : l.length < 2 ^ 44) : PCalls Try.prog 54 [intsAV l f] (intsAV l false) := by
  cases l with
  | nil =>
    simp only [intsAV, List.map_nil]
    refine pcalls_nil fun b cap => ?_
    refine pbody Try.func54 rfl (N := 8) rfl rfl (by simp) (by simp [noIds]) fun σ => ?_
    cases b with
    | none =>
      (try ((first | with_reducible refine dops_go ?_ | with_reducible refine OKv_go ?_ | with_reducible refine OKr_go ?_); simp [-cellOK])); repeat' (first | refine awp_seq ?_ | refine awp_block ?_ | (refine awp_skip ?_; try simp) | (refine awp_exit ?_; try simp) | (refine awp_ret ?_; try simp) | ((first | refine awp_reg ?_ | refine awp_drawT (fun _ => false) mixed (by decide +kernel) ?_ | refine awp_drawT isCallO mixed (by decide +kernel) ?_); simp [-cellOK]) | (refine guarded_split ?_ ?_ <;> (intro hg; simp only [hg]; simp [-cellOK])) | (apply awp_cond_t; focus (simp [-cellOK]; done)) | (apply awp_cond_f; focus (simp [-cellOK]; done)) | (refine awp_cond ?_; simp [-cellOK]; refine ⟨?_, ?_⟩ <;> intro hc) | fail)
      exact retP_weak (x := .sl 0 [] true) (.inr rfl) (by repeat (first | assumption | exact Ext.refl _ | refine ext_new' ?_ | refine Ext.setF ?_ (by first | assumption | (simp [new_nx', St.set, fresh_none]; done) | exact ext_fresh (by assumption)))) (by simp) (by simp only [giveUps, giveUp]; exact weaker_sl)
    | some b =>
      (try ((first | with_reducible refine dops_go ?_ | with_reducible refine OKv_go ?_ | with_reducible refine OKr_go ?_); simp [-cellOK, -opAppend])); repeat' (first | refine awp_seq ?_ | refine awp_block ?_ | (refine awp_skip ?_; try simp) | (refine awp_exit ?_; try simp) | (refine awp_ret ?_; try simp) | ((first | refine awp_reg ?_ | refine awp_drawT (fun _ => false) mixed (by decide +kernel) ?_ | refine awp_drawT isCallO mixed (by decide +kernel) ?_); simp [-cellOK, -opAppend]) | (refine guarded_split ?_ ?_ <;> (intro hg; simp only [hg]; simp [-cellOK, -opAppend])) | (apply awp_cond_t; focus (simp [-cellOK, -opAppend]; done)) | (apply awp_cond_f; focus (simp [-cellOK, -opAppend]; done)) | (refine awp_cond ?_; simp [-cellOK, -opAppend]; refine ⟨?_, ?_⟩ <;> intro hc) | fail)
      refine okr_append slt22 (σ0 := σ) (es := []) (OwnL.of rfl (by simp) (fresh_none _ _ _) rfl) (Ext.new _ _ _ _) (ys := []) (by simp) (.inl rfl) rfl (by simp) ?_
      intro v1 τ1 hO1 hE1 _ _
      rw [List.nil_append] at hO1
      (try ((first | with_reducible refine dops_go ?_ | with_reducible refine OKv_go ?_ | with_reducible refine OKr_go ?_); simp [-cellOK, -opAppend])); repeat' (first | refine awp_seq ?_ | refine awp_block ?_ | (refine awp_skip ?_; try simp) | (refine awp_exit ?_; try simp) | (refine awp_ret ?_; try simp) | ((first | refine awp_reg ?_ | refine awp_drawT (fun _ => false) mixed (by decide +kernel) ?_ | refine awp_drawT isCallO mixed (by decide +kernel) ?_); simp [-cellOK, -opAppend]) | (refine guarded_split ?_ ?_ <;> (intro hg; simp only [hg]; simp [-cellOK, -opAppend])) | (apply awp_cond_t; focus (simp [-cellOK, -opAppend]; done)) | (apply awp_cond_f; focus (simp [-cellOK, -opAppend]; done)) | (refine awp_cond ?_; simp [-cellOK, -opAppend]; refine ⟨?_, ?_⟩ <;> intro hc) | fail)
      exact retP_own (v := v1) (.inr rfl) (by simp) hO1 hE1
  | cons r l =>
    refine pbody Try.func54 rfl (N := 8) rfl rfl (by simp) (by simp [noIds]) fun σ => ?_
    (try ((first | with_reducible refine dops_go ?_ | with_reducible refine OKv_go ?_ | with_reducible refine OKr_go ?_); simp [-cellOK, intsAV, -opAppend])); repeat' (first | refine awp_seq ?_ | refine awp_block ?_ | (refine awp_skip ?_; try simp) | (refine awp_exit ?_; try simp) | (refine awp_ret ?_; try simp) | ((first | refine awp_reg ?_ | refine awp_drawT (fun _ => false) mixed (by decide +kernel) ?_ | refine awp_drawT isCallO mixed (by decide +kernel) ?_); simp [-cellOK, intsAV, -opAppend]) | (refine guarded_split ?_ ?_ <;> (intro hg; simp only [hg]; simp [-cellOK, intsAV, -opAppend])) | (apply awp_cond_t; focus (simp [-cellOK, intsAV, -opAppend]; done)) | (apply awp_cond_f; focus (simp [-cellOK, intsAV, -opAppend]; done)) | (refine awp_cond ?_; simp [-cellOK, intsAV, -opAppend]; refine ⟨?_, ?_⟩ <;> intro hc) | fail)
    refine okr_append slt22 (σ0 := σ) (es := []) (OwnL.of rfl (by simp) (fresh_none _ _ _) rfl) (Ext.new _ _ _ _) (ys := (r :: l).map iAV) (by simp) (.inr rfl) (ok_ints _) (by simp at hl ⊢; omega) ?_
    intro v1 τ1 hO1 hE1 _ _
    rw [List.nil_append] at hO1
    (try ((first | with_reducible refine dops_go ?_ | with_reducible refine OKv_go ?_ | with_reducible refine OKr_go ?_); simp [-cellOK, -opAppend])); repeat' (first | refine awp_seq ?_ | refine awp_block ?_ | (refine awp_skip ?_; try simp) | (refine awp_exit ?_; try simp) | (refine awp_ret ?_; try simp) | ((first | refine awp_reg ?_ | refine awp_drawT (fun _ => false) mixed (by decide +kernel) ?_ | refine awp_drawT isCallO mixed (by decide +kernel) ?_); simp [-cellOK, -opAppend]) | (refine guarded_split ?_ ?_ <;> (intro hg; simp only [hg]; simp [-cellOK, -opAppend])) | (apply awp_cond_t; focus (simp [-cellOK, -opAppend]; done)) | (apply awp_cond_f; focus (simp [-cellOK, -opAppend]; done)) | (refine awp_cond ?_; simp [-cellOK, -opAppend]; refine ⟨?_, ?_⟩ <;> intro hc) | fail)
    exact retP_own (v := v1) (.inr rfl) (by simp) hO1 hE1

/-- What becomes at a device of an address. -/
def atI (n : Nw) (d a : Int) : Int := if (stepF n d a).1 = 2 then -3 else if (stepF n d a).1 = 1 then -2 else if (stepF n d a).1 = 0 then -1 else (stepF n d a).2.port
/-- A device's labels. -/
def rowL (n : Nw) (T : Option Tab) (d : Int) : List Int := (List.range (T.getD newTab).b.sz.toNat).map fun i : Nat => atI n d ((atomT T i).getD ⟨0, 0⟩).lo
end Go.Proofs.Ytanimmdlgmkmkaa.Av


/- Probes: one device of a trace. -/
namespace Go.Proofs.Ytanimmdlgmkmkaa.Av
open Go
set_option linter.unusedSimpArgs false
set_option linter.unusedVariables false
set_option maxRecDepth 100000
set_option maxHeartbeats 4000000
set_option pp.maxSteps 600

/-- A list of one's own, lent to a call that reads. -/
theorem rcalls_own {P : Program} {f : FuncId} {σ0 σ : St} {n : Nat} {a v r : AV} {es : List AV} (h : PCalls P f [.sl n es false, a] r) (hr : r.plain = true) (hO : OwnP σ0 σ n v es) : RCalls P σ.m f [v, a] r := by
  rcases hO with ⟨rfl, rfl⟩ | ⟨j, rest, rfl, hj, hm, hn⟩
  · refine .inl ⟨h.1, fun σ => ACalls.args (bs := [.sl n [] false, a]) (fun S vs hl => ?_) (h.2 σ)⟩
    simp only [LRel] at hl ⊢
    obtain ⟨w, ws, e2, h2, v, us, e, h1, h3⟩ := hl
    exact ⟨w, ws, e2, weaker_sl _ _ h2, v, us, e, h1, h3⟩
  · refine .inr ⟨[.sl n es false, a], ?_, h, hr⟩
    simp only [lentL]
    exact ⟨_, _, rfl, .inr ⟨es ++ rest, hm, by simp, by simp [hj]⟩, _, _, rfl, .inl rfl, rfl⟩

/-- The cells of a probe. -/
def row34 (c : Nat → AV) : List AV := [c 0, c 1, c 2, c 3, c 4, c 5, c 6, c 7, c 8, c 9, c 10, c 11, c 12, c 13, c 14, c 15, c 16, c 17, c 18, c 19, c 20, c 21, c 22, c 23, c 24, c 25, c 26, c 27, c 28, c 29, c 30, c 31, c 32, c 33]
def upc (c : Nat → AV) (k : Nat) (x : AV) : Nat → AV := fun j => if j = k then x else c j
/-- A list of the probe's own: nothing yet, or an object. -/
def OwnB (σ : St) (v : AV) (es : List AV) : Prop := (es = [] ∧ v = .sl 0 [] true) ∨ ∃ j, v = .rs j 0 es.length ∧ j.sz = 1 ∧ σ.m j = some (.buf es)
/-- Where a list of one's own lies. -/
def isAt (v : AV) (j : Id) : Prop := ∃ l, v = .rs j 0 l
theorem OwnB.toL {σ : St} {v : AV} {es : List AV} (h : OwnB σ v es) : ∃ σ0, OwnL σ0 σ 1 v es ∧ Ext σ0 σ ∧ (∀ i o, σ.m i = some o → ¬ isAt v i → σ0.m i = some o) ∧ (∀ i, isAt v i → σ0.m i = none) ∧ (∀ i, σ.m i = none → σ0.m i = none) ∧ σ0.nx = σ.nx := by
  rcases h with ⟨rfl, rfl⟩ | ⟨j, rfl, hj, hm⟩
  · exact ⟨σ, .inl ⟨rfl, rfl⟩, Ext.refl _, fun i o h _ => h, (fun i ⟨l, e⟩ => by cases e), fun i h => h, rfl⟩
  · refine ⟨σ.del j, .inr ⟨j, rfl, hj, hm, by simp [St.del]⟩, ⟨fun i o h => ?_, fun s => Nat.le_refl _⟩, fun i o h hn => ?_, fun i hi => ?_, fun i h => ?_, rfl⟩
    · by_cases e : i = j
      · subst e; simp [St.del] at h
      · rwa [del_other e] at h
    · rw [del_other (fun e => hn ⟨es.length, by rw [e]⟩)]; exact h
    · obtain ⟨l, e⟩ := hi
      injection e with e
      subst e; simp [St.del]
    · by_cases e : i = j
      · subst e; simp [St.del]
      · rw [del_other e]; exact h
theorem OwnB.ne {σ : St} {v : AV} {es : List AV} (h : OwnB σ v es) {i : Id} (n : ¬ isAt v i) : ∀ a l, v ≠ .rs i a l := by
  rcases h with ⟨rfl, rfl⟩ | ⟨j, rfl, hj, hm⟩
  · intro a l e; cases e
  · intro a l e
    injection e with e1 e2 e3
    exact n ⟨es.length, by rw [e1]⟩
theorem OwnB.of {σ0 σ : St} {v : AV} {es : List AV} (h : OwnL σ0 σ 1 v es) : OwnB σ v es := by
  rcases h with ⟨rfl, rfl⟩ | ⟨j, rfl, hj, hm, hn⟩
  · exact .inl ⟨rfl, rfl⟩
  · exact .inr ⟨j, rfl, hj, hm⟩
theorem OwnB.cells {σ : St} {v : AV} {es : List AV} (h : OwnB σ v es) : v.cells = [v] ∧ cellOK v = true := by
  rcases h with ⟨rfl, rfl⟩ | ⟨j, rfl, hj, hm⟩
  · exact ⟨rfl, rfl⟩
  · exact ⟨rfl, rfl⟩
theorem notAt {v : AV} {i : Id} (h : ∀ a l, v ≠ .rs i a l) : ¬ isAt v i := fun ⟨l, e⟩ => h 0 l e
theorem OwnB.up {σ τ : St} {v : AV} {es : List AV} (h : OwnB σ v es) (k : ∀ i o, isAt v i → σ.m i = some o → τ.m i = some o) : OwnB τ v es := by
  rcases h with ⟨rfl, rfl⟩ | ⟨j, rfl, hj, hm⟩
  · exact .inl ⟨rfl, rfl⟩
  · exact .inr ⟨j, rfl, hj, k j _ ⟨_, rfl⟩ hm⟩
/-- All but one object as before. -/
def Ex (ip : Id) (σ τ : St) : Prop := (∀ i o, i ≠ ip → σ.m i = some o → τ.m i = some o) ∧ ∀ s, σ.nx s ≤ τ.nx s
theorem Ex.refl (ip : Id) (σ : St) : Ex ip σ σ := ⟨fun _ _ _ h => h, fun _ => Nat.le_refl _⟩
theorem Ex.trans {ip : Id} {ρ σ τ : St} (h : Ex ip ρ σ) (k : Ex ip σ τ) : Ex ip ρ τ := ⟨fun i o n e => k.1 i o n (h.1 i o n e), fun s => Nat.le_trans (h.2 s) (k.2 s)⟩
theorem Ex.set {ip : Id} {σ τ : St} (h : Ex ip σ τ) (o : Ob) : Ex ip σ (τ.set ip o) := ⟨fun i u n e => by simp [St.set, n, h.1 i u n e], fun s => h.2 s⟩
theorem Ex.new {ip : Id} {σ τ : St} (h : Ex ip σ τ) (s n : Nat) (o : Ob) : Ex ip σ (τ.new s n o) := ⟨fun i u n e => new_up _ _ (h.1 i u n e), fun s => Nat.le_trans (h.2 s) (St.new_le _ _ _ _ _)⟩
theorem Ex.ext {ip : Id} {σ τ : St} (h : Ext σ τ) : Ex ip σ τ := ⟨fun i o _ e => h.1 i o e, h.2⟩
theorem Ex.setF {ip j : Id} {σ τ : St} (h : Ex ip σ τ) (n : σ.m j = none) (o : Ob) : Ex ip σ (τ.set j o) := ⟨fun i u hn e => by
    have q : i ≠ j := fun q => by rw [q, n] at e; cases e
    simp [St.set, q, h.1 i u hn e], fun s => h.2 s⟩
theorem Ex.del {ip j : Id} {σ τ : St} (h : Ex ip σ τ) (n : σ.m j = none) : Ex ip σ (τ.del j) := ⟨fun i u hn e => by
    have q : i ≠ j := fun q => by rw [q, n] at e; cases e
    rw [del_other q]; exact h.1 i u hn e, fun s => h.2 s⟩
/-- What a probe's step leaves alone: all but its object, and its list. -/
def Kp (ip : Id) (v v' : AV) (σ τ : St) : Prop := (∀ i o, i ≠ ip → ¬ isAt v i → σ.m i = some o → τ.m i = some o ∧ ¬ isAt v' i) ∧ ∀ s, σ.nx s ≤ τ.nx s
theorem Kp.ex {ip : Id} {v v' : AV} {ρ σ τ : St} (h : Kp ip v v' ρ σ) (k : Ex ip σ τ) : Kp ip v v' ρ τ := ⟨fun i o n na e => ⟨k.1 i o n (h.1 i o n na e).1, (h.1 i o n na e).2⟩, fun s => Nat.le_trans (h.2 s) (k.2 s)⟩
theorem OwnB.ex {ip : Id} {σ τ : St} {v : AV} {es : List AV} (h : OwnB σ v es) (n : ¬ isAt v ip) (k : Ex ip σ τ) : OwnB τ v es := h.up fun i o hi e => k.1 i o (fun e => n (e ▸ hi)) e
end Go.Proofs.Ytanimmdlgmkmkaa.Av


/- Probes: one device of the first trace. -/
namespace Go.Proofs.Ytanimmdlgmkmkaa.Av
open Go
set_option linter.unusedSimpArgs false
set_option linter.unusedVariables false
set_option maxRecDepth 100000
set_option maxHeartbeats 4000000
set_option pp.maxSteps 600

theorem visitT_calls (N : Nw) (F : Fl) (hN : NwOK N) {ip : Id} (hsz : ip.sz = 34) {c : Nat → AV} {σ : St} (m : σ.m ip = some (.buf [.agg (row34 c)])) {d : Int} (c16 : c 16 = .raw (.int .i64 d)) {r : Rg} {rs : List Rg} (c15 : c 15 = rgsAV (r :: rs) false)
    {v : AV} {p : List Int} (c17 : c 17 = v) (hB : OwnB σ v (p.map iAV)) (hp : p.length < 2 ^ 43) {K : AV → St → Prop}
    (hK1 : d ∈ p → ∀ τ v', τ.m ip = some (.buf [.agg (row34 (upc (upc c 17 v') 18 (.raw (.int .i64 4))))]) → OwnB τ v' ((p ++ [d]).map iAV) → Kp ip v v' σ τ → K (.raw (.bool false)) τ)
    (hK2 : d ∉ p → (stepF N d r.lo).1 = 4 → ∀ τ v', τ.m ip = some (.buf [.agg (row34 (upc (upc (upc c 17 v') 18 (.raw (.int .i64 4))) 16 (.raw (.int .i64 (nextDev N (stepF N d r.lo).2)))))]) → OwnB τ v' ((p ++ [d]).map iAV) → Kp ip v v' σ τ → K (.raw (.bool true)) τ)
    (hK3 : d ∉ p → (stepF N d r.lo).1 ≠ 4 → ∀ τ v', τ.m ip = some (.buf [.agg (row34 (upc (upc (upc (upc c 17 v') 18 (.raw (.int .i64 (stepF N d r.lo).1))) 19 (.raw (.int .i64 (stepF N d r.lo).2.dev))) 20 (.raw (.int .i64 (stepF N d r.lo).2.port))))]) → OwnB τ v' ((p ++ [d]).map iAV) → Kp ip v v' σ τ → K (.raw (.bool false)) τ) :
    ACalls Try.prog 129 [.rp ip 0 0, nwAV N F, .rp ip 0 17] σ K := by
  obtain ⟨σ0, hO, hE0, kp1, kp2, kp3, kp4⟩ := hB.toL
  have hcon : PCalls Try.prog 42 [.sl 1 (p.map iAV) false, .raw (.int .i64 d)] (.raw (.bool (p.any fun x => decide (d = x)))) := contains_calls p false d (by omega)
  obtain ⟨b0, hb0⟩ : ∃ b, (p.any fun x => decide (d = x)) = b := ⟨_, rfl⟩
  have hb : (d ∈ p) ↔ b0 = true := by
    rw [← hb0, List.any_eq_true]
    refine ⟨fun h => ⟨d, h, by simp⟩, ?_⟩
    rintro ⟨x, hx, e⟩
    simp only [decide_eq_true_eq] at e; exact e ▸ hx
  rw [hb0] at hcon
  have hstep := step_calls N F d r.lo hN.links hN.rules
  have hnext := next_calls N.t F (stepF N d r.lo).2 hN.links
  simp only [row34] at m
  refine abody Try.func129 rfl (N := 76) rfl rfl (by simp) ?_
  have f4 : σ.m ⟨4, σ.nx 4, 3⟩ = none := fresh_none _ _ _
  have n4 : ip ≠ ⟨4, σ.nx 4, 3⟩ := fun e => by rw [e, f4] at m; cases m
  refine awp_seq ?_
  refine awp_reg ?_
  simp [-cellOK, nw_cells]
  generalize hA0 : put 76 _ _ _ = A0
  have d0 : A0 0 = .rp ip 0 0 := by rw [← hA0]; simp
  have d2 : A0 2 = .rp ip 0 17 := by rw [← hA0]; simp
  have d4 : A0 4 = .rp ⟨4, σ.nx 4, 3⟩ 0 0 := by rw [← hA0]; simp
  clear hA0
  refine awp_freeze ⟨4, σ.nx 4, 3⟩ ?_
  generalize hAA : (fun t => giveUp _ _ _) = A
  have a0 : A 0 = .rp ip 0 0 := by rw [← hAA]; show giveUp _ _ (A0 0) = _; rw [d0]; exact giveUp_rp_ne n4
  have a2 : A 2 = .rp ip 0 17 := by rw [← hAA]; show giveUp _ _ (A0 2) = _; rw [d2]; exact giveUp_rp_ne n4
  have a4 : A 4 = .pp (nwAV N F).cells 0 := by rw [← hAA]; show giveUp _ _ (A0 4) = _; rw [d4, giveUp_rp_made (es := [nwAV N F]) (e := nwAV N F) (by simp [St.del]) (by simp [St.new]) rfl]
  generalize hτ : St.del _ _ = τ
  have hm : ∀ i, τ.m i = σ.m i := by
    intro i
    rw [← hτ]
    by_cases e : i = ⟨4, σ.nx 4, 3⟩
    · subst e; rw [f4]; simp [St.del]
    · rw [del_other e, new_other e]
  have hnx : ∀ s, σ.nx s ≤ τ.nx s := fun s => by rw [← hτ]; show σ.nx s ≤ (σ.new 4 3 (.buf [nwAV N F])).nx s; exact St.new_le _ _ _ _ _
  have hEτ : Ext σ τ := ⟨fun i o h => by rw [hm]; exact h, hnx⟩
  clear hτ hAA d0 d2 d4
  have m : τ.m ip = _ := (hm ip).trans m
  have hO := hO.ext hEτ
  have hE := hE0.trans hEτ
  have nv : ¬ isAt v ip := fun ⟨l, e⟩ => hO.ne_sz (i := ip) (by rw [hsz]; decide) _ _ e
  have f0 := kp3
  refine awp_seq ?_
  refine awp_drawT isCallO mixed (by decide +kernel) ?_
  simp [-cellOK, a0, a2, m, c16, c17]
  refine .inl ⟨_, rcalls_own hcon rfl hO.toP, ?_⟩
  (try ((first | with_reducible refine dops_go ?_ | with_reducible refine OKv_go ?_ | with_reducible refine OKr_go ?_); simp [-cellOK, a0, a2, a4, m, c16, c17, -opAppend])); repeat' (first | refine awp_seq ?_ | refine awp_block ?_ | (refine awp_skip ?_; try simp) | (refine awp_exit ?_; try simp) | (refine awp_ret ?_; try simp) | (refine retP_same (by simp) ?_; simp) | (refine retP_no (by simp) (by simp [noIds]) (by repeat (first | assumption | exact Ext.refl _ | refine ext_new' ?_ | refine Ext.setF ?_ (by first | assumption | (simp [new_nx', St.set, fresh_none]; done) | exact ext_fresh (by assumption)))) ?_; simp [-cellOK, a0, a2, a4, m, c16, c17, -opAppend, new_m, set_m, new_nx']) | ((first | refine awp_reg ?_ | refine awp_drawT (fun _ => false) mixed (by decide +kernel) ?_ | refine awp_drawT isCallO mixed (by decide +kernel) ?_); simp [-cellOK, a0, a2, a4, m, c16, c17, -opAppend]) | (refine guarded_split ?_ ?_ <;> (intro hg; simp only [hg]; simp [-cellOK, a0, a2, a4, m, c16, c17, -opAppend])) | (apply awp_cond_t; focus (simp [-cellOK, a0, a2, a4, m, c16, c17, -opAppend]; done)) | (apply awp_cond_f; focus (simp [-cellOK, a0, a2, a4, m, c16, c17, -opAppend]; done)) | (refine awp_cond ?_; simp [-cellOK, a0, a2, a4, m, c16, c17, -opAppend]; refine ⟨?_, ?_⟩ <;> intro hc) | fail)
  refine okr_append slt22 (σ0 := σ0) (hO.ext (Ext.new _ _ _ _)) (hE.trans (Ext.new _ _ _ _)) (ys := [iAV d]) (by simp [new_m, new_nx', iAV]) (.inr rfl) (by simp [iAV]) (by simp; omega) fun v' τ1 hO1 hE1 kp hx1 => ?_
  have m1 := (kp ip _ (new_up _ _ m) (hB.ne nv)).1
  have nv' := notAt (kp ip _ (new_up _ _ m) (hB.ne nv)).2
  obtain ⟨vc, vo⟩ := (OwnB.of hO1).cells
  have hKp : Kp ip v v' σ τ1 := ⟨fun i o n na e => by
    have := kp i o (new_up _ _ (by rw [hm]; exact e)) (hB.ne na)
    exact ⟨this.1, notAt this.2⟩, fun s => Nat.le_trans (Nat.le_trans (hnx s) (St.new_le _ _ _ _ _)) (hx1 s)⟩
  have hB1 := OwnB.of hO1
  have hpd : (p ++ [d]).map iAV = p.map iAV ++ [iAV d] := by simp
  rw [← hpd] at hB1
  cases b0 with
  | true =>
    (try ((first | with_reducible refine dops_go ?_ | with_reducible refine OKv_go ?_ | with_reducible refine OKr_go ?_); simp [-cellOK, a0, a2, a4, m1, c16, c17, vc, vo])); repeat' (first | refine awp_seq ?_ | refine awp_block ?_ | (refine awp_skip ?_; try simp) | (refine awp_exit ?_; try simp) | (refine awp_ret ?_; try simp) | (refine retP_same (by simp) ?_; simp) | (refine retP_no (by simp) (by simp [noIds]) (by repeat (first | assumption | exact Ext.refl _ | refine ext_new' ?_ | refine Ext.setF ?_ (by first | assumption | (simp [new_nx', St.set, fresh_none]; done) | exact ext_fresh (by assumption)))) ?_; simp [-cellOK, a0, a2, a4, m1, c16, c17, vc, vo, new_m, set_m, new_nx']) | ((first | refine awp_reg ?_ | refine awp_drawT (fun _ => false) mixed (by decide +kernel) ?_ | refine awp_drawT isCallO mixed (by decide +kernel) ?_); simp [-cellOK, a0, a2, a4, m1, c16, c17, vc, vo]) | (refine guarded_split ?_ ?_ <;> (intro hg; simp only [hg]; simp [-cellOK, a0, a2, a4, m1, c16, c17, vc, vo])) | (apply awp_cond_t; focus (simp [-cellOK, a0, a2, a4, m1, c16, c17, vc, vo]; done)) | (apply awp_cond_f; focus (simp [-cellOK, a0, a2, a4, m1, c16, c17, vc, vo]; done)) | (refine awp_cond ?_; simp [-cellOK, a0, a2, a4, m1, c16, c17, vc, vo]; refine ⟨?_, ?_⟩ <;> intro hc) | fail)
    refine retK_of (.inr rfl) (by simp) (hK1 (hb.2 rfl) _ v' (by simp [set_m, m1, row34, upc, c16]) (hB1.ex nv' ?_) (hKp.ex ?_))
    all_goals exact ((Ex.refl ip τ1).set _).set _
  | false =>
    have h2 : ∀ a b, (ip = ⟨a, b, 2⟩) = False := fun a b => eq_false fun e => by rw [e] at hsz; cases hsz
    by_cases hs4 : (stepF N d r.lo).1 = 4
    · have hs4' := eq_true hs4
      (try ((first | with_reducible refine dops_go ?_ | with_reducible refine OKv_go ?_ | with_reducible refine OKr_go ?_); simp [-cellOK, a0, a2, a4, m1, c16, c17, vc, vo, c15, rgsAV, nw_cells, nw_fold, set_m, new_m, new_nx', ptAV, hs4', h2])); repeat' (first | refine awp_seq ?_ | refine awp_block ?_ | (refine awp_skip ?_; try simp) | (refine awp_exit ?_; try simp) | (refine awp_ret ?_; try simp) | (refine retP_same (by simp) ?_; simp) | (refine retP_no (by simp) (by simp [noIds]) (by repeat (first | assumption | exact Ext.refl _ | refine ext_new' ?_ | refine Ext.setF ?_ (by first | assumption | (simp [new_nx', St.set, fresh_none]; done) | exact ext_fresh (by assumption)))) ?_; simp [-cellOK, a0, a2, a4, m1, c16, c17, vc, vo, c15, rgsAV, nw_cells, nw_fold, set_m, new_m, new_nx', ptAV, hs4', h2, new_m, set_m, new_nx']) | ((first | refine awp_reg ?_ | refine awp_drawT (fun _ => false) mixed (by decide +kernel) ?_ | refine awp_drawT isCallO mixed (by decide +kernel) ?_ | refine PCalls.use (hstep) ?_ | refine Or.inl ⟨_, Or.inl (hstep), ?_⟩ | refine PCalls.use (hnext) ?_ | refine Or.inl ⟨_, Or.inl (hnext), ?_⟩); simp [-cellOK, a0, a2, a4, m1, c16, c17, vc, vo, c15, rgsAV, nw_cells, nw_fold, set_m, new_m, new_nx', ptAV, hs4', h2]) | (refine guarded_split ?_ ?_ <;> (intro hg; simp only [hg]; simp [-cellOK, a0, a2, a4, m1, c16, c17, vc, vo, c15, rgsAV, nw_cells, nw_fold, set_m, new_m, new_nx', ptAV, hs4', h2])) | (apply awp_cond_t; focus (simp [-cellOK, a0, a2, a4, m1, c16, c17, vc, vo, c15, rgsAV, nw_cells, nw_fold, set_m, new_m, new_nx', ptAV, hs4', h2]; done)) | (apply awp_cond_f; focus (simp [-cellOK, a0, a2, a4, m1, c16, c17, vc, vo, c15, rgsAV, nw_cells, nw_fold, set_m, new_m, new_nx', ptAV, hs4', h2]; done)) | (refine awp_cond ?_; simp [-cellOK, a0, a2, a4, m1, c16, c17, vc, vo, c15, rgsAV, nw_cells, nw_fold, set_m, new_m, new_nx', ptAV, hs4', h2]; refine ⟨?_, ?_⟩ <;> intro hc) | fail)
      refine retK_of (.inr rfl) (by simp) (hK2 (fun h => by cases hb.1 h) hs4 _ v' (by simp [set_m, new_m, new_nx', h2, m1, row34, upc, c15, rgsAV, nextDev]) (hB1.ex nv' ?_) (hKp.ex ?_))
      all_goals repeat (first | exact Ex.refl _ _ | refine Ex.set ?_ _ | refine Ex.new ?_ _ _ _ | refine Ex.setF ?_ (by first | exact fresh_none _ _ _ | (simp [set_m, new_m, new_nx', fresh_none]; done)) _)
    · have hs4' := eq_false hs4
      (try ((first | with_reducible refine dops_go ?_ | with_reducible refine OKv_go ?_ | with_reducible refine OKr_go ?_); simp [-cellOK, a0, a2, a4, m1, c16, c17, vc, vo, c15, rgsAV, nw_cells, nw_fold, set_m, new_m, new_nx', ptAV, hs4', h2])); repeat' (first | refine awp_seq ?_ | refine awp_block ?_ | (refine awp_skip ?_; try simp) | (refine awp_exit ?_; try simp) | (refine awp_ret ?_; try simp) | ((first | refine awp_reg ?_ | refine awp_drawT (fun _ => false) mixed (by decide +kernel) ?_ | refine awp_drawT isCallO mixed (by decide +kernel) ?_ | refine PCalls.use (hstep) ?_ | refine Or.inl ⟨_, Or.inl (hstep), ?_⟩); simp [-cellOK, a0, a2, a4, m1, c16, c17, vc, vo, c15, rgsAV, nw_cells, nw_fold, set_m, new_m, new_nx', ptAV, hs4', h2]) | (refine guarded_split ?_ ?_ <;> (intro hg; simp only [hg]; simp [-cellOK, a0, a2, a4, m1, c16, c17, vc, vo, c15, rgsAV, nw_cells, nw_fold, set_m, new_m, new_nx', ptAV, hs4', h2])) | (apply awp_cond_t; focus (simp [-cellOK, a0, a2, a4, m1, c16, c17, vc, vo, c15, rgsAV, nw_cells, nw_fold, set_m, new_m, new_nx', ptAV, hs4', h2]; done)) | (apply awp_cond_f; focus (simp [-cellOK, a0, a2, a4, m1, c16, c17, vc, vo, c15, rgsAV, nw_cells, nw_fold, set_m, new_m, new_nx', ptAV, hs4', h2]; done)) | (refine awp_cond ?_; simp [-cellOK, a0, a2, a4, m1, c16, c17, vc, vo, c15, rgsAV, nw_cells, nw_fold, set_m, new_m, new_nx', ptAV, hs4', h2]; refine ⟨?_, ?_⟩ <;> intro hc) | fail)
      generalize hA2 : put 76 _ _ _ = A2
      have d2 : A2 2 = .rp ip 0 17 := by rw [← hA2]; simp [a2]
      have d8 : A2 8 = .raw (.int .i64 (stepF N d r.lo).1) := by rw [← hA2]; simp
      have d9 : A2 9 = .rp ⟨9, τ1.nx 9, 2⟩ 0 0 := by rw [← hA2]; simp
      clear hA2
      generalize hT2 : St.set _ _ _ = τ2
      have f9 : τ1.m ⟨9, τ1.nx 9, 2⟩ = none := fresh_none _ _ _
      have q9 : ip ≠ ⟨9, τ1.nx 9, 2⟩ := fun e => by rw [h2] at e; exact e
      have m9 : τ2.m ⟨9, τ1.nx 9, 2⟩ = some (.buf [ptAV (stepF N d r.lo).2]) := by rw [← hT2]; simp [set_m, new_m, m1, h2, ptAV]
      have m2 : τ2.m ip = some (.buf [.agg (row34 (upc (upc c 17 v') 18 (.raw (.int .i64 4))))]) := by rw [← hT2]; simp [set_m, new_m, h2, m1, row34, upc, c16, c15, rgsAV]
      have hX2 : Ex ip τ1 τ2 := by
        rw [← hT2]
        repeat (first | exact Ex.refl _ _ | refine Ex.set ?_ _ | refine Ex.new ?_ _ _ _ | refine Ex.setF ?_ f9 _)
      clear hT2
      refine awp_freeze ⟨9, τ1.nx 9, 2⟩ ?_
      generalize hA3 : (fun t => giveUp _ _ _) = A3
      have g2 : A3 2 = .rp ip 0 17 := by rw [← hA3]; show giveUp _ _ (A2 2) = _; rw [d2]; exact giveUp_rp_ne q9
      have g8 : A3 8 = .raw (.int .i64 (stepF N d r.lo).1) := by rw [← hA3]; show giveUp _ _ (A2 8) = _; rw [d8]; rfl
      have g9 : A3 9 = .pp (ptAV (stepF N d r.lo).2).cells 0 := by rw [← hA3]; show giveUp _ _ (A2 9) = _; rw [d9, giveUp_rp_made (by simp [St.del]) m9 rfl]
      clear hA3
      have m3 : (τ2.del ⟨9, τ1.nx 9, 2⟩).m ip = _ := (del_other q9).trans m2
      have hX3 := hX2.del f9
      generalize τ2.del ⟨9, τ1.nx 9, 2⟩ = τ3 at m3 hX3 ⊢
      simp only [row34] at m3
      refine awp_drawT (lsO [59]) mixed (by decide +kernel) ?_
      simp [-cellOK, g2, g8, g9, m3, ptAV]
      (try ((first | with_reducible refine dops_go ?_ | with_reducible refine OKv_go ?_ | with_reducible refine OKr_go ?_); simp [-cellOK, g2, g8, g9, m3, ptAV, set_m])); repeat' (first | refine awp_seq ?_ | refine awp_block ?_ | (refine awp_skip ?_; try simp) | (refine awp_exit ?_; try simp) | (refine awp_ret ?_; try simp) | ((first | refine awp_reg ?_ | refine awp_drawT (fun _ => false) mixed (by decide +kernel) ?_ | refine awp_drawT isCallO mixed (by decide +kernel) ?_); simp [-cellOK, g2, g8, g9, m3, ptAV, set_m]) | (refine guarded_split ?_ ?_ <;> (intro hg; simp only [hg]; simp [-cellOK, g2, g8, g9, m3, ptAV, set_m])) | (apply awp_cond_t; focus (simp [-cellOK, g2, g8, g9, m3, ptAV, set_m]; done)) | (apply awp_cond_f; focus (simp [-cellOK, g2, g8, g9, m3, ptAV, set_m]; done)) | (refine awp_cond ?_; simp [-cellOK, g2, g8, g9, m3, ptAV, set_m]; refine ⟨?_, ?_⟩ <;> intro hc) | fail)
      refine retK_of (.inr rfl) (by simp) (hK3 (fun h => by cases hb.1 h) hs4 _ v' (by simp [set_m, m3, row34, upc, c15, rgsAV]) (hB1.ex nv' ?_) (hKp.ex ?_))
      all_goals exact hX3.trans (((Ex.refl _ _).set _).set _)
end Go.Proofs.Ytanimmdlgmkmkaa.Av


/- Probes: one device of the second trace. -/
namespace Go.Proofs.Ytanimmdlgmkmkaa.Av
open Go
set_option linter.unusedSimpArgs false
set_option linter.unusedVariables false
set_option maxRecDepth 100000
set_option maxHeartbeats 4000000
set_option pp.maxSteps 600

theorem visitU_calls (N : Nw) (F : Fl) (hN : NwOK N) {ip : Id} (hsz : ip.sz = 34) {c : Nat → AV} {σ : St} (m : σ.m ip = some (.buf [.agg (row34 c)])) {d : Int} (c16 : c 16 = .raw (.int .i64 d)) {r : Rg} {rs : List Rg} (c15 : c 15 = rgsAV (r :: rs) false)
    {v : AV} {p : List Int} (c17 : c 21 = v) (hB : OwnB σ v (p.map iAV)) (hp : p.length < 2 ^ 43) {K : AV → St → Prop}
    (hK1 : d ∈ p → ∀ τ v', τ.m ip = some (.buf [.agg (row34 (upc (upc c 21 v') 22 (.raw (.int .i64 4))))]) → OwnB τ v' ((p ++ [d]).map iAV) → Kp ip v v' σ τ → K (.raw (.bool false)) τ)
    (hK2 : d ∉ p → (stepF N d r.lo).1 = 4 → ∀ τ v', τ.m ip = some (.buf [.agg (row34 (upc (upc (upc c 21 v') 22 (.raw (.int .i64 4))) 16 (.raw (.int .i64 (nextDev N (stepF N d r.lo).2)))))]) → OwnB τ v' ((p ++ [d]).map iAV) → Kp ip v v' σ τ → K (.raw (.bool true)) τ)
    (hK3 : d ∉ p → (stepF N d r.lo).1 ≠ 4 → ∀ τ v', τ.m ip = some (.buf [.agg (row34 (upc (upc (upc (upc c 21 v') 22 (.raw (.int .i64 (stepF N d r.lo).1))) 23 (.raw (.int .i64 (stepF N d r.lo).2.dev))) 24 (.raw (.int .i64 (stepF N d r.lo).2.port))))]) → OwnB τ v' ((p ++ [d]).map iAV) → Kp ip v v' σ τ → K (.raw (.bool false)) τ) :
    ACalls Try.prog 129 [.rp ip 0 0, nwAV N F, .rp ip 0 21] σ K := by
  obtain ⟨σ0, hO, hE0, kp1, kp2, kp3, kp4⟩ := hB.toL
  have hcon : PCalls Try.prog 42 [.sl 1 (p.map iAV) false, .raw (.int .i64 d)] (.raw (.bool (p.any fun x => decide (d = x)))) := contains_calls p false d (by omega)
  obtain ⟨b0, hb0⟩ : ∃ b, (p.any fun x => decide (d = x)) = b := ⟨_, rfl⟩
  have hb : (d ∈ p) ↔ b0 = true := by
    rw [← hb0, List.any_eq_true]
    refine ⟨fun h => ⟨d, h, by simp⟩, ?_⟩
    rintro ⟨x, hx, e⟩
    simp only [decide_eq_true_eq] at e; exact e ▸ hx
  rw [hb0] at hcon
  have hstep := step_calls N F d r.lo hN.links hN.rules
  have hnext := next_calls N.t F (stepF N d r.lo).2 hN.links
  simp only [row34] at m
  refine abody Try.func129 rfl (N := 76) rfl rfl (by simp) ?_
  have f4 : σ.m ⟨4, σ.nx 4, 3⟩ = none := fresh_none _ _ _
  have n4 : ip ≠ ⟨4, σ.nx 4, 3⟩ := fun e => by rw [e, f4] at m; cases m
  refine awp_seq ?_
  refine awp_reg ?_
  simp [-cellOK, nw_cells]
  generalize hA0 : put 76 _ _ _ = A0
  have d0 : A0 0 = .rp ip 0 0 := by rw [← hA0]; simp
  have d2 : A0 2 = .rp ip 0 21 := by rw [← hA0]; simp
  have d4 : A0 4 = .rp ⟨4, σ.nx 4, 3⟩ 0 0 := by rw [← hA0]; simp
  clear hA0
  refine awp_freeze ⟨4, σ.nx 4, 3⟩ ?_
  generalize hAA : (fun t => giveUp _ _ _) = A
  have a0 : A 0 = .rp ip 0 0 := by rw [← hAA]; show giveUp _ _ (A0 0) = _; rw [d0]; exact giveUp_rp_ne n4
  have a2 : A 2 = .rp ip 0 21 := by rw [← hAA]; show giveUp _ _ (A0 2) = _; rw [d2]; exact giveUp_rp_ne n4
  have a4 : A 4 = .pp (nwAV N F).cells 0 := by rw [← hAA]; show giveUp _ _ (A0 4) = _; rw [d4, giveUp_rp_made (es := [nwAV N F]) (e := nwAV N F) (by simp [St.del]) (by simp [St.new]) rfl]
  generalize hτ : St.del _ _ = τ
  have hm : ∀ i, τ.m i = σ.m i := by
    intro i
    rw [← hτ]
    by_cases e : i = ⟨4, σ.nx 4, 3⟩
    · subst e; rw [f4]; simp [St.del]
    · rw [del_other e, new_other e]
  have hnx : ∀ s, σ.nx s ≤ τ.nx s := fun s => by rw [← hτ]; show σ.nx s ≤ (σ.new 4 3 (.buf [nwAV N F])).nx s; exact St.new_le _ _ _ _ _
  have hEτ : Ext σ τ := ⟨fun i o h => by rw [hm]; exact h, hnx⟩
  clear hτ hAA d0 d2 d4
  have m : τ.m ip = _ := (hm ip).trans m
  have hO := hO.ext hEτ
  have hE := hE0.trans hEτ
  have nv : ¬ isAt v ip := fun ⟨l, e⟩ => hO.ne_sz (i := ip) (by rw [hsz]; decide) _ _ e
  have f0 := kp3
  refine awp_seq ?_
  refine awp_drawT isCallO mixed (by decide +kernel) ?_
  simp [-cellOK, a0, a2, m, c16, c17]
  refine .inl ⟨_, rcalls_own hcon rfl hO.toP, ?_⟩
  (try ((first | with_reducible refine dops_go ?_ | with_reducible refine OKv_go ?_ | with_reducible refine OKr_go ?_); simp [-cellOK, a0, a2, a4, m, c16, c17, -opAppend])); repeat' (first | refine awp_seq ?_ | refine awp_block ?_ | (refine awp_skip ?_; try simp) | (refine awp_exit ?_; try simp) | (refine awp_ret ?_; try simp) | (refine retP_same (by simp) ?_; simp) | (refine retP_no (by simp) (by simp [noIds]) (by repeat (first | assumption | exact Ext.refl _ | refine ext_new' ?_ | refine Ext.setF ?_ (by first | assumption | (simp [new_nx', St.set, fresh_none]; done) | exact ext_fresh (by assumption)))) ?_; simp [-cellOK, a0, a2, a4, m, c16, c17, -opAppend, new_m, set_m, new_nx']) | ((first | refine awp_reg ?_ | refine awp_drawT (fun _ => false) mixed (by decide +kernel) ?_ | refine awp_drawT isCallO mixed (by decide +kernel) ?_); simp [-cellOK, a0, a2, a4, m, c16, c17, -opAppend]) | (refine guarded_split ?_ ?_ <;> (intro hg; simp only [hg]; simp [-cellOK, a0, a2, a4, m, c16, c17, -opAppend])) | (apply awp_cond_t; focus (simp [-cellOK, a0, a2, a4, m, c16, c17, -opAppend]; done)) | (apply awp_cond_f; focus (simp [-cellOK, a0, a2, a4, m, c16, c17, -opAppend]; done)) | (refine awp_cond ?_; simp [-cellOK, a0, a2, a4, m, c16, c17, -opAppend]; refine ⟨?_, ?_⟩ <;> intro hc) | fail)
  refine okr_append slt22 (σ0 := σ0) (hO.ext (Ext.new _ _ _ _)) (hE.trans (Ext.new _ _ _ _)) (ys := [iAV d]) (by simp [new_m, new_nx', iAV]) (.inr rfl) (by simp [iAV]) (by simp; omega) fun v' τ1 hO1 hE1 kp hx1 => ?_
  have m1 := (kp ip _ (new_up _ _ m) (hB.ne nv)).1
  have nv' := notAt (kp ip _ (new_up _ _ m) (hB.ne nv)).2
  obtain ⟨vc, vo⟩ := (OwnB.of hO1).cells
  have hKp : Kp ip v v' σ τ1 := ⟨fun i o n na e => by
    have := kp i o (new_up _ _ (by rw [hm]; exact e)) (hB.ne na)
    exact ⟨this.1, notAt this.2⟩, fun s => Nat.le_trans (Nat.le_trans (hnx s) (St.new_le _ _ _ _ _)) (hx1 s)⟩
  have hB1 := OwnB.of hO1
  have hpd : (p ++ [d]).map iAV = p.map iAV ++ [iAV d] := by simp
  rw [← hpd] at hB1
  cases b0 with
  | true =>
    (try ((first | with_reducible refine dops_go ?_ | with_reducible refine OKv_go ?_ | with_reducible refine OKr_go ?_); simp [-cellOK, a0, a2, a4, m1, c16, c17, vc, vo])); repeat' (first | refine awp_seq ?_ | refine awp_block ?_ | (refine awp_skip ?_; try simp) | (refine awp_exit ?_; try simp) | (refine awp_ret ?_; try simp) | (refine retP_same (by simp) ?_; simp) | (refine retP_no (by simp) (by simp [noIds]) (by repeat (first | assumption | exact Ext.refl _ | refine ext_new' ?_ | refine Ext.setF ?_ (by first | assumption | (simp [new_nx', St.set, fresh_none]; done) | exact ext_fresh (by assumption)))) ?_; simp [-cellOK, a0, a2, a4, m1, c16, c17, vc, vo, new_m, set_m, new_nx']) | ((first | refine awp_reg ?_ | refine awp_drawT (fun _ => false) mixed (by decide +kernel) ?_ | refine awp_drawT isCallO mixed (by decide +kernel) ?_); simp [-cellOK, a0, a2, a4, m1, c16, c17, vc, vo]) | (refine guarded_split ?_ ?_ <;> (intro hg; simp only [hg]; simp [-cellOK, a0, a2, a4, m1, c16, c17, vc, vo])) | (apply awp_cond_t; focus (simp [-cellOK, a0, a2, a4, m1, c16, c17, vc, vo]; done)) | (apply awp_cond_f; focus (simp [-cellOK, a0, a2, a4, m1, c16, c17, vc, vo]; done)) | (refine awp_cond ?_; simp [-cellOK, a0, a2, a4, m1, c16, c17, vc, vo]; refine ⟨?_, ?_⟩ <;> intro hc) | fail)
    refine retK_of (.inr rfl) (by simp) (hK1 (hb.2 rfl) _ v' (by simp [set_m, m1, row34, upc, c16]) (hB1.ex nv' ?_) (hKp.ex ?_))
    all_goals exact ((Ex.refl ip τ1).set _).set _
  | false =>
    have h2 : ∀ a b, (ip = ⟨a, b, 2⟩) = False := fun a b => eq_false fun e => by rw [e] at hsz; cases hsz
    by_cases hs4 : (stepF N d r.lo).1 = 4
    · have hs4' := eq_true hs4
      (try ((first | with_reducible refine dops_go ?_ | with_reducible refine OKv_go ?_ | with_reducible refine OKr_go ?_); simp [-cellOK, a0, a2, a4, m1, c16, c17, vc, vo, c15, rgsAV, nw_cells, nw_fold, set_m, new_m, new_nx', ptAV, hs4', h2])); repeat' (first | refine awp_seq ?_ | refine awp_block ?_ | (refine awp_skip ?_; try simp) | (refine awp_exit ?_; try simp) | (refine awp_ret ?_; try simp) | (refine retP_same (by simp) ?_; simp) | (refine retP_no (by simp) (by simp [noIds]) (by repeat (first | assumption | exact Ext.refl _ | refine ext_new' ?_ | refine Ext.setF ?_ (by first | assumption | (simp [new_nx', St.set, fresh_none]; done) | exact ext_fresh (by assumption)))) ?_; simp [-cellOK, a0, a2, a4, m1, c16, c17, vc, vo, c15, rgsAV, nw_cells, nw_fold, set_m, new_m, new_nx', ptAV, hs4', h2, new_m, set_m, new_nx']) | ((first | refine awp_reg ?_ | refine awp_drawT (fun _ => false) mixed (by decide +kernel) ?_ | refine awp_drawT isCallO mixed (by decide +kernel) ?_ | refine PCalls.use (hstep) ?_ | refine Or.inl ⟨_, Or.inl (hstep), ?_⟩ | refine PCalls.use (hnext) ?_ | refine Or.inl ⟨_, Or.inl (hnext), ?_⟩); simp [-cellOK, a0, a2, a4, m1, c16, c17, vc, vo, c15, rgsAV, nw_cells, nw_fold, set_m, new_m, new_nx', ptAV, hs4', h2]) | (refine guarded_split ?_ ?_ <;> (intro hg; simp only [hg]; simp [-cellOK, a0, a2, a4, m1, c16, c17, vc, vo, c15, rgsAV, nw_cells, nw_fold, set_m, new_m, new_nx', ptAV, hs4', h2])) | (apply awp_cond_t; focus (simp [-cellOK, a0, a2, a4, m1, c16, c17, vc, vo, c15, rgsAV, nw_cells, nw_fold, set_m, new_m, new_nx', ptAV, hs4', h2]; done)) | (apply awp_cond_f; focus (simp [-cellOK, a0, a2, a4, m1, c16, c17, vc, vo, c15, rgsAV, nw_cells, nw_fold, set_m, new_m, new_nx', ptAV, hs4', h2]; done)) | (refine awp_cond ?_; simp [-cellOK, a0, a2, a4, m1, c16, c17, vc, vo, c15, rgsAV, nw_cells, nw_fold, set_m, new_m, new_nx', ptAV, hs4', h2]; refine ⟨?_, ?_⟩ <;> intro hc) | fail)
      refine retK_of (.inr rfl) (by simp) (hK2 (fun h => by cases hb.1 h) hs4 _ v' (by simp [set_m, new_m, new_nx', h2, m1, row34, upc, c15, rgsAV, nextDev]) (hB1.ex nv' ?_) (hKp.ex ?_))
      all_goals repeat (first | exact Ex.refl _ _ | refine Ex.set ?_ _ | refine Ex.new ?_ _ _ _ | refine Ex.setF ?_ (by first | exact fresh_none _ _ _ | (simp [set_m, new_m, new_nx', fresh_none]; done)) _)
    · have hs4' := eq_false hs4
      (try ((first | with_reducible refine dops_go ?_ | with_reducible refine OKv_go ?_ | with_reducible refine OKr_go ?_); simp [-cellOK, a0, a2, a4, m1, c16, c17, vc, vo, c15, rgsAV, nw_cells, nw_fold, set_m, new_m, new_nx', ptAV, hs4', h2])); repeat' (first | refine awp_seq ?_ | refine awp_block ?_ | (refine awp_skip ?_; try simp) | (refine awp_exit ?_; try simp) | (refine awp_ret ?_; try simp) | ((first | refine awp_reg ?_ | refine awp_drawT (fun _ => false) mixed (by decide +kernel) ?_ | refine awp_drawT isCallO mixed (by decide +kernel) ?_ | refine PCalls.use (hstep) ?_ | refine Or.inl ⟨_, Or.inl (hstep), ?_⟩); simp [-cellOK, a0, a2, a4, m1, c16, c17, vc, vo, c15, rgsAV, nw_cells, nw_fold, set_m, new_m, new_nx', ptAV, hs4', h2]) | (refine guarded_split ?_ ?_ <;> (intro hg; simp only [hg]; simp [-cellOK, a0, a2, a4, m1, c16, c17, vc, vo, c15, rgsAV, nw_cells, nw_fold, set_m, new_m, new_nx', ptAV, hs4', h2])) | (apply awp_cond_t; focus (simp [-cellOK, a0, a2, a4, m1, c16, c17, vc, vo, c15, rgsAV, nw_cells, nw_fold, set_m, new_m, new_nx', ptAV, hs4', h2]; done)) | (apply awp_cond_f; focus (simp [-cellOK, a0, a2, a4, m1, c16, c17, vc, vo, c15, rgsAV, nw_cells, nw_fold, set_m, new_m, new_nx', ptAV, hs4', h2]; done)) | (refine awp_cond ?_; simp [-cellOK, a0, a2, a4, m1, c16, c17, vc, vo, c15, rgsAV, nw_cells, nw_fold, set_m, new_m, new_nx', ptAV, hs4', h2]; refine ⟨?_, ?_⟩ <;> intro hc) | fail)
      generalize hA2 : put 76 _ _ _ = A2
      have d2 : A2 2 = .rp ip 0 21 := by rw [← hA2]; simp [a2]
      have d8 : A2 8 = .raw (.int .i64 (stepF N d r.lo).1) := by rw [← hA2]; simp
      have d9 : A2 9 = .rp ⟨9, τ1.nx 9, 2⟩ 0 0 := by rw [← hA2]; simp
      clear hA2
      generalize hT2 : St.set _ _ _ = τ2
      have f9 : τ1.m ⟨9, τ1.nx 9, 2⟩ = none := fresh_none _ _ _
      have q9 : ip ≠ ⟨9, τ1.nx 9, 2⟩ := fun e => by rw [h2] at e; exact e
      have m9 : τ2.m ⟨9, τ1.nx 9, 2⟩ = some (.buf [ptAV (stepF N d r.lo).2]) := by rw [← hT2]; simp [set_m, new_m, m1, h2, ptAV]
      have m2 : τ2.m ip = some (.buf [.agg (row34 (upc (upc c 21 v') 22 (.raw (.int .i64 4))))]) := by rw [← hT2]; simp [set_m, new_m, h2, m1, row34, upc, c16, c15, rgsAV]
      have hX2 : Ex ip τ1 τ2 := by
        rw [← hT2]
        repeat (first | exact Ex.refl _ _ | refine Ex.set ?_ _ | refine Ex.new ?_ _ _ _ | refine Ex.setF ?_ f9 _)
      clear hT2
      refine awp_freeze ⟨9, τ1.nx 9, 2⟩ ?_
      generalize hA3 : (fun t => giveUp _ _ _) = A3
      have g2 : A3 2 = .rp ip 0 21 := by rw [← hA3]; show giveUp _ _ (A2 2) = _; rw [d2]; exact giveUp_rp_ne q9
      have g8 : A3 8 = .raw (.int .i64 (stepF N d r.lo).1) := by rw [← hA3]; show giveUp _ _ (A2 8) = _; rw [d8]; rfl
      have g9 : A3 9 = .pp (ptAV (stepF N d r.lo).2).cells 0 := by rw [← hA3]; show giveUp _ _ (A2 9) = _; rw [d9, giveUp_rp_made (by simp [St.del]) m9 rfl]
      clear hA3
      have m3 : (τ2.del ⟨9, τ1.nx 9, 2⟩).m ip = _ := (del_other q9).trans m2
      have hX3 := hX2.del f9
      generalize τ2.del ⟨9, τ1.nx 9, 2⟩ = τ3 at m3 hX3 ⊢
      simp only [row34] at m3
      refine awp_drawT (lsO [59]) mixed (by decide +kernel) ?_
      simp [-cellOK, g2, g8, g9, m3, ptAV]
      (try ((first | with_reducible refine dops_go ?_ | with_reducible refine OKv_go ?_ | with_reducible refine OKr_go ?_); simp [-cellOK, g2, g8, g9, m3, ptAV, set_m])); repeat' (first | refine awp_seq ?_ | refine awp_block ?_ | (refine awp_skip ?_; try simp) | (refine awp_exit ?_; try simp) | (refine awp_ret ?_; try simp) | ((first | refine awp_reg ?_ | refine awp_drawT (fun _ => false) mixed (by decide +kernel) ?_ | refine awp_drawT isCallO mixed (by decide +kernel) ?_); simp [-cellOK, g2, g8, g9, m3, ptAV, set_m]) | (refine guarded_split ?_ ?_ <;> (intro hg; simp only [hg]; simp [-cellOK, g2, g8, g9, m3, ptAV, set_m])) | (apply awp_cond_t; focus (simp [-cellOK, g2, g8, g9, m3, ptAV, set_m]; done)) | (apply awp_cond_f; focus (simp [-cellOK, g2, g8, g9, m3, ptAV, set_m]; done)) | (refine awp_cond ?_; simp [-cellOK, g2, g8, g9, m3, ptAV, set_m]; refine ⟨?_, ?_⟩ <;> intro hc) | fail)
      refine retK_of (.inr rfl) (by simp) (hK3 (fun h => by cases hb.1 h) hs4 _ v' (by simp [set_m, m3, row34, upc, c15, rgsAV]) (hB1.ex nv' ?_) (hKp.ex ?_))
      all_goals exact hX3.trans (((Ex.refl _ _).set _).set _)
end Go.Proofs.Ytanimmdlgmkmkaa.Av


/- Probes: the object, and its beginning. -/
namespace Go.Proofs.Ytanimmdlgmkmkaa.Av
open Go
set_option linter.unusedSimpArgs false
set_option linter.unusedVariables false
set_option maxRecDepth 100000
set_option maxHeartbeats 4000000
set_option pp.maxSteps 600

/-- What a probe goes through: two networks, a query, the sources and the parts that are left. -/
structure PB where
  N : Nw
  M : Nw
  F : Fl
  G : Fl
  q : Qy
  S : List Int
  A : List Rg
  P : List Rg
/-- The verdict's cells. -/
structure VC where
  h : Bool
  s : Int
  a : Int
  p : AV
  o : Int
  d : Int
  e : Int
def vc0 : VC := ⟨false, 0, 0, .sl 0 [] true, 0, 0, 0⟩
def pbRow (X : PB) (d : Int) (v : AV) (t : Int × Pt) (w : AV) (u : Int × Pt) (nx : AV) (dn : Bool) (r : VC) : List AV :=
  [intsAV X.N.t.ports X.F.p, linksAV X.N.t.links X.F.l, rulesAV X.N.rules X.F.r, intsAV X.M.t.ports X.G.p, linksAV X.M.t.links X.G.l, rulesAV X.M.rules X.G.r,
    .raw (.int .i64 X.q.kind), .raw (.int .i64 X.q.a), .raw (.int .i64 X.q.b), .raw (.int .i64 X.q.w), .raw (.int .u32 X.q.r.lo), .raw (.int .u32 X.q.r.hi), .raw (.string X.q.other),
    intsAV X.S false, rgsAV X.A false, rgsAV X.P false, .raw (.int .i64 d), v, .raw (.int .i64 t.1), .raw (.int .i64 t.2.dev), .raw (.int .i64 t.2.port),
    w, .raw (.int .i64 u.1), .raw (.int .i64 u.2.dev), .raw (.int .i64 u.2.port), nx, .raw (.bool dn), .raw (.bool r.h), .raw (.int .i64 r.s), .raw (.int .u32 r.a), r.p, .raw (.int .i64 r.o), .raw (.int .i64 r.d), .raw (.int .i64 r.e)]
def pbOb (X : PB) (d : Int) (v : AV) (t : Int × Pt) (w : AV) (u : Int × Pt) (nx : AV) (dn : Bool) (r : VC) : Ob := .buf [.agg (pbRow X d v t w u nx dn r)]
def firstAV (ip : Id) : AV := .fn (.func 99) [.rp ip 0 0] []
def secondAV (ip : Id) : AV := .fn (.func 130) [.rp ip 0 0] []
def nilAV : AV := .sl 0 [] true
def z0 : Int × Pt := (0, ⟨0, 0⟩)
theorem begin_calls {ip : Id} (hsz : ip.sz = 34) {X : PB} {d : Int} {v : AV} {t : Int × Pt} {w : AV} {u : Int × Pt} {nx : AV} {dn : Bool} {r : VC} {σ : St} (m : σ.m ip = some (pbOb X d v t w u nx dn r))
    {s : Int} {ss : List Int} (hS : X.S = s :: ss) {K : AV → St → Prop}
    (hK : ∀ τ, τ.m ip = some (pbOb X s nilAV z0 nilAV z0 (firstAV ip) dn r) → Ex ip σ τ → K (.tup []) τ) : ACalls Try.prog 58 [.rp ip 0 0] σ K := by
  simp only [pbOb, pbRow, hS] at m hK
  refine abody Try.func58 rfl (N := 24) rfl rfl (by simp) ?_
  (try ((first | with_reducible refine dops_go ?_ | with_reducible refine OKv_go ?_ | with_reducible refine OKr_go ?_); simp [-cellOK, m, intsAV, iAV, set_m])); repeat' (first | refine awp_seq ?_ | refine awp_block ?_ | (refine awp_skip ?_; try simp) | (refine awp_exit ?_; try simp) | (refine awp_ret ?_; try simp) | ((first | refine awp_reg ?_ | refine awp_drawT (fun _ => false) mixed (by decide +kernel) ?_ | refine awp_drawT isCallO mixed (by decide +kernel) ?_); simp [-cellOK, m, intsAV, iAV, set_m]) | (refine guarded_split ?_ ?_ <;> (intro hg; simp only [hg]; simp [-cellOK, m, intsAV, iAV, set_m])) | (apply awp_cond_t; focus (simp [-cellOK, m, intsAV, iAV, set_m]; done)) | (apply awp_cond_f; focus (simp [-cellOK, m, intsAV, iAV, set_m]; done)) | (refine awp_cond ?_; simp [-cellOK, m, intsAV, iAV, set_m]; refine ⟨?_, ?_⟩ <;> intro hc) | fail)
  refine retK_of (.inl rfl) (x := .tup []) (by simp) (hK _ (by simp [set_m, m, intsAV, iAV, nilAV, z0, firstAV]) ?_)
  repeat (first | exact Ex.refl _ _ | refine Ex.set ?_ _)
end Go.Proofs.Ytanimmdlgmkmkaa.Av


/- Probes: the end of a trace, or of both. -/
namespace Go.Proofs.Ytanimmdlgmkmkaa.Av
open Go
set_option linter.unusedSimpArgs false
set_option linter.unusedVariables false
set_option maxRecDepth 100000
set_option maxHeartbeats 4000000
set_option pp.maxSteps 600

theorem OwnB.lent {σ : St} {v : AV} {es : List AV} (h : OwnB σ v es) : ∃ b, lent0 σ.m v b ∧ ∀ S x, VRel S b x → VRel S (.sl 1 es false) x := by
  rcases h with ⟨rfl, rfl⟩ | ⟨j, rfl, hj, hm⟩
  · exact ⟨_, .inl rfl, fun S x h => weaker_sl S x h⟩
  · exact ⟨.sl 1 es false, .inr ⟨es, hm, by simp, by simp [hj]⟩, fun S x h => h⟩
theorem rcalls_brk {P : Program} {f : FuncId} {σ : St} {n m q v w r x1 x2 x3 y1 y2 y3 : AV} {es fs : List AV} (h : PCalls P f [n, m, q, .agg [.sl 1 es false, x1, x2, x3], .agg [.sl 1 fs false, y1, y2, y3]] r) (hr : r.plain = true) (hv : OwnB σ v es) (hw : OwnB σ w fs) :
    RCalls P σ.m f [n, m, q, .agg [v, x1, x2, x3], .agg [w, y1, y2, y3]] r := by
  obtain ⟨b, hb, kb⟩ := hv.lent
  obtain ⟨c, hc, kc⟩ := hw.lent
  refine .inr ⟨[n, m, q, .agg [b, x1, x2, x3], .agg [c, y1, y2, y3]], ?_, ⟨h.1, fun σ => ACalls.args (bs := [n, m, q, .agg [.sl 1 es false, x1, x2, x3], .agg [.sl 1 fs false, y1, y2, y3]]) (fun S vs hl => ?_) (h.2 σ)⟩, hr⟩
  · simp only [lentL, lent1, lentF]
    exact ⟨_, _, rfl, .inl rfl, _, _, rfl, .inl rfl, _, _, rfl, .inl rfl, _, _, rfl, .inr ⟨_, ⟨_, _, rfl, hb, _, _, rfl, .inl rfl, _, _, rfl, .inl rfl, _, _, rfl, .inl rfl, rfl⟩, rfl⟩,
      _, _, rfl, .inr ⟨_, ⟨_, _, rfl, hc, _, _, rfl, .inl rfl, _, _, rfl, .inl rfl, _, _, rfl, .inl rfl, rfl⟩, rfl⟩, rfl⟩
  · simp only [LRel, VRel] at hl ⊢
    obtain ⟨v1, l1, e1, h1, v2, l2, e2, h2, v3, l3, e3, h3, v4, l4, e4, ⟨g4, e5, a1, b1, e6, h6, h7⟩, v8, l8, e8, ⟨g8, e9, a9, b9, e10, h10, h11⟩, e12⟩ := hl
    exact ⟨v1, l1, e1, h1, v2, l2, e2, h2, v3, l3, e3, h3, v4, l4, e4, ⟨g4, e5, a1, b1, e6, kb _ _ h6, h7⟩, v8, l8, e8, ⟨g8, e9, a9, b9, e10, kc _ _ h10, h11⟩, e12⟩

theorem ended_calls {ip : Id} (hsz : ip.sz = 34) {X : PB} {d : Int} {v : AV} {t : Tk} {w : AV} {u : Tk} {nx : AV} {σ : St} (m : σ.m ip = some (pbOb X d v (t.out, t.last) w (u.out, u.last) nx false vc0))
    (hv : OwnB σ v (t.path.map iAV)) (hw : OwnB σ w (u.path.map iAV)) (ht : t.path.length < 2 ^ 60) (hu : u.path.length < 2 ^ 60) (hnx : nx.cells = [nx] ∧ cellOK nx = true)
    {s : Int} {ss : List Int} (hS : X.S = s :: ss) {r : Rg} {rs : List Rg} (hP : X.P = r :: rs) (hSl : X.S.length < 2 ^ 60) (hPl : X.P.length < 2 ^ 60) {K : AV → St → Prop}
    (hK1 : breaksQ X.q t u = true → ∀ τ, τ.m ip = some (pbOb X d v (t.out, t.last) w (u.out, u.last) nx true ⟨false, s, r.lo, v, t.out, t.last.dev, t.last.port⟩) → Ex ip σ τ → K (.tup []) τ)
    (hK2 : breaksQ X.q t u = false → rs ≠ [] → ∀ τ, τ.m ip = some (pbOb { X with P := rs } s nilAV z0 nilAV z0 (firstAV ip) false vc0) → Ex ip σ τ → K (.tup []) τ)
    (hK3 : breaksQ X.q t u = false → rs = [] → ss = [] → ∀ τ, τ.m ip = some (pbOb { X with P := X.A, S := [] } d v (t.out, t.last) w (u.out, u.last) nx true ⟨true, 0, 0, nilAV, 0, 0, 0⟩) → Ex ip σ τ → K (.tup []) τ)
    (hK4 : breaksQ X.q t u = false → rs = [] → ∀ s' ss', ss = s' :: ss' → ∀ τ, τ.m ip = some (pbOb { X with P := X.A, S := ss } s' nilAV z0 nilAV z0 (firstAV ip) false vc0) → Ex ip σ τ → K (.tup []) τ) :
    ACalls Try.prog 131 [.rp ip 0 0] σ K := by
  have hbr := breaks_calls X.N X.M X.F X.G X.q t u false false ht hu
  obtain ⟨vc, vo⟩ := hv.cells
  obtain ⟨nc, no⟩ := hnx
  have n1 : ∀ n : Nat, ((n : Int) + 1 = 0) = False := fun n => eq_false (by omega)
  have ra : (rgsAV X.A false).cells = [rgsAV X.A false] := rfl
  have rb : cellOK (rgsAV X.A false) = true := rfl
  obtain ⟨b, hb⟩ : ∃ b, breaksQ X.q t u = b := ⟨_, rfl⟩
  rw [hb] at hbr hK1 hK2 hK3 hK4
  have hrc := rcalls_brk hbr rfl hv hw
  simp only [hS, hP, List.length_cons] at hSl hPl
  have m0 := m
  have hS' : intsAV X.S false = .sl 1 (iAV s :: ss.map iAV) false := by rw [hS]; rfl
  have hP' : rgsAV X.P false = .sl 2 (rgAV r :: rs.map rgAV) false := by rw [hP]; rfl
  simp only [pbOb, pbRow] at m
  refine abody Try.func131 rfl (N := 91) rfl rfl (by simp) ?_
  repeat (refine awp_seq ?_)
  refine awp_drawT isCallO mixed (by decide +kernel) ?_
  simp [-cellOK, m, nw_fold, qy_fold]
  refine .inl ⟨_, hrc, ?_⟩
  cases b with
  | true =>
    (try ((first | with_reducible refine dops_go ?_ | with_reducible refine OKv_go ?_ | with_reducible refine OKr_go ?_); simp [-cellOK, m, hS', hP', rgAV, iAV, vc, vo, nc, no, set_m, n1, ra, rb])); repeat' (first | refine awp_seq ?_ | refine awp_block ?_ | (refine awp_skip ?_; try simp) | (refine awp_exit ?_; try simp) | (refine awp_ret ?_; try simp) | ((first | refine awp_reg ?_ | refine awp_drawT (fun _ => false) mixed (by decide +kernel) ?_ | refine awp_drawT isCallO mixed (by decide +kernel) ?_); simp [-cellOK, m, hS', hP', rgAV, iAV, vc, vo, nc, no, set_m, n1, ra, rb]) | (refine guarded_split ?_ ?_ <;> (intro hg; simp only [hg]; simp [-cellOK, m, hS', hP', rgAV, iAV, vc, vo, nc, no, set_m, n1, ra, rb])) | (apply awp_cond_t; focus (simp [-cellOK, m, hS', hP', rgAV, iAV, vc, vo, nc, no, set_m, n1, ra, rb]; done)) | (apply awp_cond_f; focus (simp [-cellOK, m, hS', hP', rgAV, iAV, vc, vo, nc, no, set_m, n1, ra, rb]; done)) | (refine awp_cond ?_; simp [-cellOK, m, hS', hP', rgAV, iAV, vc, vo, nc, no, set_m, n1, ra, rb]; refine ⟨?_, ?_⟩ <;> intro hc) | fail)
    refine retK_of (.inr rfl) (x := .tup []) (by simp) (hK1 rfl _ ?_ ?_)
    · simp [set_m, m, pbOb, pbRow, hS', hP', rgAV, iAV]
    · repeat (first | exact Ex.refl _ _ | refine Ex.set ?_ _)
  | false =>
    cases rs with
    | cons r' rs =>
      (try ((first | with_reducible refine dops_go ?_ | with_reducible refine OKv_go ?_ | with_reducible refine OKr_go ?_); simp [-cellOK, m, hS', hP', rgAV, iAV, vc, vo, nc, no, set_m, n1, ra, rb])); repeat' (first | refine awp_seq ?_ | refine awp_block ?_ | (refine awp_skip ?_; try simp) | (refine awp_exit ?_; try simp) | (refine awp_ret ?_; try simp) | ((first | refine awp_reg ?_ | refine awp_drawT (fun _ => false) mixed (by decide +kernel) ?_ | refine awp_drawT isCallO mixed (by decide +kernel) ?_); simp [-cellOK, m, hS', hP', rgAV, iAV, vc, vo, nc, no, set_m, n1, ra, rb]) | (refine guarded_split ?_ ?_ <;> (intro hg; simp only [hg]; simp [-cellOK, m, hS', hP', rgAV, iAV, vc, vo, nc, no, set_m, n1, ra, rb])) | (apply awp_cond_t; focus (simp [-cellOK, m, hS', hP', rgAV, iAV, vc, vo, nc, no, set_m, n1, ra, rb]; done)) | (apply awp_cond_f; focus (simp [-cellOK, m, hS', hP', rgAV, iAV, vc, vo, nc, no, set_m, n1, ra, rb]; done)) | (refine awp_cond ?_; simp [-cellOK, m, hS', hP', rgAV, iAV, vc, vo, nc, no, set_m, n1, ra, rb]; refine ⟨?_, ?_⟩ <;> intro hc) | fail)
      generalize hσ1 : St.set _ _ _ = σ1
      have m1 : σ1.m ip = some (pbOb { X with P := r' :: rs } d v (t.out, t.last) w (u.out, u.last) nx false vc0) := by rw [← hσ1]; simp [set_m, m, pbOb, pbRow, hS', rgsAV, rgAV, iAV]
      have hE1 : Ex ip σ σ1 := by rw [← hσ1]; repeat (first | exact Ex.refl _ _ | refine Ex.set ?_ _)
      refine begin_calls hsz m1 hS fun τ mτ hE => ?_
      (try ((first | with_reducible refine dops_go ?_ | with_reducible refine OKv_go ?_ | with_reducible refine OKr_go ?_); simp [-cellOK])); repeat' (first | refine awp_seq ?_ | refine awp_block ?_ | (refine awp_skip ?_; try simp) | (refine awp_exit ?_; try simp) | (refine awp_ret ?_; try simp) | ((first | refine awp_reg ?_ | refine awp_drawT (fun _ => false) mixed (by decide +kernel) ?_ | refine awp_drawT isCallO mixed (by decide +kernel) ?_); simp [-cellOK]) | (refine guarded_split ?_ ?_ <;> (intro hg; simp only [hg]; simp [-cellOK])) | (apply awp_cond_t; focus (simp [-cellOK]; done)) | (apply awp_cond_f; focus (simp [-cellOK]; done)) | (refine awp_cond ?_; simp [-cellOK]; refine ⟨?_, ?_⟩ <;> intro hc) | fail)
      exact retK_of (.inl rfl) (x := .tup []) (by simp) (hK2 rfl (by simp) τ mτ (hE1.trans hE))
    | nil =>
      cases ss with
      | nil =>
        (try ((first | with_reducible refine dops_go ?_ | with_reducible refine OKv_go ?_ | with_reducible refine OKr_go ?_); simp [-cellOK, m, hS', hP', rgAV, iAV, vc, vo, nc, no, set_m, n1, ra, rb])); repeat' (first | refine awp_seq ?_ | refine awp_block ?_ | (refine awp_skip ?_; try simp) | (refine awp_exit ?_; try simp) | (refine awp_ret ?_; try simp) | ((first | refine awp_reg ?_ | refine awp_drawT (fun _ => false) mixed (by decide +kernel) ?_ | refine awp_drawT isCallO mixed (by decide +kernel) ?_); simp [-cellOK, m, hS', hP', rgAV, iAV, vc, vo, nc, no, set_m, n1, ra, rb]) | (refine guarded_split ?_ ?_ <;> (intro hg; simp only [hg]; simp [-cellOK, m, hS', hP', rgAV, iAV, vc, vo, nc, no, set_m, n1, ra, rb])) | (apply awp_cond_t; focus (simp [-cellOK, m, hS', hP', rgAV, iAV, vc, vo, nc, no, set_m, n1, ra, rb]; done)) | (apply awp_cond_f; focus (simp [-cellOK, m, hS', hP', rgAV, iAV, vc, vo, nc, no, set_m, n1, ra, rb]; done)) | (refine awp_cond ?_; simp [-cellOK, m, hS', hP', rgAV, iAV, vc, vo, nc, no, set_m, n1, ra, rb]; refine ⟨?_, ?_⟩ <;> intro hc) | fail)
        refine retK_of (.inr rfl) (x := .tup []) (by simp) (hK3 rfl rfl rfl _ ?_ ?_)
        · simp [set_m, m, pbOb, pbRow, hS', hP', rgAV, iAV, intsAV, nilAV]
        · repeat (first | exact Ex.refl _ _ | refine Ex.set ?_ _)
      | cons s' ss =>
        (try ((first | with_reducible refine dops_go ?_ | with_reducible refine OKv_go ?_ | with_reducible refine OKr_go ?_); simp [-cellOK, m, hS', hP', rgAV, iAV, vc, vo, nc, no, set_m, n1, ra, rb])); repeat' (first | refine awp_seq ?_ | refine awp_block ?_ | (refine awp_skip ?_; try simp) | (refine awp_exit ?_; try simp) | (refine awp_ret ?_; try simp) | ((first | refine awp_reg ?_ | refine awp_drawT (fun _ => false) mixed (by decide +kernel) ?_ | refine awp_drawT isCallO mixed (by decide +kernel) ?_); simp [-cellOK, m, hS', hP', rgAV, iAV, vc, vo, nc, no, set_m, n1, ra, rb]) | (refine guarded_split ?_ ?_ <;> (intro hg; simp only [hg]; simp [-cellOK, m, hS', hP', rgAV, iAV, vc, vo, nc, no, set_m, n1, ra, rb])) | (apply awp_cond_t; focus (simp [-cellOK, m, hS', hP', rgAV, iAV, vc, vo, nc, no, set_m, n1, ra, rb]; done)) | (apply awp_cond_f; focus (simp [-cellOK, m, hS', hP', rgAV, iAV, vc, vo, nc, no, set_m, n1, ra, rb]; done)) | (refine awp_cond ?_; simp [-cellOK, m, hS', hP', rgAV, iAV, vc, vo, nc, no, set_m, n1, ra, rb]; refine ⟨?_, ?_⟩ <;> intro hc) | fail)
        generalize hσ1 : St.set _ _ _ = σ1
        have m1 : σ1.m ip = some (pbOb { X with P := X.A, S := s' :: ss } d v (t.out, t.last) w (u.out, u.last) nx false vc0) := by rw [← hσ1]; simp [set_m, m, pbOb, pbRow, intsAV, rgAV, iAV]
        have hE1 : Ex ip σ σ1 := by rw [← hσ1]; repeat (first | exact Ex.refl _ _ | refine Ex.set ?_ _)
        refine begin_calls hsz m1 rfl fun τ mτ hE => ?_
        (try ((first | with_reducible refine dops_go ?_ | with_reducible refine OKv_go ?_ | with_reducible refine OKr_go ?_); simp [-cellOK])); repeat' (first | refine awp_seq ?_ | refine awp_block ?_ | (refine awp_skip ?_; try simp) | (refine awp_exit ?_; try simp) | (refine awp_ret ?_; try simp) | ((first | refine awp_reg ?_ | refine awp_drawT (fun _ => false) mixed (by decide +kernel) ?_ | refine awp_drawT isCallO mixed (by decide +kernel) ?_); simp [-cellOK]) | (refine guarded_split ?_ ?_ <;> (intro hg; simp only [hg]; simp [-cellOK])) | (apply awp_cond_t; focus (simp [-cellOK]; done)) | (apply awp_cond_f; focus (simp [-cellOK]; done)) | (refine awp_cond ?_; simp [-cellOK]; refine ⟨?_, ?_⟩ <;> intro hc) | fail)
        exact retK_of (.inl rfl) (x := .tup []) (by simp) (hK4 rfl rfl s' ss rfl τ mτ (hE1.trans hE))
end Go.Proofs.Ytanimmdlgmkmkaa.Av


/- Probes: one unit. -/
namespace Go.Proofs.Ytanimmdlgmkmkaa.Av
open Go
set_option linter.unusedSimpArgs false
set_option linter.unusedVariables false
set_option maxRecDepth 100000
set_option maxHeartbeats 4000000
set_option pp.maxSteps 600

theorem visit1_calls {ip : Id} (hsz : ip.sz = 34) {X : PB} (hN : NwOK X.N) {σ : St} {d : Int} {v : AV} {x : Int} {p : List Int} {s : Int} {r : Rg} {rs : List Rg} (hP : X.P = r :: rs) (hw : Way X.N r.lo s d p)
    (m : σ.m ip = some (pbOb X d v (x, ⟨0, 0⟩) nilAV z0 (firstAV ip) false vc0)) (hB : OwnB σ v (p.map iAV)) {K : AV → St → Prop}
    (hKf : ∀ τ v', (d ∈ p ∨ (stepF X.N d r.lo).1 ≠ 4) → τ.m ip = some (pbOb X d v' ((traceF X.N s r.lo).out, (traceF X.N s r.lo).last) nilAV z0 (firstAV ip) false vc0) → OwnB τ v' ((traceF X.N s r.lo).path.map iAV) → Kp ip v v' σ τ → K (.raw (.bool false)) τ)
    (hKt : ∀ τ v', ¬ (d ∈ p ∨ (stepF X.N d r.lo).1 ≠ 4) → τ.m ip = some (pbOb X (nextDev X.N (stepF X.N d r.lo).2) v' (4, ⟨0, 0⟩) nilAV z0 (firstAV ip) false vc0) → OwnB τ v' ((p ++ [d]).map iAV) → Kp ip v v' σ τ → K (.raw (.bool true)) τ) :
    ACalls Try.prog 129 [.rp ip 0 0, nwAV X.N X.F, .rp ip 0 17] σ K := by
  have hl := hw.len
  have hk := hN.links
  refine visitT_calls X.N X.F hN hsz (c := fun j => (pbRow X d v (x, ⟨0, 0⟩) nilAV z0 (firstAV ip) false vc0)[j]?.getD .any) m (d := d) rfl (r := r) (rs := rs) (by rw [← hP]; rfl) (v := v) (p := p) rfl hB (by omega) ?_ ?_ ?_
  · intro hd τ v' mτ hB' hKp
    have e := hw.again hd
    exact hKf τ v' (.inl hd) (by rw [e]; exact mτ) (by rw [e]; exact hB') hKp
  · intro hd h4 τ v' mτ hB' hKp
    exact hKt τ v' (fun h => h.elim hd fun h => h h4) mτ hB' hKp
  · intro hd h4 τ v' mτ hB' hKp
    have e := hw.fin hd h4
    exact hKf τ v' (.inr h4) (by rw [e]; exact mτ) (by rw [e]; exact hB') hKp

theorem visit2_calls {ip : Id} (hsz : ip.sz = 34) {X : PB} (hN : NwOK X.M) {σ : St} {d : Int} {v w : AV} {t : Int × Pt} {x : Int} {p : List Int} {s : Int} {r : Rg} {rs : List Rg} (hP : X.P = r :: rs) (hw : Way X.M r.lo s d p)
    (m : σ.m ip = some (pbOb X d v t w (x, ⟨0, 0⟩) (secondAV ip) false vc0)) (hB : OwnB σ w (p.map iAV)) {K : AV → St → Prop}
    (hKf : ∀ τ w', (d ∈ p ∨ (stepF X.M d r.lo).1 ≠ 4) → τ.m ip = some (pbOb X d v t w' ((traceF X.M s r.lo).out, (traceF X.M s r.lo).last) (secondAV ip) false vc0) → OwnB τ w' ((traceF X.M s r.lo).path.map iAV) → Kp ip w w' σ τ → K (.raw (.bool false)) τ)
    (hKt : ∀ τ w', ¬ (d ∈ p ∨ (stepF X.M d r.lo).1 ≠ 4) → τ.m ip = some (pbOb X (nextDev X.M (stepF X.M d r.lo).2) v t w' (4, ⟨0, 0⟩) (secondAV ip) false vc0) → OwnB τ w' ((p ++ [d]).map iAV) → Kp ip w w' σ τ → K (.raw (.bool true)) τ) :
    ACalls Try.prog 129 [.rp ip 0 0, nwAV X.M X.G, .rp ip 0 21] σ K := by
  have hl := hw.len
  have hk := hN.links
  refine visitU_calls X.M X.G hN hsz (c := fun j => (pbRow X d v t w (x, ⟨0, 0⟩) (secondAV ip) false vc0)[j]?.getD .any) m (d := d) rfl (r := r) (rs := rs) (by rw [← hP]; rfl) (v := w) (p := p) rfl hB (by omega) ?_ ?_ ?_
  · intro hd τ v' mτ hB' hKp
    have e := hw.again hd
    exact hKf τ v' (.inl hd) (by rw [e]; exact mτ) (by rw [e]; exact hB') hKp
  · intro hd h4 τ v' mτ hB' hKp
    exact hKt τ v' (fun h => h.elim hd fun h => h h4) mτ hB' hKp
  · intro hd h4 τ v' mτ hB' hKp
    have e := hw.fin hd h4
    exact hKf τ v' (.inr h4) (by rw [e]; exact mτ) (by rw [e]; exact hB') hKp

/-- Where a probe is: in the first trace, in the second, or done. -/
inductive Ph
  | one (p : List Int) (d : Int)
  | two (p : List Int) (d : Int)
  | fin (V : Vd)
deriving DecidableEq
def PbR (ip : Id) (X : PB) : Ph → AV → AV → St → Prop
  | .one p d, v, w, σ => w = nilAV ∧ OwnB σ v (p.map iAV) ∧ ∃ s ss r rs x, X.S = s :: ss ∧ X.P = r :: rs ∧ Way X.N r.lo s d p ∧ σ.m ip = some (pbOb X d v (x, ⟨0, 0⟩) nilAV z0 (firstAV ip) false vc0)
  | .two p d, v, w, σ => OwnB σ w (p.map iAV) ∧ (∀ j, isAt v j → ¬ isAt w j) ∧ X.q.kind = 5 ∧ ∃ s ss r rs x, X.S = s :: ss ∧ X.P = r :: rs ∧ Way X.M r.lo s d p ∧ OwnB σ v ((traceF X.N s r.lo).path.map iAV) ∧
      σ.m ip = some (pbOb X d v ((traceF X.N s r.lo).out, (traceF X.N s r.lo).last) w (x, ⟨0, 0⟩) (secondAV ip) false vc0)
  | .fin V, v, w, σ => w = nilAV ∧ OwnB σ v (V.tr.path.map iAV) ∧ V.tr.path.length < 2 ^ 44 ∧ ∃ d v' t w' u nx, σ.m ip = some (pbOb X d v' t w' u nx true ⟨V.holds, V.src, V.addr, v, V.tr.out, V.tr.last.dev, V.tr.last.port⟩)
def overP (X : PB) (t u : Tk) : PB × Ph := match X.S, X.P with
  | s :: ss, r :: rs => if breaksQ X.q t u = true then (X, .fin ⟨false, s, r.lo, t⟩) else match rs with
    | _ :: _ => ({ X with P := rs }, .one [] s)
    | [] => match ss with
      | [] => ({ X with P := X.A, S := [] }, .fin ⟨true, 0, 0, noTk⟩)
      | s' :: _ => ({ X with P := X.A, S := ss }, .one [] s')
  | _, _ => (X, .one [] 0)
def stepP (X : PB) : Ph → PB × Ph
  | .one p d => match X.S, X.P with
    | s :: ss, r :: rs => if d ∈ p ∨ (stepF X.N d r.lo).1 ≠ 4 then (if X.q.kind = 5 then (X, .two [] s) else overP X (traceF X.N s r.lo) noTk) else (X, .one (p ++ [d]) (nextDev X.N (stepF X.N d r.lo).2))
    | _, _ => (X, .one p d)
  | .two p d => match X.S, X.P with
    | s :: ss, r :: rs => if d ∈ p ∨ (stepF X.M d r.lo).1 ≠ 4 then overP X (traceF X.N s r.lo) (traceF X.M s r.lo) else (X, .two (p ++ [d]) (nextDev X.M (stepF X.M d r.lo).2))
    | _, _ => (X, .two p d)
  | .fin V => (X, .fin V)
structure OkB (X : PB) : Prop where
  n : NwOK X.N
  m : NwOK X.M
  a : ∃ r rs, X.A = r :: rs
  al : X.A.length < 2 ^ 60
  sl : X.S.length < 2 ^ 60
  pl : X.P.length < 2 ^ 60
/-- What a unit leaves alone. -/
def Kq (ip : Id) (v w v' w' : AV) (σ τ : St) : Prop := (∀ i o, i ≠ ip → ¬ isAt v i → ¬ isAt w i → σ.m i = some o → τ.m i = some o ∧ ¬ isAt v' i ∧ ¬ isAt w' i) ∧ ∀ s, σ.nx s ≤ τ.nx s
theorem nilAV_at (i : Id) : ¬ isAt nilAV i := fun ⟨l, e⟩ => by cases e
theorem nil_own (σ : St) : OwnB σ nilAV [] := .inl ⟨rfl, rfl⟩
theorem Way.tlen {n : Nw} (hn : NwOK n) (a d : Int) : (traceF n d a).path.length < 2 ^ 44 := by
  have hk := hn.links
  have : ∀ f d p, (walkT n a f d p).path.length ≤ p.length + f := by
    intro f
    induction f with
    | zero => intro d p; simp [walkT]
    | succ f ih =>
      intro d p
      rw [walkT]
      split
      · simp
      · split
        · have := ih (nextDev n (stepF n d a).2) (p ++ [d])
          simp only [List.length_append, List.length_singleton] at this; omega
        · simp
  have := this (2 + 2 * n.t.links.length) d []
  unfold traceF
  simp only [List.length_nil] at this
  omega

/-- The ends of a trace, together. -/
theorem over_calls {ip : Id} (hsz : ip.sz = 34) {X : PB} (hX : OkB X) {d : Int} {v : AV} {t : Tk} {w : AV} {u : Tk} {nx : AV} {σ : St} (m : σ.m ip = some (pbOb X d v (t.out, t.last) w (u.out, u.last) nx false vc0))
    (hv : OwnB σ v (t.path.map iAV)) (hw : OwnB σ w (u.path.map iAV)) (ht : t.path.length < 2 ^ 44) (hu : u.path.length < 2 ^ 44) (hnx : nx.cells = [nx] ∧ cellOK nx = true)
    {s : Int} {ss : List Int} (hS : X.S = s :: ss) {r : Rg} {rs : List Rg} (hP : X.P = r :: rs) (hd : ∀ j, isAt v j → ¬ isAt w j) {K : AV → St → Prop}
    (hK : ∀ τ v' w', PbR ip (overP X t u).1 (overP X t u).2 v' w' τ → Kq ip v w v' w' σ τ → K (.tup []) τ) :
    ACalls Try.prog 131 [.rp ip 0 0] σ K := by
  have hat : ∀ {v : AV} {es : List AV}, OwnB σ v es → ¬ isAt v ip := by
    rintro v es (⟨_, rfl⟩ | ⟨j, rfl, hj, _⟩) ⟨l, e⟩
    · cases e
    · injection e with e; subst e; rw [hsz] at hj; cases hj
  obtain ⟨N, M, F, G, q, S, A, P⟩ := X
  dsimp only at hS hP
  subst hS; subst hP
  unfold overP at hK
  dsimp only at hK
  refine ended_calls hsz m hv hw (by omega) (by omega) hnx rfl rfl hX.sl hX.pl ?_ ?_ ?_ ?_
  · intro hb τ mτ hE
    rw [if_pos hb] at hK
    exact hK τ v nilAV ⟨rfl, hv.ex (hat hv) hE, ht, _, _, _, _, _, _, mτ⟩ ⟨fun i o n n1 n2 e => ⟨hE.1 i o n e, n1, nilAV_at i⟩, hE.2⟩
  · intro hb hne τ mτ hE
    rw [if_neg (by simp [hb])] at hK
    cases rs with
    | nil => exact absurd rfl hne
    | cons r' rs =>
      exact hK τ nilAV nilAV ⟨rfl, nil_own _, s, ss, r', rs, _, rfl, rfl, Way.start _ _ _, mτ⟩ ⟨fun i o n n1 n2 e => ⟨hE.1 i o n e, nilAV_at i, nilAV_at i⟩, hE.2⟩
  · intro hb e1 e2 τ mτ hE
    rw [if_neg (by simp [hb])] at hK
    subst e1; subst e2
    exact hK τ nilAV nilAV ⟨rfl, nil_own _, by decide, _, _, _, _, _, _, mτ⟩ ⟨fun i o n n1 n2 e => ⟨hE.1 i o n e, nilAV_at i, nilAV_at i⟩, hE.2⟩
  · intro hb e1 s' ss' e2 τ mτ hE
    rw [if_neg (by simp [hb])] at hK
    subst e1; subst e2
    obtain ⟨r', rs', hA⟩ := hX.a
    exact hK τ nilAV nilAV ⟨rfl, nil_own _, s', ss', r', rs', _, rfl, hA, Way.start _ _ _, mτ⟩ ⟨fun i o n n1 n2 e => ⟨hE.1 i o n e, nilAV_at i, nilAV_at i⟩, hE.2⟩
end Go.Proofs.Ytanimmdlgmkmkaa.Av

