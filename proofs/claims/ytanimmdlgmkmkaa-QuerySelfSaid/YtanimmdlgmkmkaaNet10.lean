/- The queries' laws: the program walked, and plain laws of what it computes. Part 10 of 14: AvN28, AvN29, AvN30, AvN15, AvN18, AvN19, AvN20, AvN21, AvN32, AvN23, AvN24, AvN16, AvN31. -/
import Derived.Test.YtanimmdlgmkmkaaNet6
import Derived.Test.YtanimmdlgmkmkaaNet7
import Derived.Test.YtanimmdlgmkmkaaNet8
import Derived.Test.YtanimmdlgmkmkaaNet9

/- Networks: what is genuine; queries: right ones, sources, what breaks them. -/
namespace Go.Proofs.Ytanimmdlgmkmkaa.Av
open Go
set_option linter.unusedSimpArgs false
set_option linter.unusedVariables false
set_option maxRecDepth 100000
set_option maxHeartbeats 4000000
set_option pp.maxSteps 600

@[simp] theorem tk_ids (K : Id → Prop) (t : Tk) (b : Bool) : (tkAV t b).ids K := by simp [tkAV]
theorem tk_cells (t : Tk) (f : Bool) : (tkAV t f).cells = [intsAV t.path f, .raw (.int .i64 t.out), .raw (.int .i64 t.last.dev), .raw (.int .i64 t.last.port)] := rfl
theorem tk_fold (t : Tk) (f : Bool) : AV.agg [intsAV t.path f, .raw (.int .i64 t.out), .raw (.int .i64 t.last.dev), .raw (.int .i64 t.last.port)] = tkAV t f := rfl
theorem ints_cells (l : List Int) (f : Bool) : (intsAV l f).cells = [intsAV l f] := rfl
theorem tk_put (t u : Tk) (f g : Bool) : setPart (tkAV t f) 0 (tkAV u g).cells = tkAV u g := rfl
theorem tk_putO (u : Tk) (g : Bool) : setPart (AV.agg [.sl 0 [] true, .raw (.int .i64 0), .raw (.int .i64 0), .raw (.int .i64 0)]) 0 (tkAV u g).cells = tkAV u g := rfl
theorem tk_putL (u : Tk) (g : Bool) : setPart (AV.agg [.sl 0 [] true, .raw (.int .i64 0), .raw (.int .i64 0), .raw (.int .i64 0)]) 0 [intsAV u.path g, .raw (.int .i64 u.out), .raw (.int .i64 u.last.dev), .raw (.int .i64 u.last.port)] = tkAV u g := rfl
def genuineB (N : Nw) (a : Int) (t : Tk) : Bool := match t.path with | [] => false | d :: _ => decide ((traceR N d a).2 = 0) && decide (t = (traceR N d a).1)
theorem walkT_len (n : Nw) (a : Int) : ∀ (f : Nat) (d : Int) (p : List Int), (walkT n a f d p).path.length ≤ p.length + f
  | 0, d, p => by simp [walkT]
  | f + 1, d, p => by
    have := walkT_len n a f (nextDev n (stepF n d a).2) (p ++ [d])
    simp only [walkT]
    split
    · simp
    · split
      · simp only [List.length_append, List.length_singleton] at this; omega
      · simp
theorem traceR_len (n : Nw) (d a : Int) : (traceR n d a).1.path.length ≤ 2 + 2 * n.t.links.length := by
  unfold traceR
  split
  · simp
  · have := walkT_len n a (2 + 2 * n.t.links.length) d []
    simpa [traceF] using this
theorem genuine_calls (N : Nw) (f : Fl) (a : Int) (t : Tk) (g : Bool) (hN : NwOK N) (ht : t.path.length < 2 ^ 60) : PCalls Try.prog 16 [nwAV N f, .raw (.int .u32 a), tkAV t g] (.raw (.bool (genuineB N a t))) := by
  unfold genuineB
  have hlk := hN.links
  cases hp : t.path with
  | nil =>
    have e : intsAV t.path g = .sl 1 [] g := by rw [hp]; rfl
    refine pbody Try.func16 rfl (N := 30) rfl rfl (by simp) (by simp [noIds]) fun σ => ?_
    (try (first | (with_reducible refine dops_go ?_; simp [-cellOK, nw_cells, nw_fold, tk_cells, tk_fold, e]) | (with_reducible refine OKv_go ?_; simp [-cellOK, nw_cells, nw_fold, tk_cells, tk_fold, e]) | (with_reducible refine OKr_go ?_; simp [-cellOK, nw_cells, nw_fold, tk_cells, tk_fold, e]))); repeat' (first | refine awp_seq ?_ | refine awp_block ?_ | (refine awp_skip ?_; try simp) | (refine awp_exit ?_; try simp) | (refine awp_ret ?_; try simp) | (refine retP_same (by simp) ?_; simp) | (refine retP_no (by simp) (by simp [noIds]) (by repeat (first | assumption | exact Ext.refl _ | refine ext_new' ?_ | refine Ext.setF ?_ (by first | assumption | (simp [new_nx', St.set, fresh_none]; done) | exact ext_fresh (by assumption)))) ?_; simp [-cellOK, nw_cells, nw_fold, tk_cells, tk_fold, e, new_m, set_m, new_nx']) | (refine awp_reg ?_; simp [-cellOK, nw_cells, nw_fold, tk_cells, tk_fold, e]) | (refine awp_drawT (fun _ => false) mixed (by decide +kernel) ?_; simp [-cellOK, nw_cells, nw_fold, tk_cells, tk_fold, e]) | (refine guarded_split ?_ ?_ <;> (intro hg; simp only [hg]; simp [-cellOK, nw_cells, nw_fold, tk_cells, tk_fold, e])) | (apply awp_cond_t; focus (simp [-cellOK, nw_cells, nw_fold, tk_cells, tk_fold, e]; done)) | (apply awp_cond_f; focus (simp [-cellOK, nw_cells, nw_fold, tk_cells, tk_fold, e]; done)) | (refine awp_cond ?_; simp [-cellOK, nw_cells, nw_fold, tk_cells, tk_fold, e]; refine ⟨?_, ?_⟩ <;> intro hc) | (refine awp_drawT isCallO mixed (by decide +kernel) ?_; simp [-cellOK, nw_cells, nw_fold, tk_cells, tk_fold, e]) | fail)
  | cons d p =>
    have e : intsAV t.path g = .sl 1 (.raw (.int .i64 d) :: p.map iAV) g := by rw [hp]; rfl
    have e0 : ¬ ((p.length : Int) + 1 = 0) := by omega
    have h1 := trace_calls N f d a hN
    have h2 := tkSame_calls t (traceR N d a).1 g false ht (by have := traceR_len N d a; omega)
    simp only []
    generalize (traceR N d a).2 = E at h1 ⊢
    generalize (traceR N d a).1 = T at h1 h2 ⊢
    have h3 := tk_fold t g
    rw [e] at h3
    obtain ⟨b, hb⟩ : ∃ b, decide (t = T) = b := ⟨_, rfl⟩
    rw [hb] at h2 ⊢
    refine pbody Try.func16 rfl (N := 30) rfl rfl (by simp) (by simp [noIds]) fun σ => ?_
    by_cases q : E = 0
    · (try (first | (with_reducible refine dops_go ?_; simp [-cellOK, nw_cells, nw_fold, tk_cells, tk_fold, h3, tk_put, tk_putO, tk_putL, q, e, e0]) | (with_reducible refine OKv_go ?_; simp [-cellOK, nw_cells, nw_fold, tk_cells, tk_fold, h3, tk_put, tk_putO, tk_putL, q, e, e0]) | (with_reducible refine OKr_go ?_; simp [-cellOK, nw_cells, nw_fold, tk_cells, tk_fold, h3, tk_put, tk_putO, tk_putL, q, e, e0]))); repeat' (first | refine awp_seq ?_ | refine awp_block ?_ | (refine awp_skip ?_; try simp) | (refine awp_exit ?_; try simp) | (refine awp_ret ?_; try simp) | (refine retP_same (by simp) ?_; simp) | (refine retP_no (by simp) (by simp [noIds]) (by repeat (first | assumption | exact Ext.refl _ | refine ext_new' ?_ | refine Ext.setF ?_ (by first | assumption | (simp [new_nx', St.set, fresh_none]; done) | exact ext_fresh (by assumption)))) ?_; simp [-cellOK, nw_cells, nw_fold, tk_cells, tk_fold, h3, tk_put, tk_putO, tk_putL, q, e, e0, new_m, set_m, new_nx']) | (refine awp_reg ?_; simp [-cellOK, nw_cells, nw_fold, tk_cells, tk_fold, h3, tk_put, tk_putO, tk_putL, q, e, e0]) | (refine awp_drawT (fun _ => false) mixed (by decide +kernel) ?_; simp [-cellOK, nw_cells, nw_fold, tk_cells, tk_fold, h3, tk_put, tk_putO, tk_putL, q, e, e0]) | (refine guarded_split ?_ ?_ <;> (intro hg; simp only [hg]; simp [-cellOK, nw_cells, nw_fold, tk_cells, tk_fold, h3, tk_put, tk_putO, tk_putL, q, e, e0])) | (apply awp_cond_t; focus (simp [-cellOK, nw_cells, nw_fold, tk_cells, tk_fold, h3, tk_put, tk_putO, tk_putL, q, e, e0]; done)) | (apply awp_cond_f; focus (simp [-cellOK, nw_cells, nw_fold, tk_cells, tk_fold, h3, tk_put, tk_putO, tk_putL, q, e, e0]; done)) | (refine awp_cond ?_; simp [-cellOK, nw_cells, nw_fold, tk_cells, tk_fold, h3, tk_put, tk_putO, tk_putL, q, e, e0]; refine ⟨?_, ?_⟩ <;> intro hc) | (refine awp_drawT isCallO mixed (by decide +kernel) ?_; simp [-cellOK, nw_cells, nw_fold, tk_cells, tk_fold, h3, tk_put, tk_putO, tk_putL, q, e, e0]) | (refine PCalls.use (h1) ?_; simp [-cellOK, nw_cells, nw_fold, tk_cells, tk_fold, h3, tk_put, tk_putO, tk_putL, q, e, e0]) | (refine Or.inl ⟨_, Or.inl (h1), ?_⟩; simp [-cellOK, nw_cells, nw_fold, tk_cells, tk_fold, h3, tk_put, tk_putO, tk_putL, q, e, e0]) | (refine PCalls.use (h2) ?_; simp [-cellOK, nw_cells, nw_fold, tk_cells, tk_fold, h3, tk_put, tk_putO, tk_putL, q, e, e0]) | (refine Or.inl ⟨_, Or.inl (h2), ?_⟩; simp [-cellOK, nw_cells, nw_fold, tk_cells, tk_fold, h3, tk_put, tk_putO, tk_putL, q, e, e0]) | fail)
    · (try (first | (with_reducible refine dops_go ?_; simp [-cellOK, nw_cells, nw_fold, tk_cells, tk_fold, h3, tk_put, tk_putO, tk_putL, q, e, e0]) | (with_reducible refine OKv_go ?_; simp [-cellOK, nw_cells, nw_fold, tk_cells, tk_fold, h3, tk_put, tk_putO, tk_putL, q, e, e0]) | (with_reducible refine OKr_go ?_; simp [-cellOK, nw_cells, nw_fold, tk_cells, tk_fold, h3, tk_put, tk_putO, tk_putL, q, e, e0]))); repeat' (first | refine awp_seq ?_ | refine awp_block ?_ | (refine awp_skip ?_; try simp) | (refine awp_exit ?_; try simp) | (refine awp_ret ?_; try simp) | (refine retP_same (by simp) ?_; simp) | (refine retP_no (by simp) (by simp [noIds]) (by repeat (first | assumption | exact Ext.refl _ | refine ext_new' ?_ | refine Ext.setF ?_ (by first | assumption | (simp [new_nx', St.set, fresh_none]; done) | exact ext_fresh (by assumption)))) ?_; simp [-cellOK, nw_cells, nw_fold, tk_cells, tk_fold, h3, tk_put, tk_putO, tk_putL, q, e, e0, new_m, set_m, new_nx']) | (refine awp_reg ?_; simp [-cellOK, nw_cells, nw_fold, tk_cells, tk_fold, h3, tk_put, tk_putO, tk_putL, q, e, e0]) | (refine awp_drawT (fun _ => false) mixed (by decide +kernel) ?_; simp [-cellOK, nw_cells, nw_fold, tk_cells, tk_fold, h3, tk_put, tk_putO, tk_putL, q, e, e0]) | (refine guarded_split ?_ ?_ <;> (intro hg; simp only [hg]; simp [-cellOK, nw_cells, nw_fold, tk_cells, tk_fold, h3, tk_put, tk_putO, tk_putL, q, e, e0])) | (apply awp_cond_t; focus (simp [-cellOK, nw_cells, nw_fold, tk_cells, tk_fold, h3, tk_put, tk_putO, tk_putL, q, e, e0]; done)) | (apply awp_cond_f; focus (simp [-cellOK, nw_cells, nw_fold, tk_cells, tk_fold, h3, tk_put, tk_putO, tk_putL, q, e, e0]; done)) | (refine awp_cond ?_; simp [-cellOK, nw_cells, nw_fold, tk_cells, tk_fold, h3, tk_put, tk_putO, tk_putL, q, e, e0]; refine ⟨?_, ?_⟩ <;> intro hc) | (refine awp_drawT isCallO mixed (by decide +kernel) ?_; simp [-cellOK, nw_cells, nw_fold, tk_cells, tk_fold, h3, tk_put, tk_putO, tk_putL, q, e, e0]) | (refine PCalls.use (h1) ?_; simp [-cellOK, nw_cells, nw_fold, tk_cells, tk_fold, h3, tk_put, tk_putO, tk_putL, q, e, e0]) | (refine Or.inl ⟨_, Or.inl (h1), ?_⟩; simp [-cellOK, nw_cells, nw_fold, tk_cells, tk_fold, h3, tk_put, tk_putO, tk_putL, q, e, e0]) | (refine PCalls.use (h2) ?_; simp [-cellOK, nw_cells, nw_fold, tk_cells, tk_fold, h3, tk_put, tk_putO, tk_putL, q, e, e0]) | (refine Or.inl ⟨_, Or.inl (h2), ?_⟩; simp [-cellOK, nw_cells, nw_fold, tk_cells, tk_fold, h3, tk_put, tk_putO, tk_putL, q, e, e0]) | fail)
/-! ### Queries -/
structure Qy where
  kind : Int
  a : Int
  b : Int
  w : Int
  r : Rg
  other : ByteArray
def qyAV (q : Qy) : AV := .agg [.raw (.int .i64 q.kind), .raw (.int .i64 q.a), .raw (.int .i64 q.b), .raw (.int .i64 q.w), .raw (.int .u32 q.r.lo), .raw (.int .u32 q.r.hi), .raw (.string q.other)]
theorem qy_cells (q : Qy) : (qyAV q).cells = [.raw (.int .i64 q.kind), .raw (.int .i64 q.a), .raw (.int .i64 q.b), .raw (.int .i64 q.w), .raw (.int .u32 q.r.lo), .raw (.int .u32 q.r.hi), .raw (.string q.other)] := rfl
theorem qy_fold (q : Qy) : AV.agg [.raw (.int .i64 q.kind), .raw (.int .i64 q.a), .raw (.int .i64 q.b), .raw (.int .i64 q.w), .raw (.int .u32 q.r.lo), .raw (.int .u32 q.r.hi), .raw (.string q.other)] = qyAV q := rfl
@[simp] theorem qy_ids (K : Id → Prop) (q : Qy) : (qyAV q).ids K := by simp [qyAV]
def singleB (q : Qy) : Bool := decide (q.kind = 0) || (decide (q.kind = 3) || decide (q.kind = 4))
theorem single_calls (q : Qy) : PCalls Try.prog 44 [qyAV q] (.raw (.bool (singleB q))) := by
  refine pbody Try.func44 rfl (N := 16) rfl rfl (by simp) (by simp [noIds]) fun σ => ?_
  unfold singleB
  by_cases h0 : q.kind = 0
  · (try (first | (with_reducible refine dops_go ?_; simp [-cellOK, qy_cells, h0]) | (with_reducible refine OKv_go ?_; simp [-cellOK, qy_cells, h0]) | (with_reducible refine OKr_go ?_; simp [-cellOK, qy_cells, h0]))); repeat' (first | refine awp_seq ?_ | refine awp_block ?_ | (refine awp_skip ?_; try simp) | (refine awp_exit ?_; try simp) | (refine awp_ret ?_; try simp) | (refine retP_same (by simp) ?_; simp) | (refine retP_no (by simp) (by simp [noIds]) (by repeat (first | assumption | exact Ext.refl _ | refine ext_new' ?_ | refine Ext.setF ?_ (by first | assumption | (simp [new_nx', St.set, fresh_none]; done) | exact ext_fresh (by assumption)))) ?_; simp [-cellOK, qy_cells, h0, new_m, set_m, new_nx']) | (refine awp_reg ?_; simp [-cellOK, qy_cells, h0]) | (refine awp_drawT (fun _ => false) mixed (by decide +kernel) ?_; simp [-cellOK, qy_cells, h0]) | (refine guarded_split ?_ ?_ <;> (intro hg; simp only [hg]; simp [-cellOK, qy_cells, h0])) | (apply awp_cond_t; focus (simp [-cellOK, qy_cells, h0]; done)) | (apply awp_cond_f; focus (simp [-cellOK, qy_cells, h0]; done)) | (refine awp_cond ?_; simp [-cellOK, qy_cells, h0]; refine ⟨?_, ?_⟩ <;> intro hc) | (refine awp_drawT isCallO mixed (by decide +kernel) ?_; simp [-cellOK, qy_cells, h0]) | fail)
  · by_cases h3 : q.kind = 3
    · (try (first | (with_reducible refine dops_go ?_; simp [-cellOK, qy_cells, h0, h3]) | (with_reducible refine OKv_go ?_; simp [-cellOK, qy_cells, h0, h3]) | (with_reducible refine OKr_go ?_; simp [-cellOK, qy_cells, h0, h3]))); repeat' (first | refine awp_seq ?_ | refine awp_block ?_ | (refine awp_skip ?_; try simp) | (refine awp_exit ?_; try simp) | (refine awp_ret ?_; try simp) | (refine retP_same (by simp) ?_; simp) | (refine retP_no (by simp) (by simp [noIds]) (by repeat (first | assumption | exact Ext.refl _ | refine ext_new' ?_ | refine Ext.setF ?_ (by first | assumption | (simp [new_nx', St.set, fresh_none]; done) | exact ext_fresh (by assumption)))) ?_; simp [-cellOK, qy_cells, h0, h3, new_m, set_m, new_nx']) | (refine awp_reg ?_; simp [-cellOK, qy_cells, h0, h3]) | (refine awp_drawT (fun _ => false) mixed (by decide +kernel) ?_; simp [-cellOK, qy_cells, h0, h3]) | (refine guarded_split ?_ ?_ <;> (intro hg; simp only [hg]; simp [-cellOK, qy_cells, h0, h3])) | (apply awp_cond_t; focus (simp [-cellOK, qy_cells, h0, h3]; done)) | (apply awp_cond_f; focus (simp [-cellOK, qy_cells, h0, h3]; done)) | (refine awp_cond ?_; simp [-cellOK, qy_cells, h0, h3]; refine ⟨?_, ?_⟩ <;> intro hc) | (refine awp_drawT isCallO mixed (by decide +kernel) ?_; simp [-cellOK, qy_cells, h0, h3]) | fail)
    · by_cases h4 : q.kind = 4
      · (try (first | (with_reducible refine dops_go ?_; simp [-cellOK, qy_cells, h0, h3, h4]) | (with_reducible refine OKv_go ?_; simp [-cellOK, qy_cells, h0, h3, h4]) | (with_reducible refine OKr_go ?_; simp [-cellOK, qy_cells, h0, h3, h4]))); repeat' (first | refine awp_seq ?_ | refine awp_block ?_ | (refine awp_skip ?_; try simp) | (refine awp_exit ?_; try simp) | (refine awp_ret ?_; try simp) | (refine retP_same (by simp) ?_; simp) | (refine retP_no (by simp) (by simp [noIds]) (by repeat (first | assumption | exact Ext.refl _ | refine ext_new' ?_ | refine Ext.setF ?_ (by first | assumption | (simp [new_nx', St.set, fresh_none]; done) | exact ext_fresh (by assumption)))) ?_; simp [-cellOK, qy_cells, h0, h3, h4, new_m, set_m, new_nx']) | (refine awp_reg ?_; simp [-cellOK, qy_cells, h0, h3, h4]) | (refine awp_drawT (fun _ => false) mixed (by decide +kernel) ?_; simp [-cellOK, qy_cells, h0, h3, h4]) | (refine guarded_split ?_ ?_ <;> (intro hg; simp only [hg]; simp [-cellOK, qy_cells, h0, h3, h4])) | (apply awp_cond_t; focus (simp [-cellOK, qy_cells, h0, h3, h4]; done)) | (apply awp_cond_f; focus (simp [-cellOK, qy_cells, h0, h3, h4]; done)) | (refine awp_cond ?_; simp [-cellOK, qy_cells, h0, h3, h4]; refine ⟨?_, ?_⟩ <;> intro hc) | (refine awp_drawT isCallO mixed (by decide +kernel) ?_; simp [-cellOK, qy_cells, h0, h3, h4]) | fail)
      · (try (first | (with_reducible refine dops_go ?_; simp [-cellOK, qy_cells, h0, h3, h4]) | (with_reducible refine OKv_go ?_; simp [-cellOK, qy_cells, h0, h3, h4]) | (with_reducible refine OKr_go ?_; simp [-cellOK, qy_cells, h0, h3, h4]))); repeat' (first | refine awp_seq ?_ | refine awp_block ?_ | (refine awp_skip ?_; try simp) | (refine awp_exit ?_; try simp) | (refine awp_ret ?_; try simp) | (refine retP_same (by simp) ?_; simp) | (refine retP_no (by simp) (by simp [noIds]) (by repeat (first | assumption | exact Ext.refl _ | refine ext_new' ?_ | refine Ext.setF ?_ (by first | assumption | (simp [new_nx', St.set, fresh_none]; done) | exact ext_fresh (by assumption)))) ?_; simp [-cellOK, qy_cells, h0, h3, h4, new_m, set_m, new_nx']) | (refine awp_reg ?_; simp [-cellOK, qy_cells, h0, h3, h4]) | (refine awp_drawT (fun _ => false) mixed (by decide +kernel) ?_; simp [-cellOK, qy_cells, h0, h3, h4]) | (refine guarded_split ?_ ?_ <;> (intro hg; simp only [hg]; simp [-cellOK, qy_cells, h0, h3, h4])) | (apply awp_cond_t; focus (simp [-cellOK, qy_cells, h0, h3, h4]; done)) | (apply awp_cond_f; focus (simp [-cellOK, qy_cells, h0, h3, h4]; done)) | (refine awp_cond ?_; simp [-cellOK, qy_cells, h0, h3, h4]; refine ⟨?_, ?_⟩ <;> intro hc) | (refine awp_drawT isCallO mixed (by decide +kernel) ?_; simp [-cellOK, qy_cells, h0, h3, h4]) | fail)
def noDev (n : Nw) (d : Int) : Bool := decide (d < 0) || decide ((n.t.ports.length : Int) ≤ d)
theorem noDev_calls (n : Nw) (f : Fl) (d : Int) : PCalls Try.prog 65 [.raw (.int .i64 d), .pp (nwAV n f).cells 0] (.raw (.bool (noDev n d))) := by
  refine pbody Try.func65 rfl (N := 14) rfl rfl (by simp) (by simp [noIds]) fun σ => ?_
  have hp : ∀ m, opLen Try.prog m 22 (intsAV n.t.ports f.p) = some (.raw (.int .i64 n.t.ports.length)) := fun m => by simp [intsAV]
  unfold noDev
  by_cases h0 : d < 0
  · (try (first | (with_reducible refine dops_go ?_; simp [-cellOK, nw_cells, h0]) | (with_reducible refine OKv_go ?_; simp [-cellOK, nw_cells, h0]) | (with_reducible refine OKr_go ?_; simp [-cellOK, nw_cells, h0]))); repeat' (first | refine awp_seq ?_ | refine awp_block ?_ | (refine awp_skip ?_; try simp) | (refine awp_exit ?_; try simp) | (refine awp_ret ?_; try simp) | (refine retP_same (by simp) ?_; simp) | (refine retP_no (by simp) (by simp [noIds]) (by repeat (first | assumption | exact Ext.refl _ | refine ext_new' ?_ | refine Ext.setF ?_ (by first | assumption | (simp [new_nx', St.set, fresh_none]; done) | exact ext_fresh (by assumption)))) ?_; simp [-cellOK, nw_cells, h0, new_m, set_m, new_nx']) | (refine awp_reg ?_; simp [-cellOK, nw_cells, h0]) | (refine awp_drawT (fun _ => false) mixed (by decide +kernel) ?_; simp [-cellOK, nw_cells, h0]) | (refine guarded_split ?_ ?_ <;> (intro hg; simp only [hg]; simp [-cellOK, nw_cells, h0])) | (apply awp_cond_t; focus (simp [-cellOK, nw_cells, h0]; done)) | (apply awp_cond_f; focus (simp [-cellOK, nw_cells, h0]; done)) | (refine awp_cond ?_; simp [-cellOK, nw_cells, h0]; refine ⟨?_, ?_⟩ <;> intro hc) | (refine awp_drawT isCallO mixed (by decide +kernel) ?_; simp [-cellOK, nw_cells, h0]) | fail)
  · (try (first | (with_reducible refine dops_go ?_; simp [-cellOK, nw_cells, h0, -opLen, hp]) | (with_reducible refine OKv_go ?_; simp [-cellOK, nw_cells, h0, -opLen, hp]) | (with_reducible refine OKr_go ?_; simp [-cellOK, nw_cells, h0, -opLen, hp]))); repeat' (first | refine awp_seq ?_ | refine awp_block ?_ | (refine awp_skip ?_; try simp) | (refine awp_exit ?_; try simp) | (refine awp_ret ?_; try simp) | (refine retP_same (by simp) ?_; simp) | (refine retP_no (by simp) (by simp [noIds]) (by repeat (first | assumption | exact Ext.refl _ | refine ext_new' ?_ | refine Ext.setF ?_ (by first | assumption | (simp [new_nx', St.set, fresh_none]; done) | exact ext_fresh (by assumption)))) ?_; simp [-cellOK, nw_cells, h0, -opLen, hp, new_m, set_m, new_nx']) | (refine awp_reg ?_; simp [-cellOK, nw_cells, h0, -opLen, hp]) | (refine awp_drawT (fun _ => false) mixed (by decide +kernel) ?_; simp [-cellOK, nw_cells, h0, -opLen, hp]) | (refine guarded_split ?_ ?_ <;> (intro hg; simp only [hg]; simp [-cellOK, nw_cells, h0, -opLen, hp])) | (apply awp_cond_t; focus (simp [-cellOK, nw_cells, h0, -opLen, hp]; done)) | (apply awp_cond_f; focus (simp [-cellOK, nw_cells, h0, -opLen, hp]; done)) | (refine awp_cond ?_; simp [-cellOK, nw_cells, h0, -opLen, hp]; refine ⟨?_, ?_⟩ <;> intro hc) | (refine awp_drawT isCallO mixed (by decide +kernel) ?_; simp [-cellOK, nw_cells, h0, -opLen, hp]) | fail)
def leavesB (t : Tk) (d : Int) : Bool := decide (t.out = 3) && decide (t.last.dev = d)
theorem leaves_calls (t : Tk) (f : Bool) (d : Int) : PCalls Try.prog 74 [tkAV t f, .raw (.int .i64 d)] (.raw (.bool (leavesB t d))) := by
  refine pbody Try.func74 rfl (N := 15) rfl rfl (by simp) (by simp [noIds]) fun σ => ?_
  unfold leavesB
  by_cases h0 : t.out = 3
  · (try (first | (with_reducible refine dops_go ?_; simp [-cellOK, tk_cells, h0]) | (with_reducible refine OKv_go ?_; simp [-cellOK, tk_cells, h0]) | (with_reducible refine OKr_go ?_; simp [-cellOK, tk_cells, h0]))); repeat' (first | refine awp_seq ?_ | refine awp_block ?_ | (refine awp_skip ?_; try simp) | (refine awp_exit ?_; try simp) | (refine awp_ret ?_; try simp) | (refine retP_same (by simp) ?_; simp) | (refine retP_no (by simp) (by simp [noIds]) (by repeat (first | assumption | exact Ext.refl _ | refine ext_new' ?_ | refine Ext.setF ?_ (by first | assumption | (simp [new_nx', St.set, fresh_none]; done) | exact ext_fresh (by assumption)))) ?_; simp [-cellOK, tk_cells, h0, new_m, set_m, new_nx']) | (refine awp_reg ?_; simp [-cellOK, tk_cells, h0]) | (refine awp_drawT (fun _ => false) mixed (by decide +kernel) ?_; simp [-cellOK, tk_cells, h0]) | (refine guarded_split ?_ ?_ <;> (intro hg; simp only [hg]; simp [-cellOK, tk_cells, h0])) | (apply awp_cond_t; focus (simp [-cellOK, tk_cells, h0]; done)) | (apply awp_cond_f; focus (simp [-cellOK, tk_cells, h0]; done)) | (refine awp_cond ?_; simp [-cellOK, tk_cells, h0]; refine ⟨?_, ?_⟩ <;> intro hc) | (refine awp_drawT isCallO mixed (by decide +kernel) ?_; simp [-cellOK, tk_cells, h0]) | fail)
  · (try (first | (with_reducible refine dops_go ?_; simp [-cellOK, tk_cells, h0]) | (with_reducible refine OKv_go ?_; simp [-cellOK, tk_cells, h0]) | (with_reducible refine OKr_go ?_; simp [-cellOK, tk_cells, h0]))); repeat' (first | refine awp_seq ?_ | refine awp_block ?_ | (refine awp_skip ?_; try simp) | (refine awp_exit ?_; try simp) | (refine awp_ret ?_; try simp) | (refine retP_same (by simp) ?_; simp) | (refine retP_no (by simp) (by simp [noIds]) (by repeat (first | assumption | exact Ext.refl _ | refine ext_new' ?_ | refine Ext.setF ?_ (by first | assumption | (simp [new_nx', St.set, fresh_none]; done) | exact ext_fresh (by assumption)))) ?_; simp [-cellOK, tk_cells, h0, new_m, set_m, new_nx']) | (refine awp_reg ?_; simp [-cellOK, tk_cells, h0]) | (refine awp_drawT (fun _ => false) mixed (by decide +kernel) ?_; simp [-cellOK, tk_cells, h0]) | (refine guarded_split ?_ ?_ <;> (intro hg; simp only [hg]; simp [-cellOK, tk_cells, h0])) | (apply awp_cond_t; focus (simp [-cellOK, tk_cells, h0]; done)) | (apply awp_cond_f; focus (simp [-cellOK, tk_cells, h0]; done)) | (refine awp_cond ?_; simp [-cellOK, tk_cells, h0]; refine ⟨?_, ?_⟩ <;> intro hc) | (refine awp_drawT isCallO mixed (by decide +kernel) ?_; simp [-cellOK, tk_cells, h0]) | fail)
def comesB (t : Tk) (d : Int) : Bool := t.path.any fun x => decide (d = x)
theorem brk0_calls (q : Qy) (t u : Tk) (f g : Bool) : PCalls Try.prog 73 [qyAV q, tkAV t f, tkAV u g] (.raw (.bool (!leavesB t q.b))) := by
  have h := leaves_calls t f q.b
  refine pbody Try.func73 rfl (N := 12) rfl rfl (by simp) (by simp [noIds]) fun σ => ?_
  (try (first | (with_reducible refine dops_go ?_; simp [-cellOK, qy_cells, tk_cells, tk_fold]) | (with_reducible refine OKv_go ?_; simp [-cellOK, qy_cells, tk_cells, tk_fold]) | (with_reducible refine OKr_go ?_; simp [-cellOK, qy_cells, tk_cells, tk_fold]))); repeat' (first | refine awp_seq ?_ | refine awp_block ?_ | (refine awp_skip ?_; try simp) | (refine awp_exit ?_; try simp) | (refine awp_ret ?_; try simp) | (refine retP_same (by simp) ?_; simp) | (refine retP_no (by simp) (by simp [noIds]) (by repeat (first | assumption | exact Ext.refl _ | refine ext_new' ?_ | refine Ext.setF ?_ (by first | assumption | (simp [new_nx', St.set, fresh_none]; done) | exact ext_fresh (by assumption)))) ?_; simp [-cellOK, qy_cells, tk_cells, tk_fold, new_m, set_m, new_nx']) | (refine awp_reg ?_; simp [-cellOK, qy_cells, tk_cells, tk_fold]) | (refine awp_drawT (fun _ => false) mixed (by decide +kernel) ?_; simp [-cellOK, qy_cells, tk_cells, tk_fold]) | (refine guarded_split ?_ ?_ <;> (intro hg; simp only [hg]; simp [-cellOK, qy_cells, tk_cells, tk_fold])) | (apply awp_cond_t; focus (simp [-cellOK, qy_cells, tk_cells, tk_fold]; done)) | (apply awp_cond_f; focus (simp [-cellOK, qy_cells, tk_cells, tk_fold]; done)) | (refine awp_cond ?_; simp [-cellOK, qy_cells, tk_cells, tk_fold]; refine ⟨?_, ?_⟩ <;> intro hc) | (refine awp_drawT isCallO mixed (by decide +kernel) ?_; simp [-cellOK, qy_cells, tk_cells, tk_fold]) | (refine PCalls.use (h) ?_; simp [-cellOK, qy_cells, tk_cells, tk_fold]) | (refine Or.inl ⟨_, Or.inl (h), ?_⟩; simp [-cellOK, qy_cells, tk_cells, tk_fold]) | fail)
theorem brk1_calls (q : Qy) (t u : Tk) (f g : Bool) : PCalls Try.prog 75 [qyAV q, tkAV t f, tkAV u g] (.raw (.bool (decide (t.out = 4)))) := by
  refine pbody Try.func75 rfl (N := 10) rfl rfl (by simp) (by simp [noIds]) fun σ => ?_
  (try (first | (with_reducible refine dops_go ?_; simp [-cellOK, qy_cells, tk_cells, tk_fold]) | (with_reducible refine OKv_go ?_; simp [-cellOK, qy_cells, tk_cells, tk_fold]) | (with_reducible refine OKr_go ?_; simp [-cellOK, qy_cells, tk_cells, tk_fold]))); repeat' (first | refine awp_seq ?_ | refine awp_block ?_ | (refine awp_skip ?_; try simp) | (refine awp_exit ?_; try simp) | (refine awp_ret ?_; try simp) | (refine retP_same (by simp) ?_; simp) | (refine retP_no (by simp) (by simp [noIds]) (by repeat (first | assumption | exact Ext.refl _ | refine ext_new' ?_ | refine Ext.setF ?_ (by first | assumption | (simp [new_nx', St.set, fresh_none]; done) | exact ext_fresh (by assumption)))) ?_; simp [-cellOK, qy_cells, tk_cells, tk_fold, new_m, set_m, new_nx']) | (refine awp_reg ?_; simp [-cellOK, qy_cells, tk_cells, tk_fold]) | (refine awp_drawT (fun _ => false) mixed (by decide +kernel) ?_; simp [-cellOK, qy_cells, tk_cells, tk_fold]) | (refine guarded_split ?_ ?_ <;> (intro hg; simp only [hg]; simp [-cellOK, qy_cells, tk_cells, tk_fold])) | (apply awp_cond_t; focus (simp [-cellOK, qy_cells, tk_cells, tk_fold]; done)) | (apply awp_cond_f; focus (simp [-cellOK, qy_cells, tk_cells, tk_fold]; done)) | (refine awp_cond ?_; simp [-cellOK, qy_cells, tk_cells, tk_fold]; refine ⟨?_, ?_⟩ <;> intro hc) | (refine awp_drawT isCallO mixed (by decide +kernel) ?_; simp [-cellOK, qy_cells, tk_cells, tk_fold]) | fail)
theorem brk2_calls (q : Qy) (t u : Tk) (f g : Bool) : PCalls Try.prog 76 [qyAV q, tkAV t f, tkAV u g] (.raw (.bool (decide (t.out = 0)))) := by
  refine pbody Try.func76 rfl (N := 10) rfl rfl (by simp) (by simp [noIds]) fun σ => ?_
  (try (first | (with_reducible refine dops_go ?_; simp [-cellOK, qy_cells, tk_cells, tk_fold]) | (with_reducible refine OKv_go ?_; simp [-cellOK, qy_cells, tk_cells, tk_fold]) | (with_reducible refine OKr_go ?_; simp [-cellOK, qy_cells, tk_cells, tk_fold]))); repeat' (first | refine awp_seq ?_ | refine awp_block ?_ | (refine awp_skip ?_; try simp) | (refine awp_exit ?_; try simp) | (refine awp_ret ?_; try simp) | (refine retP_same (by simp) ?_; simp) | (refine retP_no (by simp) (by simp [noIds]) (by repeat (first | assumption | exact Ext.refl _ | refine ext_new' ?_ | refine Ext.setF ?_ (by first | assumption | (simp [new_nx', St.set, fresh_none]; done) | exact ext_fresh (by assumption)))) ?_; simp [-cellOK, qy_cells, tk_cells, tk_fold, new_m, set_m, new_nx']) | (refine awp_reg ?_; simp [-cellOK, qy_cells, tk_cells, tk_fold]) | (refine awp_drawT (fun _ => false) mixed (by decide +kernel) ?_; simp [-cellOK, qy_cells, tk_cells, tk_fold]) | (refine guarded_split ?_ ?_ <;> (intro hg; simp only [hg]; simp [-cellOK, qy_cells, tk_cells, tk_fold])) | (apply awp_cond_t; focus (simp [-cellOK, qy_cells, tk_cells, tk_fold]; done)) | (apply awp_cond_f; focus (simp [-cellOK, qy_cells, tk_cells, tk_fold]; done)) | (refine awp_cond ?_; simp [-cellOK, qy_cells, tk_cells, tk_fold]; refine ⟨?_, ?_⟩ <;> intro hc) | (refine awp_drawT isCallO mixed (by decide +kernel) ?_; simp [-cellOK, qy_cells, tk_cells, tk_fold]) | fail)
theorem brk3_calls (q : Qy) (t u : Tk) (f g : Bool) (ht : t.path.length < 2 ^ 60) : PCalls Try.prog 77 [qyAV q, tkAV t f, tkAV u g] (.raw (.bool (comesB t q.b))) := by
  have h := contains_calls t.path f q.b ht
  unfold comesB
  refine pbody Try.func77 rfl (N := 12) rfl rfl (by simp) (by simp [noIds]) fun σ => ?_
  (try (first | (with_reducible refine dops_go ?_; simp [-cellOK, qy_cells, tk_cells, tk_fold]) | (with_reducible refine OKv_go ?_; simp [-cellOK, qy_cells, tk_cells, tk_fold]) | (with_reducible refine OKr_go ?_; simp [-cellOK, qy_cells, tk_cells, tk_fold]))); repeat' (first | refine awp_seq ?_ | refine awp_block ?_ | (refine awp_skip ?_; try simp) | (refine awp_exit ?_; try simp) | (refine awp_ret ?_; try simp) | (refine retP_same (by simp) ?_; simp) | (refine retP_no (by simp) (by simp [noIds]) (by repeat (first | assumption | exact Ext.refl _ | refine ext_new' ?_ | refine Ext.setF ?_ (by first | assumption | (simp [new_nx', St.set, fresh_none]; done) | exact ext_fresh (by assumption)))) ?_; simp [-cellOK, qy_cells, tk_cells, tk_fold, new_m, set_m, new_nx']) | (refine awp_reg ?_; simp [-cellOK, qy_cells, tk_cells, tk_fold]) | (refine awp_drawT (fun _ => false) mixed (by decide +kernel) ?_; simp [-cellOK, qy_cells, tk_cells, tk_fold]) | (refine guarded_split ?_ ?_ <;> (intro hg; simp only [hg]; simp [-cellOK, qy_cells, tk_cells, tk_fold])) | (apply awp_cond_t; focus (simp [-cellOK, qy_cells, tk_cells, tk_fold]; done)) | (apply awp_cond_f; focus (simp [-cellOK, qy_cells, tk_cells, tk_fold]; done)) | (refine awp_cond ?_; simp [-cellOK, qy_cells, tk_cells, tk_fold]; refine ⟨?_, ?_⟩ <;> intro hc) | (refine awp_drawT isCallO mixed (by decide +kernel) ?_; simp [-cellOK, qy_cells, tk_cells, tk_fold]) | (refine PCalls.use (h) ?_; simp [-cellOK, qy_cells, tk_cells, tk_fold]) | (refine Or.inl ⟨_, Or.inl (h), ?_⟩; simp [-cellOK, qy_cells, tk_cells, tk_fold]) | fail)
theorem brk4_calls (q : Qy) (t u : Tk) (f g : Bool) (ht : t.path.length < 2 ^ 60) : PCalls Try.prog 78 [qyAV q, tkAV t f, tkAV u g] (.raw (.bool (leavesB t q.b && !comesB t q.w))) := by
  have h0 := leaves_calls t f q.b
  have h := contains_calls t.path f q.w ht
  unfold comesB
  generalize (t.path.any fun x => decide (q.w = x)) = c at h ⊢
  generalize leavesB t q.b = b at h0 ⊢
  refine pbody Try.func78 rfl (N := 19) rfl rfl (by simp) (by simp [noIds]) fun σ => ?_
  cases b with
  | true => (try (first | (with_reducible refine dops_go ?_; simp [-cellOK, qy_cells, tk_cells, tk_fold]) | (with_reducible refine OKv_go ?_; simp [-cellOK, qy_cells, tk_cells, tk_fold]) | (with_reducible refine OKr_go ?_; simp [-cellOK, qy_cells, tk_cells, tk_fold]))); repeat' (first | refine awp_seq ?_ | refine awp_block ?_ | (refine awp_skip ?_; try simp) | (refine awp_exit ?_; try simp) | (refine awp_ret ?_; try simp) | (refine retP_same (by simp) ?_; simp) | (refine retP_no (by simp) (by simp [noIds]) (by repeat (first | assumption | exact Ext.refl _ | refine ext_new' ?_ | refine Ext.setF ?_ (by first | assumption | (simp [new_nx', St.set, fresh_none]; done) | exact ext_fresh (by assumption)))) ?_; simp [-cellOK, qy_cells, tk_cells, tk_fold, new_m, set_m, new_nx']) | (refine awp_reg ?_; simp [-cellOK, qy_cells, tk_cells, tk_fold]) | (refine awp_drawT (fun _ => false) mixed (by decide +kernel) ?_; simp [-cellOK, qy_cells, tk_cells, tk_fold]) | (refine guarded_split ?_ ?_ <;> (intro hg; simp only [hg]; simp [-cellOK, qy_cells, tk_cells, tk_fold])) | (apply awp_cond_t; focus (simp [-cellOK, qy_cells, tk_cells, tk_fold]; done)) | (apply awp_cond_f; focus (simp [-cellOK, qy_cells, tk_cells, tk_fold]; done)) | (refine awp_cond ?_; simp [-cellOK, qy_cells, tk_cells, tk_fold]; refine ⟨?_, ?_⟩ <;> intro hc) | (refine awp_drawT isCallO mixed (by decide +kernel) ?_; simp [-cellOK, qy_cells, tk_cells, tk_fold]) | (refine PCalls.use (h0) ?_; simp [-cellOK, qy_cells, tk_cells, tk_fold]) | (refine Or.inl ⟨_, Or.inl (h0), ?_⟩; simp [-cellOK, qy_cells, tk_cells, tk_fold]) | (refine PCalls.use (h) ?_; simp [-cellOK, qy_cells, tk_cells, tk_fold]) | (refine Or.inl ⟨_, Or.inl (h), ?_⟩; simp [-cellOK, qy_cells, tk_cells, tk_fold]) | fail)
  | false => (try (first | (with_reducible refine dops_go ?_; simp [-cellOK, qy_cells, tk_cells, tk_fold]) | (with_reducible refine OKv_go ?_; simp [-cellOK, qy_cells, tk_cells, tk_fold]) | (with_reducible refine OKr_go ?_; simp [-cellOK, qy_cells, tk_cells, tk_fold]))); repeat' (first | refine awp_seq ?_ | refine awp_block ?_ | (refine awp_skip ?_; try simp) | (refine awp_exit ?_; try simp) | (refine awp_ret ?_; try simp) | (refine retP_same (by simp) ?_; simp) | (refine retP_no (by simp) (by simp [noIds]) (by repeat (first | assumption | exact Ext.refl _ | refine ext_new' ?_ | refine Ext.setF ?_ (by first | assumption | (simp [new_nx', St.set, fresh_none]; done) | exact ext_fresh (by assumption)))) ?_; simp [-cellOK, qy_cells, tk_cells, tk_fold, new_m, set_m, new_nx']) | (refine awp_reg ?_; simp [-cellOK, qy_cells, tk_cells, tk_fold]) | (refine awp_drawT (fun _ => false) mixed (by decide +kernel) ?_; simp [-cellOK, qy_cells, tk_cells, tk_fold]) | (refine guarded_split ?_ ?_ <;> (intro hg; simp only [hg]; simp [-cellOK, qy_cells, tk_cells, tk_fold])) | (apply awp_cond_t; focus (simp [-cellOK, qy_cells, tk_cells, tk_fold]; done)) | (apply awp_cond_f; focus (simp [-cellOK, qy_cells, tk_cells, tk_fold]; done)) | (refine awp_cond ?_; simp [-cellOK, qy_cells, tk_cells, tk_fold]; refine ⟨?_, ?_⟩ <;> intro hc) | (refine awp_drawT isCallO mixed (by decide +kernel) ?_; simp [-cellOK, qy_cells, tk_cells, tk_fold]) | (refine PCalls.use (h0) ?_; simp [-cellOK, qy_cells, tk_cells, tk_fold]) | (refine Or.inl ⟨_, Or.inl (h0), ?_⟩; simp [-cellOK, qy_cells, tk_cells, tk_fold]) | (refine PCalls.use (h) ?_; simp [-cellOK, qy_cells, tk_cells, tk_fold]) | (refine Or.inl ⟨_, Or.inl (h), ?_⟩; simp [-cellOK, qy_cells, tk_cells, tk_fold]) | fail)
theorem brk5_calls (q : Qy) (t u : Tk) (f g : Bool) (ht : t.path.length < 2 ^ 60) (hu : u.path.length < 2 ^ 60) : PCalls Try.prog 79 [qyAV q, tkAV t f, tkAV u g] (.raw (.bool (!decide (t = u)))) := by
  have h := tkSame_calls t u f g ht hu
  generalize decide (t = u) = b at h ⊢
  refine pbody Try.func79 rfl (N := 11) rfl rfl (by simp) (by simp [noIds]) fun σ => ?_
  (try (first | (with_reducible refine dops_go ?_; simp [-cellOK, qy_cells, tk_cells, tk_fold]) | (with_reducible refine OKv_go ?_; simp [-cellOK, qy_cells, tk_cells, tk_fold]) | (with_reducible refine OKr_go ?_; simp [-cellOK, qy_cells, tk_cells, tk_fold]))); repeat' (first | refine awp_seq ?_ | refine awp_block ?_ | (refine awp_skip ?_; try simp) | (refine awp_exit ?_; try simp) | (refine awp_ret ?_; try simp) | (refine retP_same (by simp) ?_; simp) | (refine retP_no (by simp) (by simp [noIds]) (by repeat (first | assumption | exact Ext.refl _ | refine ext_new' ?_ | refine Ext.setF ?_ (by first | assumption | (simp [new_nx', St.set, fresh_none]; done) | exact ext_fresh (by assumption)))) ?_; simp [-cellOK, qy_cells, tk_cells, tk_fold, new_m, set_m, new_nx']) | (refine awp_reg ?_; simp [-cellOK, qy_cells, tk_cells, tk_fold]) | (refine awp_drawT (fun _ => false) mixed (by decide +kernel) ?_; simp [-cellOK, qy_cells, tk_cells, tk_fold]) | (refine guarded_split ?_ ?_ <;> (intro hg; simp only [hg]; simp [-cellOK, qy_cells, tk_cells, tk_fold])) | (apply awp_cond_t; focus (simp [-cellOK, qy_cells, tk_cells, tk_fold]; done)) | (apply awp_cond_f; focus (simp [-cellOK, qy_cells, tk_cells, tk_fold]; done)) | (refine awp_cond ?_; simp [-cellOK, qy_cells, tk_cells, tk_fold]; refine ⟨?_, ?_⟩ <;> intro hc) | (refine awp_drawT isCallO mixed (by decide +kernel) ?_; simp [-cellOK, qy_cells, tk_cells, tk_fold]) | (refine PCalls.use (h) ?_; simp [-cellOK, qy_cells, tk_cells, tk_fold]) | (refine Or.inl ⟨_, Or.inl (h), ?_⟩; simp [-cellOK, qy_cells, tk_cells, tk_fold]) | fail)
def brkAV : AV := .agg [.fn (.func 73) [] [], .fn (.func 75) [] [], .fn (.func 76) [] [], .fn (.func 77) [] [], .fn (.func 78) [] [], .fn (.func 79) [] []]
theorem broken_calls : PCalls Try.prog 43 [] brkAV := by
  refine pbody Try.func43 rfl (N := 2) rfl rfl (by simp) (by simp [noIds, brkAV]) fun σ => ?_
  unfold brkAV
  have f0 : σ.m ⟨0, σ.nx 0, 6⟩ = none := fresh_none _ _ _
  (try (first | (with_reducible refine dops_go ?_; simp [-cellOK]) | (with_reducible refine OKv_go ?_; simp [-cellOK]) | (with_reducible refine OKr_go ?_; simp [-cellOK]))); repeat' (first | refine awp_seq ?_ | refine awp_block ?_ | (refine awp_skip ?_; try simp) | (refine awp_exit ?_; try simp) | (refine awp_ret ?_; try simp) | (refine retP_same (by simp) ?_; simp) | (refine retP_no (by simp) (by simp [noIds]) (by repeat (first | assumption | exact Ext.refl _ | refine ext_new' ?_ | refine Ext.setF ?_ (by first | assumption | (simp [new_nx', St.set, fresh_none]; done) | exact ext_fresh (by assumption)))) ?_; simp [-cellOK, new_m, set_m, new_nx']) | (refine awp_reg ?_; simp [-cellOK]) | (refine awp_drawT (fun _ => false) mixed (by decide +kernel) ?_; simp [-cellOK]) | (refine guarded_split ?_ ?_ <;> (intro hg; simp only [hg]; simp [-cellOK])) | (apply awp_cond_t; focus (simp [-cellOK]; done)) | (apply awp_cond_f; focus (simp [-cellOK]; done)) | (refine awp_cond ?_; simp [-cellOK]; refine ⟨?_, ?_⟩ <;> intro hc) | (refine awp_drawT isCallO mixed (by decide +kernel) ?_; simp [-cellOK]) | fail)
end Go.Proofs.Ytanimmdlgmkmkaa.Av

/- Queries: right ones, sources, what breaks one. -/
namespace Go.Proofs.Ytanimmdlgmkmkaa.Av
open Go
set_option linter.unusedSimpArgs false
set_option linter.unusedVariables false
set_option maxRecDepth 100000
set_option maxHeartbeats 4000000
set_option pp.maxSteps 600

/-- A call to which an owned object is given for good. -/
theorem PCalls.useFz {P : Program} {f : FuncId} {σ σ0 : St} {args args' : List AV} {r : AV} {K : AV → St → Prop} (j : Id) (h : PCalls P f args' r) (hj : σ0.m j = none) (hE : Ext σ0 σ) (ha : args.map (giveUp (σ.del j).m σ.m) = args')
    (k : ∀ τ, Ext σ0 τ → (∀ i o, i ≠ j → σ.m i = some o → τ.m i = some o) → (∀ s, σ.nx s ≤ τ.nx s) → K r τ) : ACalls P f args σ K := by
  refine ACalls.freeze j ?_
  rw [ha]
  refine h.use (k _ ⟨fun i o ho => ?_, hE.nx⟩ (fun i o hi ho => by rw [del_other hi]; exact ho) fun _ => Nat.le_refl _)
  rw [del_other (fun e => by rw [e, hj] at ho; cases ho)]; exact hE.m i o ho
def noOther (q : Qy) : Bool := q.other.toList == (ByteArray.toList ⟨#[]⟩)
def rightQ (n : Nw) (q : Qy) : Bool :=
  !(decide (q.kind < 0) || (decide (5 < q.kind) || decide (q.r.hi < q.r.lo))) && (!([q.a, q.b, q.w].any (noDev n)) && ((singleB q || (decide (q.a = 0) && decide (q.b = 0))) && ((decide (q.kind = 4) || decide (q.w = 0)) && (decide (q.kind = 5) || noOther q))))
theorem rightQ_calls (n : Nw) (f : Fl) (q : Qy) : PCalls Try.prog 37 [nwAV n f, qyAV q] (.raw (.bool (rightQ n q))) := by
  have hs := single_calls q
  have hc := intContains_calls (g := 65) (caps := [.pp (nwAV n f).cells 0]) (p := noDev n) [q.a, q.b, q.w] false (by simp) (fun d _ => noDev_calls n f d)
  unfold rightQ noOther
  generalize singleB q = sb at hs ⊢
  generalize [q.a, q.b, q.w].any (noDev n) = nb at hc ⊢
  obtain ⟨ob, hob⟩ : ∃ b, (q.other.toList == (ByteArray.toList ⟨#[]⟩)) = b := ⟨_, rfl⟩
  rw [hob]
  have hstr : ∀ op m, op = BinOp.eql → m = Value.string ⟨#[]⟩ → opBin Try.prog op 9 (.raw (.string q.other)) (.raw m) = some (.raw (.bool ob)) := fun op m h1 h2 => by
    subst h1; subst h2
    show Option.map AV.raw (strBin .eql q.other ⟨#[]⟩) = _
    simp only [strBin, hob, Option.map_some]
  have hstr := hstr .eql _ rfl rfl
  refine pbody Try.func37 rfl (N := 65) rfl rfl (by simp) (by simp [noIds]) fun σ => ?_
  repeat (refine awp_seq ?_)
  refine awp_reg ?_
  simp [-cellOK, nw_cells, qy_cells]
  refine awp_freeze ⟨2, σ.nx 2, 3⟩ ?_
  refine awp_freeze ⟨3, σ.nx 3, 7⟩ ?_
  generalize hτ : St.del _ _ = τ
  generalize hA : (fun t => giveUp _ _ _) = A
  have a2 : A 2 = .pp (nwAV n f).cells 0 := by rw [← hA, ← hτ]; simp [giveUp, St.new, St.del, nw_cells]
  have a3 : A 3 = .pp (qyAV q).cells 0 := by rw [← hA, ← hτ]; simp [giveUp, St.new, St.del, nw_cells, qy_cells]
  have hE : Ext σ τ := by
    rw [← hτ]
    refine ⟨fun i o h => ?_, fun s => ?_⟩
    · have q1 : i ≠ ⟨2, σ.nx 2, 3⟩ := fun e => by rw [e, fresh_none] at h; cases h
      have q2 : i ≠ ⟨3, σ.nx 3, 7⟩ := fun e => by rw [e, fresh_none] at h; cases h
      simp [St.del, St.new, q1, q2, h]
    · simp only [St.del, St.new]
      repeat' split
      all_goals omega
  clear hτ hA
  by_cases k0 : q.kind < 0
  · (try (first | (with_reducible refine dops_go ?_; simp [-cellOK, a2, a3, nw_cells, qy_cells, k0]) | (with_reducible refine OKv_go ?_; simp [-cellOK, a2, a3, nw_cells, qy_cells, k0]) | (with_reducible refine OKr_go ?_; simp [-cellOK, a2, a3, nw_cells, qy_cells, k0]))); repeat' (first | refine awp_seq ?_ | refine awp_block ?_ | (refine awp_skip ?_; try simp) | (refine awp_exit ?_; try simp) | (refine awp_ret ?_; try simp) | (refine retP_same (by simp) ?_; simp) | (refine retP_no (by simp) (by simp [noIds]) (by repeat (first | assumption | exact Ext.refl _ | refine ext_new' ?_ | refine Ext.setF ?_ (by first | assumption | (simp [new_nx', St.set, fresh_none]; done) | exact ext_fresh (by assumption)))) ?_; simp [-cellOK, a2, a3, nw_cells, qy_cells, k0, new_m, set_m, new_nx']) | (refine awp_reg ?_; simp [-cellOK, a2, a3, nw_cells, qy_cells, k0]) | (refine awp_drawT (fun _ => false) mixed (by decide +kernel) ?_; simp [-cellOK, a2, a3, nw_cells, qy_cells, k0]) | (refine guarded_split ?_ ?_ <;> (intro hg; simp only [hg]; simp [-cellOK, a2, a3, nw_cells, qy_cells, k0])) | (apply awp_cond_t; focus (simp [-cellOK, a2, a3, nw_cells, qy_cells, k0]; done)) | (apply awp_cond_f; focus (simp [-cellOK, a2, a3, nw_cells, qy_cells, k0]; done)) | (refine awp_cond ?_; simp [-cellOK, a2, a3, nw_cells, qy_cells, k0]; refine ⟨?_, ?_⟩ <;> intro hc) | (refine awp_drawT isCallO mixed (by decide +kernel) ?_; simp [-cellOK, a2, a3, nw_cells, qy_cells, k0]) | fail)
  by_cases k1 : 5 < q.kind
  · (try (first | (with_reducible refine dops_go ?_; simp [-cellOK, a2, a3, nw_cells, qy_cells, k0, k1]) | (with_reducible refine OKv_go ?_; simp [-cellOK, a2, a3, nw_cells, qy_cells, k0, k1]) | (with_reducible refine OKr_go ?_; simp [-cellOK, a2, a3, nw_cells, qy_cells, k0, k1]))); repeat' (first | refine awp_seq ?_ | refine awp_block ?_ | (refine awp_skip ?_; try simp) | (refine awp_exit ?_; try simp) | (refine awp_ret ?_; try simp) | (refine retP_same (by simp) ?_; simp) | (refine retP_no (by simp) (by simp [noIds]) (by repeat (first | assumption | exact Ext.refl _ | refine ext_new' ?_ | refine Ext.setF ?_ (by first | assumption | (simp [new_nx', St.set, fresh_none]; done) | exact ext_fresh (by assumption)))) ?_; simp [-cellOK, a2, a3, nw_cells, qy_cells, k0, k1, new_m, set_m, new_nx']) | (refine awp_reg ?_; simp [-cellOK, a2, a3, nw_cells, qy_cells, k0, k1]) | (refine awp_drawT (fun _ => false) mixed (by decide +kernel) ?_; simp [-cellOK, a2, a3, nw_cells, qy_cells, k0, k1]) | (refine guarded_split ?_ ?_ <;> (intro hg; simp only [hg]; simp [-cellOK, a2, a3, nw_cells, qy_cells, k0, k1])) | (apply awp_cond_t; focus (simp [-cellOK, a2, a3, nw_cells, qy_cells, k0, k1]; done)) | (apply awp_cond_f; focus (simp [-cellOK, a2, a3, nw_cells, qy_cells, k0, k1]; done)) | (refine awp_cond ?_; simp [-cellOK, a2, a3, nw_cells, qy_cells, k0, k1]; refine ⟨?_, ?_⟩ <;> intro hc) | (refine awp_drawT isCallO mixed (by decide +kernel) ?_; simp [-cellOK, a2, a3, nw_cells, qy_cells, k0, k1]) | fail)
  by_cases k2 : q.r.hi < q.r.lo
  · (try (first | (with_reducible refine dops_go ?_; simp [-cellOK, a2, a3, nw_cells, qy_cells, k0, k1, k2]) | (with_reducible refine OKv_go ?_; simp [-cellOK, a2, a3, nw_cells, qy_cells, k0, k1, k2]) | (with_reducible refine OKr_go ?_; simp [-cellOK, a2, a3, nw_cells, qy_cells, k0, k1, k2]))); repeat' (first | refine awp_seq ?_ | refine awp_block ?_ | (refine awp_skip ?_; try simp) | (refine awp_exit ?_; try simp) | (refine awp_ret ?_; try simp) | (refine retP_same (by simp) ?_; simp) | (refine retP_no (by simp) (by simp [noIds]) (by repeat (first | assumption | exact Ext.refl _ | refine ext_new' ?_ | refine Ext.setF ?_ (by first | assumption | (simp [new_nx', St.set, fresh_none]; done) | exact ext_fresh (by assumption)))) ?_; simp [-cellOK, a2, a3, nw_cells, qy_cells, k0, k1, k2, new_m, set_m, new_nx']) | (refine awp_reg ?_; simp [-cellOK, a2, a3, nw_cells, qy_cells, k0, k1, k2]) | (refine awp_drawT (fun _ => false) mixed (by decide +kernel) ?_; simp [-cellOK, a2, a3, nw_cells, qy_cells, k0, k1, k2]) | (refine guarded_split ?_ ?_ <;> (intro hg; simp only [hg]; simp [-cellOK, a2, a3, nw_cells, qy_cells, k0, k1, k2])) | (apply awp_cond_t; focus (simp [-cellOK, a2, a3, nw_cells, qy_cells, k0, k1, k2]; done)) | (apply awp_cond_f; focus (simp [-cellOK, a2, a3, nw_cells, qy_cells, k0, k1, k2]; done)) | (refine awp_cond ?_; simp [-cellOK, a2, a3, nw_cells, qy_cells, k0, k1, k2]; refine ⟨?_, ?_⟩ <;> intro hc) | (refine awp_drawT isCallO mixed (by decide +kernel) ?_; simp [-cellOK, a2, a3, nw_cells, qy_cells, k0, k1, k2]) | fail)
  (try (first | (with_reducible refine dops_go ?_; simp [-cellOK, a2, a3, nw_cells, qy_cells, k0, k1, k2]) | (with_reducible refine OKv_go ?_; simp [-cellOK, a2, a3, nw_cells, qy_cells, k0, k1, k2]) | (with_reducible refine OKr_go ?_; simp [-cellOK, a2, a3, nw_cells, qy_cells, k0, k1, k2]))); repeat' (first | refine awp_seq ?_ | refine awp_block ?_ | (refine awp_skip ?_; try simp) | (refine awp_exit ?_; try simp) | (refine awp_ret ?_; try simp) | (refine retP_same (by simp) ?_; simp) | (refine retP_no (by simp) (by simp [noIds]) (by repeat (first | assumption | exact Ext.refl _ | refine ext_new' ?_ | refine Ext.setF ?_ (by first | assumption | (simp [new_nx', St.set, fresh_none]; done) | exact ext_fresh (by assumption)))) ?_; simp [-cellOK, a2, a3, nw_cells, qy_cells, k0, k1, k2, new_m, set_m, new_nx']) | (refine awp_reg ?_; simp [-cellOK, a2, a3, nw_cells, qy_cells, k0, k1, k2]) | (refine awp_drawT (fun _ => false) mixed (by decide +kernel) ?_; simp [-cellOK, a2, a3, nw_cells, qy_cells, k0, k1, k2]) | (refine guarded_split ?_ ?_ <;> (intro hg; simp only [hg]; simp [-cellOK, a2, a3, nw_cells, qy_cells, k0, k1, k2])) | (apply awp_cond_t; focus (simp [-cellOK, a2, a3, nw_cells, qy_cells, k0, k1, k2]; done)) | (apply awp_cond_f; focus (simp [-cellOK, a2, a3, nw_cells, qy_cells, k0, k1, k2]; done)) | (refine awp_cond ?_; simp [-cellOK, a2, a3, nw_cells, qy_cells, k0, k1, k2]; refine ⟨?_, ?_⟩ <;> intro hc) | (refine awp_drawT isCallO mixed (by decide +kernel) ?_; simp [-cellOK, a2, a3, nw_cells, qy_cells, k0, k1, k2]) | fail)
  refine hc.useFz (σ0 := σ) ⟨29, τ.nx 29, 1⟩ (ext_fresh hE) (by repeat (first | assumption | exact Ext.refl _ | refine ext_new' ?_ | refine Ext.setF ?_ (by first | assumption | (simp [new_nx', St.set, fresh_none]; done) | exact ext_fresh (by assumption)))) (by simp [giveUp, new_m, nw_cells, intsAV, iAV]) ?_
  intro τ' hE' _ _
  cases nb with
  | true => (try (first | (with_reducible refine dops_go ?_; simp [-cellOK, a2, a3, nw_cells, qy_cells, k0, k1, k2]) | (with_reducible refine OKv_go ?_; simp [-cellOK, a2, a3, nw_cells, qy_cells, k0, k1, k2]) | (with_reducible refine OKr_go ?_; simp [-cellOK, a2, a3, nw_cells, qy_cells, k0, k1, k2]))); repeat' (first | refine awp_seq ?_ | refine awp_block ?_ | (refine awp_skip ?_; try simp) | (refine awp_exit ?_; try simp) | (refine awp_ret ?_; try simp) | (refine retP_same (by simp) ?_; simp) | (refine retP_no (by simp) (by simp [noIds]) (by repeat (first | assumption | exact Ext.refl _ | refine ext_new' ?_ | refine Ext.setF ?_ (by first | assumption | (simp [new_nx', St.set, fresh_none]; done) | exact ext_fresh (by assumption)))) ?_; simp [-cellOK, a2, a3, nw_cells, qy_cells, k0, k1, k2, new_m, set_m, new_nx']) | (refine awp_reg ?_; simp [-cellOK, a2, a3, nw_cells, qy_cells, k0, k1, k2]) | (refine awp_drawT (fun _ => false) mixed (by decide +kernel) ?_; simp [-cellOK, a2, a3, nw_cells, qy_cells, k0, k1, k2]) | (refine guarded_split ?_ ?_ <;> (intro hg; simp only [hg]; simp [-cellOK, a2, a3, nw_cells, qy_cells, k0, k1, k2])) | (apply awp_cond_t; focus (simp [-cellOK, a2, a3, nw_cells, qy_cells, k0, k1, k2]; done)) | (apply awp_cond_f; focus (simp [-cellOK, a2, a3, nw_cells, qy_cells, k0, k1, k2]; done)) | (refine awp_cond ?_; simp [-cellOK, a2, a3, nw_cells, qy_cells, k0, k1, k2]; refine ⟨?_, ?_⟩ <;> intro hc) | (refine awp_drawT isCallO mixed (by decide +kernel) ?_; simp [-cellOK, a2, a3, nw_cells, qy_cells, k0, k1, k2]) | fail)
  | false =>
    (try (first | (with_reducible refine dops_go ?_; simp [-cellOK, a2, a3, nw_cells, qy_cells, qy_fold, k0, k1, k2]) | (with_reducible refine OKv_go ?_; simp [-cellOK, a2, a3, nw_cells, qy_cells, qy_fold, k0, k1, k2]) | (with_reducible refine OKr_go ?_; simp [-cellOK, a2, a3, nw_cells, qy_cells, qy_fold, k0, k1, k2]))); repeat' (first | refine awp_seq ?_ | refine awp_block ?_ | (refine awp_skip ?_; try simp) | (refine awp_exit ?_; try simp) | (refine awp_ret ?_; try simp) | (refine retP_same (by simp) ?_; simp) | (refine retP_no (by simp) (by simp [noIds]) (by repeat (first | assumption | exact Ext.refl _ | refine ext_new' ?_ | refine Ext.setF ?_ (by first | assumption | (simp [new_nx', St.set, fresh_none]; done) | exact ext_fresh (by assumption)))) ?_; simp [-cellOK, a2, a3, nw_cells, qy_cells, qy_fold, k0, k1, k2, new_m, set_m, new_nx']) | (refine awp_reg ?_; simp [-cellOK, a2, a3, nw_cells, qy_cells, qy_fold, k0, k1, k2]) | (refine awp_drawT (fun _ => false) mixed (by decide +kernel) ?_; simp [-cellOK, a2, a3, nw_cells, qy_cells, qy_fold, k0, k1, k2]) | (refine guarded_split ?_ ?_ <;> (intro hg; simp only [hg]; simp [-cellOK, a2, a3, nw_cells, qy_cells, qy_fold, k0, k1, k2])) | (apply awp_cond_t; focus (simp [-cellOK, a2, a3, nw_cells, qy_cells, qy_fold, k0, k1, k2]; done)) | (apply awp_cond_f; focus (simp [-cellOK, a2, a3, nw_cells, qy_cells, qy_fold, k0, k1, k2]; done)) | (refine awp_cond ?_; simp [-cellOK, a2, a3, nw_cells, qy_cells, qy_fold, k0, k1, k2]; refine ⟨?_, ?_⟩ <;> intro hc) | (refine awp_drawT isCallO mixed (by decide +kernel) ?_; simp [-cellOK, a2, a3, nw_cells, qy_cells, qy_fold, k0, k1, k2]) | fail)
    refine hs.use ?_
    cases sb <;> by_cases qa : q.a = 0 <;> by_cases qb : q.b = 0 <;> by_cases k4 : q.kind = 4 <;> by_cases qw : q.w = 0 <;> by_cases k5 : q.kind = 5 <;> (first | (exfalso; omega) | ((try (first | (with_reducible refine dops_go ?_; simp [-cellOK, a2, a3, nw_cells, qy_cells, k0, k1, k2, qa, qb, qw, k4, k5, -opBin, opBin_raw, hstr]) | (with_reducible refine OKv_go ?_; simp [-cellOK, a2, a3, nw_cells, qy_cells, k0, k1, k2, qa, qb, qw, k4, k5, -opBin, opBin_raw, hstr]) | (with_reducible refine OKr_go ?_; simp [-cellOK, a2, a3, nw_cells, qy_cells, k0, k1, k2, qa, qb, qw, k4, k5, -opBin, opBin_raw, hstr]))); repeat' (first | refine awp_seq ?_ | refine awp_block ?_ | (refine awp_skip ?_; try simp) | (refine awp_exit ?_; try simp) | (refine awp_ret ?_; try simp) | (refine retP_same (by simp) ?_; simp) | (refine retP_no (by simp) (by simp [noIds]) (by repeat (first | assumption | exact Ext.refl _ | refine ext_new' ?_ | refine Ext.setF ?_ (by first | assumption | (simp [new_nx', St.set, fresh_none]; done) | exact ext_fresh (by assumption)))) ?_; simp [-cellOK, a2, a3, nw_cells, qy_cells, k0, k1, k2, qa, qb, qw, k4, k5, -opBin, opBin_raw, hstr, new_m, set_m, new_nx']) | (refine awp_reg ?_; simp [-cellOK, a2, a3, nw_cells, qy_cells, k0, k1, k2, qa, qb, qw, k4, k5, -opBin, opBin_raw, hstr]) | (refine awp_drawT (fun _ => false) mixed (by decide +kernel) ?_; simp [-cellOK, a2, a3, nw_cells, qy_cells, k0, k1, k2, qa, qb, qw, k4, k5, -opBin, opBin_raw, hstr]) | (refine guarded_split ?_ ?_ <;> (intro hg; simp only [hg]; simp [-cellOK, a2, a3, nw_cells, qy_cells, k0, k1, k2, qa, qb, qw, k4, k5, -opBin, opBin_raw, hstr])) | (apply awp_cond_t; focus (simp [-cellOK, a2, a3, nw_cells, qy_cells, k0, k1, k2, qa, qb, qw, k4, k5, -opBin, opBin_raw, hstr]; done)) | (apply awp_cond_f; focus (simp [-cellOK, a2, a3, nw_cells, qy_cells, k0, k1, k2, qa, qb, qw, k4, k5, -opBin, opBin_raw, hstr]; done)) | (refine awp_cond ?_; simp [-cellOK, a2, a3, nw_cells, qy_cells, k0, k1, k2, qa, qb, qw, k4, k5, -opBin, opBin_raw, hstr]; refine ⟨?_, ?_⟩ <;> intro hc) | (refine awp_drawT isCallO mixed (by decide +kernel) ?_; simp [-cellOK, a2, a3, nw_cells, qy_cells, k0, k1, k2, qa, qb, qw, k4, k5, -opBin, opBin_raw, hstr]) | fail)))
def sourcesQ (n : Nw) (q : Qy) : List Int := if singleB q = true then [q.a] else (List.range n.t.ports.length).map fun i : Nat => (i : Int)
theorem sources_calls (n : Nw) (f : Fl) (q : Qy) (hl : n.t.ports.length < 2 ^ 40) : PCalls Try.prog 18 [nwAV n f, qyAV q] (intsAV (sourcesQ n q) false) := by
  have hs := single_calls q
  unfold sourcesQ
  generalize singleB q = sb at hs ⊢
  refine pbody Try.func18 rfl (N := 25) rfl rfl (by simp) (by simp [noIds]) fun σ => ?_
  have hp : ∀ m, opLen Try.prog m 22 (intsAV n.t.ports f.p) = some (.raw (.int .i64 n.t.ports.length)) := fun m => by simp [intsAV]
  cases sb with
  | true =>
    (try (first | (with_reducible refine dops_go ?_; simp [-cellOK, nw_cells, qy_cells, qy_fold, new_m, new_nx']) | (with_reducible refine OKv_go ?_; simp [-cellOK, nw_cells, qy_cells, qy_fold, new_m, new_nx']) | (with_reducible refine OKr_go ?_; simp [-cellOK, nw_cells, qy_cells, qy_fold, new_m, new_nx']))); repeat' (first | refine awp_seq ?_ | refine awp_block ?_ | (refine awp_skip ?_; try simp) | (refine awp_exit ?_; try simp) | (refine awp_ret ?_; try simp) | (refine awp_reg ?_; simp [-cellOK, nw_cells, qy_cells, qy_fold, new_m, new_nx']) | (refine awp_drawT (fun _ => false) mixed (by decide +kernel) ?_; simp [-cellOK, nw_cells, qy_cells, qy_fold, new_m, new_nx']) | (refine guarded_split ?_ ?_ <;> (intro hg; simp only [hg]; simp [-cellOK, nw_cells, qy_cells, qy_fold, new_m, new_nx'])) | (apply awp_cond_t; focus (simp [-cellOK, nw_cells, qy_cells, qy_fold, new_m, new_nx']; done)) | (apply awp_cond_f; focus (simp [-cellOK, nw_cells, qy_cells, qy_fold, new_m, new_nx']; done)) | (refine awp_cond ?_; simp [-cellOK, nw_cells, qy_cells, qy_fold, new_m, new_nx']; refine ⟨?_, ?_⟩ <;> intro hc) | (refine awp_drawT isCallO mixed (by decide +kernel) ?_; simp [-cellOK, nw_cells, qy_cells, qy_fold, new_m, new_nx']) | (refine PCalls.use (hs) ?_; simp [-cellOK, nw_cells, qy_cells, qy_fold, new_m, new_nx']) | (refine Or.inl ⟨_, Or.inl (hs), ?_⟩; simp [-cellOK, nw_cells, qy_cells, qy_fold, new_m, new_nx']) | fail)
    refine retP_give (x := .rs ⟨11, σ.nx 11, 1⟩ 0 1) (.inr rfl) (by repeat (first | assumption | exact Ext.refl _ | refine ext_new' ?_ | refine Ext.setF ?_ (by first | assumption | (simp [new_nx', St.set, fresh_none]; done) | exact ext_fresh (by assumption)))) ?_ ?_
    · simp [new_nx']
    · simp [giveUps, giveUp, fresh_none, new_m, new_nx', intsAV, iAV]
  | false =>
    (try (first | (with_reducible refine dops_go ?_; simp [-cellOK, nw_cells, qy_cells, qy_fold, new_m, new_nx', -opLen, hp]) | (with_reducible refine OKv_go ?_; simp [-cellOK, nw_cells, qy_cells, qy_fold, new_m, new_nx', -opLen, hp]) | (with_reducible refine OKr_go ?_; simp [-cellOK, nw_cells, qy_cells, qy_fold, new_m, new_nx', -opLen, hp]))); repeat' (first | refine awp_seq ?_ | refine awp_block ?_ | (refine awp_skip ?_; try simp) | (refine awp_exit ?_; try simp) | (refine awp_ret ?_; try simp) | (refine retP_same (by simp) ?_; simp) | (refine retP_no (by simp) (by simp [noIds]) (by repeat (first | assumption | exact Ext.refl _ | refine ext_new' ?_ | refine Ext.setF ?_ (by first | assumption | (simp [new_nx', St.set, fresh_none]; done) | exact ext_fresh (by assumption)))) ?_; simp [-cellOK, nw_cells, qy_cells, qy_fold, new_m, new_nx', -opLen, hp, new_m, set_m, new_nx']) | (refine awp_reg ?_; simp [-cellOK, nw_cells, qy_cells, qy_fold, new_m, new_nx', -opLen, hp]) | (refine awp_drawT (fun _ => false) mixed (by decide +kernel) ?_; simp [-cellOK, nw_cells, qy_cells, qy_fold, new_m, new_nx', -opLen, hp]) | (refine guarded_split ?_ ?_ <;> (intro hg; simp only [hg]; simp [-cellOK, nw_cells, qy_cells, qy_fold, new_m, new_nx', -opLen, hp])) | (apply awp_cond_t; focus (simp [-cellOK, nw_cells, qy_cells, qy_fold, new_m, new_nx', -opLen, hp]; done)) | (apply awp_cond_f; focus (simp [-cellOK, nw_cells, qy_cells, qy_fold, new_m, new_nx', -opLen, hp]; done)) | (refine awp_cond ?_; simp [-cellOK, nw_cells, qy_cells, qy_fold, new_m, new_nx', -opLen, hp]; refine ⟨?_, ?_⟩ <;> intro hc) | (refine awp_drawT isCallO mixed (by decide +kernel) ?_; simp [-cellOK, nw_cells, qy_cells, qy_fold, new_m, new_nx', -opLen, hp]) | (refine PCalls.use (hs) ?_; simp [-cellOK, nw_cells, qy_cells, qy_fold, new_m, new_nx', -opLen, hp]) | (refine Or.inl ⟨_, Or.inl (hs), ?_⟩; simp [-cellOK, nw_cells, qy_cells, qy_fold, new_m, new_nx', -opLen, hp]) | fail)
    refine awp_loopH (fun n' B ρ => Ext σ ρ ∧ B 15 = .raw (.int .i64 n.t.ports.length) ∧ ∃ (i : Nat) (v : AV), B 16 = .raw (.int .i64 i) ∧ i ≤ n.t.ports.length ∧ n' = n.t.ports.length - i ∧ B 5 = v ∧ OwnL σ ρ 1 v (((List.range i).map fun i : Nat => (i : Int)).map iAV)) n.t.ports.length ?_ ?_
    · exact ⟨(by repeat (first | assumption | exact Ext.refl _ | refine ext_new' ?_ | refine Ext.setF ?_ (by first | assumption | (simp [new_nx', St.set, fresh_none]; done) | exact ext_fresh (by assumption)))), by simp, 0, .sl 0 [] true, by simp, by omega, by omega, by simp, .inl ⟨by simp, rfl⟩⟩
    rintro n' B ρ ⟨hE, a15, i, v, a16, hi, rfl, a5, hO⟩ I1 hI1
    by_cases hlt : i < n.t.ports.length
    · have w1 : IntKind.i64.wrap ((i : Int) + 1) = ((i + 1 : Nat) : Int) := by rw [wrap64 (by omega) (by omega)]; omega
      (try (first | (with_reducible refine dops_go ?_; simp [-cellOK, a5, a15, a16, hlt, w1, -opAppend]) | (with_reducible refine OKv_go ?_; simp [-cellOK, a5, a15, a16, hlt, w1, -opAppend]) | (with_reducible refine OKr_go ?_; simp [-cellOK, a5, a15, a16, hlt, w1, -opAppend]))); repeat' (first | refine awp_seq ?_ | refine awp_block ?_ | (refine awp_skip ?_; try simp) | (refine awp_exit ?_; try simp) | (refine awp_ret ?_; try simp) | (refine retP_same (by simp) ?_; simp) | (refine retP_no (by simp) (by simp [noIds]) (by repeat (first | assumption | exact Ext.refl _ | refine ext_new' ?_ | refine Ext.setF ?_ (by first | assumption | (simp [new_nx', St.set, fresh_none]; done) | exact ext_fresh (by assumption)))) ?_; simp [-cellOK, a5, a15, a16, hlt, w1, -opAppend, new_m, set_m, new_nx']) | (refine awp_reg ?_; simp [-cellOK, a5, a15, a16, hlt, w1, -opAppend]) | (refine awp_drawT (fun _ => false) mixed (by decide +kernel) ?_; simp [-cellOK, a5, a15, a16, hlt, w1, -opAppend]) | (refine guarded_split ?_ ?_ <;> (intro hg; simp only [hg]; simp [-cellOK, a5, a15, a16, hlt, w1, -opAppend])) | (apply awp_cond_t; focus (simp [-cellOK, a5, a15, a16, hlt, w1, -opAppend]; done)) | (apply awp_cond_f; focus (simp [-cellOK, a5, a15, a16, hlt, w1, -opAppend]; done)) | (refine awp_cond ?_; simp [-cellOK, a5, a15, a16, hlt, w1, -opAppend]; refine ⟨?_, ?_⟩ <;> intro hc) | (refine awp_drawT isCallO mixed (by decide +kernel) ?_; simp [-cellOK, a5, a15, a16, hlt, w1, -opAppend]) | fail)
      refine okr_append slt22 (σ0 := σ) (hO.ext (by repeat (first | assumption | exact Ext.refl _ | refine ext_new' ?_ | refine Ext.setF ?_ (by first | assumption | (simp [new_nx', St.set, fresh_none]; done) | exact ext_fresh (by assumption))))) (by repeat (first | assumption | exact Ext.refl _ | refine ext_new' ?_ | refine Ext.setF ?_ (by first | assumption | (simp [new_nx', St.set, fresh_none]; done) | exact ext_fresh (by assumption)))) (ys := [iAV i]) (by simp [new_m, new_nx', iAV]) (.inr rfl) (by simp [iAV]) (by simp; omega) ?_
      intro v' τ' hO' hE' _ _
      (try (first | (with_reducible refine dops_go ?_; simp [-cellOK, a5, a15, a16, w1]) | (with_reducible refine OKv_go ?_; simp [-cellOK, a5, a15, a16, w1]) | (with_reducible refine OKr_go ?_; simp [-cellOK, a5, a15, a16, w1]))); repeat' (first | refine awp_seq ?_ | refine awp_block ?_ | (refine awp_skip ?_; try simp) | (refine awp_exit ?_; try simp) | (refine awp_ret ?_; try simp) | (refine retP_same (by simp) ?_; simp) | (refine retP_no (by simp) (by simp [noIds]) (by repeat (first | assumption | exact Ext.refl _ | refine ext_new' ?_ | refine Ext.setF ?_ (by first | assumption | (simp [new_nx', St.set, fresh_none]; done) | exact ext_fresh (by assumption)))) ?_; simp [-cellOK, a5, a15, a16, w1, new_m, set_m, new_nx']) | (refine awp_reg ?_; simp [-cellOK, a5, a15, a16, w1]) | (refine awp_drawT (fun _ => false) mixed (by decide +kernel) ?_; simp [-cellOK, a5, a15, a16, w1]) | (refine guarded_split ?_ ?_ <;> (intro hg; simp only [hg]; simp [-cellOK, a5, a15, a16, w1])) | (apply awp_cond_t; focus (simp [-cellOK, a5, a15, a16, w1]; done)) | (apply awp_cond_f; focus (simp [-cellOK, a5, a15, a16, w1]; done)) | (refine awp_cond ?_; simp [-cellOK, a5, a15, a16, w1]; refine ⟨?_, ?_⟩ <;> intro hc) | (refine awp_drawT isCallO mixed (by decide +kernel) ?_; simp [-cellOK, a5, a15, a16, w1]) | fail)
      refine hI1 (n.t.ports.length - (i + 1)) _ _ (by omega) ⟨hE', by simp [a15], i + 1, v', by simp, by omega, rfl, by simp, ?_⟩
      rw [List.range_succ, List.map_append, List.map_append]
      exact hO'
    · have : i = n.t.ports.length := by omega
      subst this
      (try (first | (with_reducible refine dops_go ?_; simp [-cellOK, a5, a15, a16]) | (with_reducible refine OKv_go ?_; simp [-cellOK, a5, a15, a16]) | (with_reducible refine OKr_go ?_; simp [-cellOK, a5, a15, a16]))); repeat' (first | refine awp_seq ?_ | refine awp_block ?_ | (refine awp_skip ?_; try simp) | (refine awp_exit ?_; try simp) | (refine awp_ret ?_; try simp) | (refine awp_reg ?_; simp [-cellOK, a5, a15, a16]) | (refine awp_drawT (fun _ => false) mixed (by decide +kernel) ?_; simp [-cellOK, a5, a15, a16]) | (refine guarded_split ?_ ?_ <;> (intro hg; simp only [hg]; simp [-cellOK, a5, a15, a16])) | (apply awp_cond_t; focus (simp [-cellOK, a5, a15, a16]; done)) | (apply awp_cond_f; focus (simp [-cellOK, a5, a15, a16]; done)) | (refine awp_cond ?_; simp [-cellOK, a5, a15, a16]; refine ⟨?_, ?_⟩ <;> intro hc) | (refine awp_drawT isCallO mixed (by decide +kernel) ?_; simp [-cellOK, a5, a15, a16]) | fail)
      exact retP_own (v := v) (.inr rfl) (by simp) hO hE
def breaksQ (q : Qy) (t u : Tk) : Bool :=
  if q.kind = 0 then !leavesB t q.b else if q.kind = 1 then decide (t.out = 4) else if q.kind = 2 then decide (t.out = 0) else if q.kind = 3 then comesB t q.b else if q.kind = 4 then leavesB t q.b && !comesB t q.w else if q.kind = 5 then !decide (t = u) else false
theorem breaks_calls (n m : Nw) (f g : Fl) (q : Qy) (t u : Tk) (ft fu : Bool) (ht : t.path.length < 2 ^ 60) (hu : u.path.length < 2 ^ 60) :
    PCalls Try.prog 17 [nwAV n f, nwAV m g, qyAV q, tkAV t ft, tkAV u fu] (.raw (.bool (breaksQ q t u))) := by
  have h0 := brk0_calls q t u ft fu
  have h1 := brk1_calls q t u ft fu
  have h2 := brk2_calls q t u ft fu
  have h3 := brk3_calls q t u ft fu ht
  have h4 := brk4_calls q t u ft fu ht
  have h5 := brk5_calls q t u ft fu ht hu
  have hb := broken_calls
  unfold brkAV at hb
  unfold breaksQ
  refine pbody Try.func17 rfl (N := 29) rfl rfl (by simp) (by simp [noIds]) fun σ => ?_
  by_cases k0 : q.kind < 0
  · rw [if_neg (by omega), if_neg (by omega), if_neg (by omega), if_neg (by omega), if_neg (by omega), if_neg (by omega)]
    have k0' : ¬ 0 ≤ q.kind := by omega
    (try (first | (with_reducible refine dops_go ?_; simp [-cellOK, nw_cells, qy_cells, tk_cells, k0']) | (with_reducible refine OKv_go ?_; simp [-cellOK, nw_cells, qy_cells, tk_cells, k0']) | (with_reducible refine OKr_go ?_; simp [-cellOK, nw_cells, qy_cells, tk_cells, k0']))); repeat' (first | refine awp_seq ?_ | refine awp_block ?_ | (refine awp_skip ?_; try simp) | (refine awp_exit ?_; try simp) | (refine awp_ret ?_; try simp) | (refine retP_same (by simp) ?_; simp) | (refine retP_no (by simp) (by simp [noIds]) (by repeat (first | assumption | exact Ext.refl _ | refine ext_new' ?_ | refine Ext.setF ?_ (by first | assumption | (simp [new_nx', St.set, fresh_none]; done) | exact ext_fresh (by assumption)))) ?_; simp [-cellOK, nw_cells, qy_cells, tk_cells, k0', new_m, set_m, new_nx']) | (refine awp_reg ?_; simp [-cellOK, nw_cells, qy_cells, tk_cells, k0']) | (refine awp_drawT (fun _ => false) mixed (by decide +kernel) ?_; simp [-cellOK, nw_cells, qy_cells, tk_cells, k0']) | (refine guarded_split ?_ ?_ <;> (intro hg; simp only [hg]; simp [-cellOK, nw_cells, qy_cells, tk_cells, k0'])) | (apply awp_cond_t; focus (simp [-cellOK, nw_cells, qy_cells, tk_cells, k0']; done)) | (apply awp_cond_f; focus (simp [-cellOK, nw_cells, qy_cells, tk_cells, k0']; done)) | (refine awp_cond ?_; simp [-cellOK, nw_cells, qy_cells, tk_cells, k0']; refine ⟨?_, ?_⟩ <;> intro hc) | (refine awp_drawT isCallO mixed (by decide +kernel) ?_; simp [-cellOK, nw_cells, qy_cells, tk_cells, k0']) | fail)
  have k0' : 0 ≤ q.kind := by omega
  by_cases k6 : q.kind < 6
  · have : q.kind = 0 ∨ q.kind = 1 ∨ q.kind = 2 ∨ q.kind = 3 ∨ q.kind = 4 ∨ q.kind = 5 := by omega
    rcases this with k | k | k | k | k | k
    · have hf : AV.agg [.raw (.int .i64 0), .raw (.int .i64 q.a), .raw (.int .i64 q.b), .raw (.int .i64 q.w), .raw (.int .u32 q.r.lo), .raw (.int .u32 q.r.hi), .raw (.string q.other)] = qyAV q := by rw [← k]; rfl
      rw [if_pos k]
      (try (first | (with_reducible refine dops_go ?_; simp [-cellOK, nw_cells, nw_fold, qy_cells, hf, tk_cells, tk_fold, k]) | (with_reducible refine OKv_go ?_; simp [-cellOK, nw_cells, nw_fold, qy_cells, hf, tk_cells, tk_fold, k]) | (with_reducible refine OKr_go ?_; simp [-cellOK, nw_cells, nw_fold, qy_cells, hf, tk_cells, tk_fold, k]))); repeat' (first | refine awp_seq ?_ | refine awp_block ?_ | (refine awp_skip ?_; try simp) | (refine awp_exit ?_; try simp) | (refine awp_ret ?_; try simp) | (refine retP_same (by simp) ?_; simp) | (refine retP_no (by simp) (by simp [noIds]) (by repeat (first | assumption | exact Ext.refl _ | refine ext_new' ?_ | refine Ext.setF ?_ (by first | assumption | (simp [new_nx', St.set, fresh_none]; done) | exact ext_fresh (by assumption)))) ?_; simp [-cellOK, nw_cells, nw_fold, qy_cells, hf, tk_cells, tk_fold, k, new_m, set_m, new_nx']) | (refine awp_reg ?_; simp [-cellOK, nw_cells, nw_fold, qy_cells, hf, tk_cells, tk_fold, k]) | (refine awp_drawT (fun _ => false) mixed (by decide +kernel) ?_; simp [-cellOK, nw_cells, nw_fold, qy_cells, hf, tk_cells, tk_fold, k]) | (refine guarded_split ?_ ?_ <;> (intro hg; simp only [hg]; simp [-cellOK, nw_cells, nw_fold, qy_cells, hf, tk_cells, tk_fold, k])) | (apply awp_cond_t; focus (simp [-cellOK, nw_cells, nw_fold, qy_cells, hf, tk_cells, tk_fold, k]; done)) | (apply awp_cond_f; focus (simp [-cellOK, nw_cells, nw_fold, qy_cells, hf, tk_cells, tk_fold, k]; done)) | (refine awp_cond ?_; simp [-cellOK, nw_cells, nw_fold, qy_cells, hf, tk_cells, tk_fold, k]; refine ⟨?_, ?_⟩ <;> intro hc) | (refine awp_drawT isCallO mixed (by decide +kernel) ?_; simp [-cellOK, nw_cells, nw_fold, qy_cells, hf, tk_cells, tk_fold, k]) | (refine PCalls.use (hb) ?_; simp [-cellOK, nw_cells, nw_fold, qy_cells, hf, tk_cells, tk_fold, k]) | (refine Or.inl ⟨_, Or.inl (hb), ?_⟩; simp [-cellOK, nw_cells, nw_fold, qy_cells, hf, tk_cells, tk_fold, k]) | (refine PCalls.use (h0) ?_; simp [-cellOK, nw_cells, nw_fold, qy_cells, hf, tk_cells, tk_fold, k]) | (refine Or.inl ⟨_, Or.inl (h0), ?_⟩; simp [-cellOK, nw_cells, nw_fold, qy_cells, hf, tk_cells, tk_fold, k]) | fail)
    · have hf : AV.agg [.raw (.int .i64 1), .raw (.int .i64 q.a), .raw (.int .i64 q.b), .raw (.int .i64 q.w), .raw (.int .u32 q.r.lo), .raw (.int .u32 q.r.hi), .raw (.string q.other)] = qyAV q := by rw [← k]; rfl
      rw [if_neg (by omega), if_pos k]
      (try (first | (with_reducible refine dops_go ?_; simp [-cellOK, nw_cells, nw_fold, qy_cells, hf, tk_cells, tk_fold, k]) | (with_reducible refine OKv_go ?_; simp [-cellOK, nw_cells, nw_fold, qy_cells, hf, tk_cells, tk_fold, k]) | (with_reducible refine OKr_go ?_; simp [-cellOK, nw_cells, nw_fold, qy_cells, hf, tk_cells, tk_fold, k]))); repeat' (first | refine awp_seq ?_ | refine awp_block ?_ | (refine awp_skip ?_; try simp) | (refine awp_exit ?_; try simp) | (refine awp_ret ?_; try simp) | (refine retP_same (by simp) ?_; simp) | (refine retP_no (by simp) (by simp [noIds]) (by repeat (first | assumption | exact Ext.refl _ | refine ext_new' ?_ | refine Ext.setF ?_ (by first | assumption | (simp [new_nx', St.set, fresh_none]; done) | exact ext_fresh (by assumption)))) ?_; simp [-cellOK, nw_cells, nw_fold, qy_cells, hf, tk_cells, tk_fold, k, new_m, set_m, new_nx']) | (refine awp_reg ?_; simp [-cellOK, nw_cells, nw_fold, qy_cells, hf, tk_cells, tk_fold, k]) | (refine awp_drawT (fun _ => false) mixed (by decide +kernel) ?_; simp [-cellOK, nw_cells, nw_fold, qy_cells, hf, tk_cells, tk_fold, k]) | (refine guarded_split ?_ ?_ <;> (intro hg; simp only [hg]; simp [-cellOK, nw_cells, nw_fold, qy_cells, hf, tk_cells, tk_fold, k])) | (apply awp_cond_t; focus (simp [-cellOK, nw_cells, nw_fold, qy_cells, hf, tk_cells, tk_fold, k]; done)) | (apply awp_cond_f; focus (simp [-cellOK, nw_cells, nw_fold, qy_cells, hf, tk_cells, tk_fold, k]; done)) | (refine awp_cond ?_; simp [-cellOK, nw_cells, nw_fold, qy_cells, hf, tk_cells, tk_fold, k]; refine ⟨?_, ?_⟩ <;> intro hc) | (refine awp_drawT isCallO mixed (by decide +kernel) ?_; simp [-cellOK, nw_cells, nw_fold, qy_cells, hf, tk_cells, tk_fold, k]) | (refine PCalls.use (hb) ?_; simp [-cellOK, nw_cells, nw_fold, qy_cells, hf, tk_cells, tk_fold, k]) | (refine Or.inl ⟨_, Or.inl (hb), ?_⟩; simp [-cellOK, nw_cells, nw_fold, qy_cells, hf, tk_cells, tk_fold, k]) | (refine PCalls.use (h1) ?_; simp [-cellOK, nw_cells, nw_fold, qy_cells, hf, tk_cells, tk_fold, k]) | (refine Or.inl ⟨_, Or.inl (h1), ?_⟩; simp [-cellOK, nw_cells, nw_fold, qy_cells, hf, tk_cells, tk_fold, k]) | fail)
    · have hf : AV.agg [.raw (.int .i64 2), .raw (.int .i64 q.a), .raw (.int .i64 q.b), .raw (.int .i64 q.w), .raw (.int .u32 q.r.lo), .raw (.int .u32 q.r.hi), .raw (.string q.other)] = qyAV q := by rw [← k]; rfl
      rw [if_neg (by omega), if_neg (by omega), if_pos k]
      (try (first | (with_reducible refine dops_go ?_; simp [-cellOK, nw_cells, nw_fold, qy_cells, hf, tk_cells, tk_fold, k]) | (with_reducible refine OKv_go ?_; simp [-cellOK, nw_cells, nw_fold, qy_cells, hf, tk_cells, tk_fold, k]) | (with_reducible refine OKr_go ?_; simp [-cellOK, nw_cells, nw_fold, qy_cells, hf, tk_cells, tk_fold, k]))); repeat' (first | refine awp_seq ?_ | refine awp_block ?_ | (refine awp_skip ?_; try simp) | (refine awp_exit ?_; try simp) | (refine awp_ret ?_; try simp) | (refine retP_same (by simp) ?_; simp) | (refine retP_no (by simp) (by simp [noIds]) (by repeat (first | assumption | exact Ext.refl _ | refine ext_new' ?_ | refine Ext.setF ?_ (by first | assumption | (simp [new_nx', St.set, fresh_none]; done) | exact ext_fresh (by assumption)))) ?_; simp [-cellOK, nw_cells, nw_fold, qy_cells, hf, tk_cells, tk_fold, k, new_m, set_m, new_nx']) | (refine awp_reg ?_; simp [-cellOK, nw_cells, nw_fold, qy_cells, hf, tk_cells, tk_fold, k]) | (refine awp_drawT (fun _ => false) mixed (by decide +kernel) ?_; simp [-cellOK, nw_cells, nw_fold, qy_cells, hf, tk_cells, tk_fold, k]) | (refine guarded_split ?_ ?_ <;> (intro hg; simp only [hg]; simp [-cellOK, nw_cells, nw_fold, qy_cells, hf, tk_cells, tk_fold, k])) | (apply awp_cond_t; focus (simp [-cellOK, nw_cells, nw_fold, qy_cells, hf, tk_cells, tk_fold, k]; done)) | (apply awp_cond_f; focus (simp [-cellOK, nw_cells, nw_fold, qy_cells, hf, tk_cells, tk_fold, k]; done)) | (refine awp_cond ?_; simp [-cellOK, nw_cells, nw_fold, qy_cells, hf, tk_cells, tk_fold, k]; refine ⟨?_, ?_⟩ <;> intro hc) | (refine awp_drawT isCallO mixed (by decide +kernel) ?_; simp [-cellOK, nw_cells, nw_fold, qy_cells, hf, tk_cells, tk_fold, k]) | (refine PCalls.use (hb) ?_; simp [-cellOK, nw_cells, nw_fold, qy_cells, hf, tk_cells, tk_fold, k]) | (refine Or.inl ⟨_, Or.inl (hb), ?_⟩; simp [-cellOK, nw_cells, nw_fold, qy_cells, hf, tk_cells, tk_fold, k]) | (refine PCalls.use (h2) ?_; simp [-cellOK, nw_cells, nw_fold, qy_cells, hf, tk_cells, tk_fold, k]) | (refine Or.inl ⟨_, Or.inl (h2), ?_⟩; simp [-cellOK, nw_cells, nw_fold, qy_cells, hf, tk_cells, tk_fold, k]) | fail)
    · have hf : AV.agg [.raw (.int .i64 3), .raw (.int .i64 q.a), .raw (.int .i64 q.b), .raw (.int .i64 q.w), .raw (.int .u32 q.r.lo), .raw (.int .u32 q.r.hi), .raw (.string q.other)] = qyAV q := by rw [← k]; rfl
      rw [if_neg (by omega), if_neg (by omega), if_neg (by omega), if_pos k]
      (try (first | (with_reducible refine dops_go ?_; simp [-cellOK, nw_cells, nw_fold, qy_cells, hf, tk_cells, tk_fold, k]) | (with_reducible refine OKv_go ?_; simp [-cellOK, nw_cells, nw_fold, qy_cells, hf, tk_cells, tk_fold, k]) | (with_reducible refine OKr_go ?_; simp [-cellOK, nw_cells, nw_fold, qy_cells, hf, tk_cells, tk_fold, k]))); repeat' (first | refine awp_seq ?_ | refine awp_block ?_ | (refine awp_skip ?_; try simp) | (refine awp_exit ?_; try simp) | (refine awp_ret ?_; try simp) | (refine retP_same (by simp) ?_; simp) | (refine retP_no (by simp) (by simp [noIds]) (by repeat (first | assumption | exact Ext.refl _ | refine ext_new' ?_ | refine Ext.setF ?_ (by first | assumption | (simp [new_nx', St.set, fresh_none]; done) | exact ext_fresh (by assumption)))) ?_; simp [-cellOK, nw_cells, nw_fold, qy_cells, hf, tk_cells, tk_fold, k, new_m, set_m, new_nx']) | (refine awp_reg ?_; simp [-cellOK, nw_cells, nw_fold, qy_cells, hf, tk_cells, tk_fold, k]) | (refine awp_drawT (fun _ => false) mixed (by decide +kernel) ?_; simp [-cellOK, nw_cells, nw_fold, qy_cells, hf, tk_cells, tk_fold, k]) | (refine guarded_split ?_ ?_ <;> (intro hg; simp only [hg]; simp [-cellOK, nw_cells, nw_fold, qy_cells, hf, tk_cells, tk_fold, k])) | (apply awp_cond_t; focus (simp [-cellOK, nw_cells, nw_fold, qy_cells, hf, tk_cells, tk_fold, k]; done)) | (apply awp_cond_f; focus (simp [-cellOK, nw_cells, nw_fold, qy_cells, hf, tk_cells, tk_fold, k]; done)) | (refine awp_cond ?_; simp [-cellOK, nw_cells, nw_fold, qy_cells, hf, tk_cells, tk_fold, k]; refine ⟨?_, ?_⟩ <;> intro hc) | (refine awp_drawT isCallO mixed (by decide +kernel) ?_; simp [-cellOK, nw_cells, nw_fold, qy_cells, hf, tk_cells, tk_fold, k]) | (refine PCalls.use (hb) ?_; simp [-cellOK, nw_cells, nw_fold, qy_cells, hf, tk_cells, tk_fold, k]) | (refine Or.inl ⟨_, Or.inl (hb), ?_⟩; simp [-cellOK, nw_cells, nw_fold, qy_cells, hf, tk_cells, tk_fold, k]) | (refine PCalls.use (h3) ?_; simp [-cellOK, nw_cells, nw_fold, qy_cells, hf, tk_cells, tk_fold, k]) | (refine Or.inl ⟨_, Or.inl (h3), ?_⟩; simp [-cellOK, nw_cells, nw_fold, qy_cells, hf, tk_cells, tk_fold, k]) | fail)
    · have hf : AV.agg [.raw (.int .i64 4), .raw (.int .i64 q.a), .raw (.int .i64 q.b), .raw (.int .i64 q.w), .raw (.int .u32 q.r.lo), .raw (.int .u32 q.r.hi), .raw (.string q.other)] = qyAV q := by rw [← k]; rfl
      rw [if_neg (by omega), if_neg (by omega), if_neg (by omega), if_neg (by omega), if_pos k]
      (try (first | (with_reducible refine dops_go ?_; simp [-cellOK, nw_cells, nw_fold, qy_cells, hf, tk_cells, tk_fold, k]) | (with_reducible refine OKv_go ?_; simp [-cellOK, nw_cells, nw_fold, qy_cells, hf, tk_cells, tk_fold, k]) | (with_reducible refine OKr_go ?_; simp [-cellOK, nw_cells, nw_fold, qy_cells, hf, tk_cells, tk_fold, k]))); repeat' (first | refine awp_seq ?_ | refine awp_block ?_ | (refine awp_skip ?_; try simp) | (refine awp_exit ?_; try simp) | (refine awp_ret ?_; try simp) | (refine retP_same (by simp) ?_; simp) | (refine retP_no (by simp) (by simp [noIds]) (by repeat (first | assumption | exact Ext.refl _ | refine ext_new' ?_ | refine Ext.setF ?_ (by first | assumption | (simp [new_nx', St.set, fresh_none]; done) | exact ext_fresh (by assumption)))) ?_; simp [-cellOK, nw_cells, nw_fold, qy_cells, hf, tk_cells, tk_fold, k, new_m, set_m, new_nx']) | (refine awp_reg ?_; simp [-cellOK, nw_cells, nw_fold, qy_cells, hf, tk_cells, tk_fold, k]) | (refine awp_drawT (fun _ => false) mixed (by decide +kernel) ?_; simp [-cellOK, nw_cells, nw_fold, qy_cells, hf, tk_cells, tk_fold, k]) | (refine guarded_split ?_ ?_ <;> (intro hg; simp only [hg]; simp [-cellOK, nw_cells, nw_fold, qy_cells, hf, tk_cells, tk_fold, k])) | (apply awp_cond_t; focus (simp [-cellOK, nw_cells, nw_fold, qy_cells, hf, tk_cells, tk_fold, k]; done)) | (apply awp_cond_f; focus (simp [-cellOK, nw_cells, nw_fold, qy_cells, hf, tk_cells, tk_fold, k]; done)) | (refine awp_cond ?_; simp [-cellOK, nw_cells, nw_fold, qy_cells, hf, tk_cells, tk_fold, k]; refine ⟨?_, ?_⟩ <;> intro hc) | (refine awp_drawT isCallO mixed (by decide +kernel) ?_; simp [-cellOK, nw_cells, nw_fold, qy_cells, hf, tk_cells, tk_fold, k]) | (refine PCalls.use (hb) ?_; simp [-cellOK, nw_cells, nw_fold, qy_cells, hf, tk_cells, tk_fold, k]) | (refine Or.inl ⟨_, Or.inl (hb), ?_⟩; simp [-cellOK, nw_cells, nw_fold, qy_cells, hf, tk_cells, tk_fold, k]) | (refine PCalls.use (h4) ?_; simp [-cellOK, nw_cells, nw_fold, qy_cells, hf, tk_cells, tk_fold, k]) | (refine Or.inl ⟨_, Or.inl (h4), ?_⟩; simp [-cellOK, nw_cells, nw_fold, qy_cells, hf, tk_cells, tk_fold, k]) | fail)
    · have hf : AV.agg [.raw (.int .i64 5), .raw (.int .i64 q.a), .raw (.int .i64 q.b), .raw (.int .i64 q.w), .raw (.int .u32 q.r.lo), .raw (.int .u32 q.r.hi), .raw (.string q.other)] = qyAV q := by rw [← k]; rfl
      rw [if_neg (by omega), if_neg (by omega), if_neg (by omega), if_neg (by omega), if_neg (by omega), if_pos k]
      (try (first | (with_reducible refine dops_go ?_; simp [-cellOK, nw_cells, nw_fold, qy_cells, hf, tk_cells, tk_fold, k]) | (with_reducible refine OKv_go ?_; simp [-cellOK, nw_cells, nw_fold, qy_cells, hf, tk_cells, tk_fold, k]) | (with_reducible refine OKr_go ?_; simp [-cellOK, nw_cells, nw_fold, qy_cells, hf, tk_cells, tk_fold, k]))); repeat' (first | refine awp_seq ?_ | refine awp_block ?_ | (refine awp_skip ?_; try simp) | (refine awp_exit ?_; try simp) | (refine awp_ret ?_; try simp) | (refine retP_same (by simp) ?_; simp) | (refine retP_no (by simp) (by simp [noIds]) (by repeat (first | assumption | exact Ext.refl _ | refine ext_new' ?_ | refine Ext.setF ?_ (by first | assumption | (simp [new_nx', St.set, fresh_none]; done) | exact ext_fresh (by assumption)))) ?_; simp [-cellOK, nw_cells, nw_fold, qy_cells, hf, tk_cells, tk_fold, k, new_m, set_m, new_nx']) | (refine awp_reg ?_; simp [-cellOK, nw_cells, nw_fold, qy_cells, hf, tk_cells, tk_fold, k]) | (refine awp_drawT (fun _ => false) mixed (by decide +kernel) ?_; simp [-cellOK, nw_cells, nw_fold, qy_cells, hf, tk_cells, tk_fold, k]) | (refine guarded_split ?_ ?_ <;> (intro hg; simp only [hg]; simp [-cellOK, nw_cells, nw_fold, qy_cells, hf, tk_cells, tk_fold, k])) | (apply awp_cond_t; focus (simp [-cellOK, nw_cells, nw_fold, qy_cells, hf, tk_cells, tk_fold, k]; done)) | (apply awp_cond_f; focus (simp [-cellOK, nw_cells, nw_fold, qy_cells, hf, tk_cells, tk_fold, k]; done)) | (refine awp_cond ?_; simp [-cellOK, nw_cells, nw_fold, qy_cells, hf, tk_cells, tk_fold, k]; refine ⟨?_, ?_⟩ <;> intro hc) | (refine awp_drawT isCallO mixed (by decide +kernel) ?_; simp [-cellOK, nw_cells, nw_fold, qy_cells, hf, tk_cells, tk_fold, k]) | (refine PCalls.use (hb) ?_; simp [-cellOK, nw_cells, nw_fold, qy_cells, hf, tk_cells, tk_fold, k]) | (refine Or.inl ⟨_, Or.inl (hb), ?_⟩; simp [-cellOK, nw_cells, nw_fold, qy_cells, hf, tk_cells, tk_fold, k]) | (refine PCalls.use (h5) ?_; simp [-cellOK, nw_cells, nw_fold, qy_cells, hf, tk_cells, tk_fold, k]) | (refine Or.inl ⟨_, Or.inl (h5), ?_⟩; simp [-cellOK, nw_cells, nw_fold, qy_cells, hf, tk_cells, tk_fold, k]) | fail)
  · rw [if_neg (by omega), if_neg (by omega), if_neg (by omega), if_neg (by omega), if_neg (by omega), if_neg (by omega)]
    (try (first | (with_reducible refine dops_go ?_; simp [-cellOK, nw_cells, qy_cells, tk_cells, k0', k6]) | (with_reducible refine OKv_go ?_; simp [-cellOK, nw_cells, qy_cells, tk_cells, k0', k6]) | (with_reducible refine OKr_go ?_; simp [-cellOK, nw_cells, qy_cells, tk_cells, k0', k6]))); repeat' (first | refine awp_seq ?_ | refine awp_block ?_ | (refine awp_skip ?_; try simp) | (refine awp_exit ?_; try simp) | (refine awp_ret ?_; try simp) | (refine retP_same (by simp) ?_; simp) | (refine retP_no (by simp) (by simp [noIds]) (by repeat (first | assumption | exact Ext.refl _ | refine ext_new' ?_ | refine Ext.setF ?_ (by first | assumption | (simp [new_nx', St.set, fresh_none]; done) | exact ext_fresh (by assumption)))) ?_; simp [-cellOK, nw_cells, qy_cells, tk_cells, k0', k6, new_m, set_m, new_nx']) | (refine awp_reg ?_; simp [-cellOK, nw_cells, qy_cells, tk_cells, k0', k6]) | (refine awp_drawT (fun _ => false) mixed (by decide +kernel) ?_; simp [-cellOK, nw_cells, qy_cells, tk_cells, k0', k6]) | (refine guarded_split ?_ ?_ <;> (intro hg; simp only [hg]; simp [-cellOK, nw_cells, qy_cells, tk_cells, k0', k6])) | (apply awp_cond_t; focus (simp [-cellOK, nw_cells, qy_cells, tk_cells, k0', k6]; done)) | (apply awp_cond_f; focus (simp [-cellOK, nw_cells, qy_cells, tk_cells, k0', k6]; done)) | (refine awp_cond ?_; simp [-cellOK, nw_cells, qy_cells, tk_cells, k0', k6]; refine ⟨?_, ?_⟩ <;> intro hc) | (refine awp_drawT isCallO mixed (by decide +kernel) ?_; simp [-cellOK, nw_cells, qy_cells, tk_cells, k0', k6]) | fail)
end Go.Proofs.Ytanimmdlgmkmkaa.Av

/- Queries: query.Run, query.Same. -/
namespace Go.Proofs.Ytanimmdlgmkmkaa.Av
open Go
set_option linter.unusedSimpArgs false
set_option linter.unusedVariables false
set_option maxRecDepth 100000
set_option maxHeartbeats 4000000
set_option pp.maxSteps 600

structure Vd where
  holds : Bool
  src : Int
  addr : Int
  tr : Tk
deriving DecidableEq
def vdAV (v : Vd) (f : Bool) : AV := .agg [.raw (.bool v.holds), .raw (.int .i64 v.src), .raw (.int .u32 v.addr), intsAV v.tr.path f, .raw (.int .i64 v.tr.out), .raw (.int .i64 v.tr.last.dev), .raw (.int .i64 v.tr.last.port)]
theorem vd_cells (v : Vd) (f : Bool) : (vdAV v f).cells = [.raw (.bool v.holds), .raw (.int .i64 v.src), .raw (.int .u32 v.addr), intsAV v.tr.path f, .raw (.int .i64 v.tr.out), .raw (.int .i64 v.tr.last.dev), .raw (.int .i64 v.tr.last.port)] := rfl
theorem vd_fold (h : Bool) (s a : Int) (t : Tk) (f : Bool) : AV.agg [.raw (.bool h), .raw (.int .i64 s), .raw (.int .u32 a), intsAV t.path f, .raw (.int .i64 t.out), .raw (.int .i64 t.last.dev), .raw (.int .i64 t.last.port)] = vdAV ⟨h, s, a, t⟩ f := rfl
@[simp] theorem vd_ids (K : Id → Prop) (v : Vd) (b : Bool) : (vdAV v b).ids K := by simp [vdAV]
def noTk : Tk := ⟨[], 0, ⟨0, 0⟩⟩
def seek (n m : Nw) (q : Qy) (d : Int) : List Rg → Option Vd
  | [] => none
  | r :: rs => if breaksQ q (traceR n d r.lo).1 (traceR m d r.lo).1 = true then some ⟨false, d, r.lo, (traceR n d r.lo).1⟩ else seek n m q d rs
def seeks (n m : Nw) (q : Qy) (P : List Rg) : List Int → Option Vd
  | [] => none
  | d :: ds => match seek n m q d P with
    | some v => some v
    | none => seeks n m q P ds
def runQ (n m : Nw) (q : Qy) : Vd × Int :=
  if rightQ n q = false ∨ (q.kind = 5 ∧ n.t ≠ m.t) then (⟨false, 0, 0, noTk⟩, 121) else
    match seeks n (if q.kind = 5 then m else n) q (cutP [n, if q.kind = 5 then m else n] q.r) (sourcesQ n q) with
    | some v => (v, 0)
    | none => (⟨true, 0, 0, noTk⟩, 0)
theorem weaker_vd (b : Bool) (e : Int) : Weaker (.tup [.agg [.raw (.bool b), .raw (.int .i64 0), .raw (.int .u32 0), .sl 0 [] true, .raw (.int .i64 0), .raw (.int .i64 0), .raw (.int .i64 0)], .raw (.int .i64 e)]) (.tup [vdAV ⟨b, 0, 0, noTk⟩ false, .raw (.int .i64 e)]) := by
  intro S v h
  simp only [vdAV, noTk, intsAV, List.map_nil, VRel, LRel] at h ⊢
  obtain ⟨l, rfl, u, us, h1, ⟨l2, rfl, h2⟩, h3⟩ := h
  refine ⟨l, rfl, _, us, h1, ⟨l2, rfl, ?_⟩, h3⟩
  obtain ⟨x1, y1, e1, p1, x2, y2, e2, p2, x3, y3, e3, p3, x4, y4, e4, ⟨base, cap, e, q1, q2, q3⟩, p5⟩ := h2
  exact ⟨x1, y1, e1, p1, x2, y2, e2, p2, x3, y3, e3, p3, x4, y4, e4, ⟨base, cap, e, q1, by simp, by simp⟩, p5⟩
/-- An empty verdict, as it is made. -/
def vd0AV : AV := .agg [.raw (.bool false), .raw (.int .i64 0), .raw (.int .u32 0), .sl 0 [] true, .raw (.int .i64 0), .raw (.int .i64 0), .raw (.int .i64 0)]
theorem vd0_put (a b c d e f g : AV) : setPart vd0AV 0 [a, b, c, d, e, f, g] = .agg [a, b, c, d, e, f, g] := rfl
theorem vd0_fold : AV.agg [.raw (.bool false), .raw (.int .i64 0), .raw (.int .u32 0), .sl 0 [] true, .raw (.int .i64 0), .raw (.int .i64 0), .raw (.int .i64 0)] = vd0AV := rfl
theorem vd0_cells : vd0AV.cells = [.raw (.bool false), .raw (.int .i64 0), .raw (.int .u32 0), .sl 0 [] true, .raw (.int .i64 0), .raw (.int .i64 0), .raw (.int .i64 0)] := rfl
theorem vd0_putV (v : Vd) (f : Bool) : setPart vd0AV 0 (vdAV v f).cells = vdAV v f := rfl
theorem held_len (L : List Rg) : (heldL L).length ≤ 500 := by
  have : ∀ (L : List Rg) (s : Option (List Rg)), (s.getD []).length ≤ 500 → ((L.foldl stepL s).getD []).length ≤ 500 := by
    intro L
    induction L with
    | nil => intro s h; exact h
    | cons r L ih =>
      intro s h
      rw [List.foldl_cons]
      refine ih _ ?_
      unfold stepL
      split
      · simp
      · split
        · simp
        · simp only [Option.getD_some, List.length_cons]; omega
  exact this L (some []) (by simp)
theorem cutsL_len (L : List Rg) : (cutsL L).length ≤ 1 + 2 * L.length := by
  have hcc := cutsL_cuts L
  have := nodup_le (m := 0 :: endsL L) (hcc.srt.imp fun h => by omega) fun x hx => by
    rw [List.mem_cons]; simp only [endsL, List.mem_flatMap]; exact (hcc.mem x).1 hx
  have := endsL_len L
  simp only [List.length_cons] at *
  omega
theorem cutP_len (l : List Nw) (r : Rg) : (cutP l r).length ≤ 1001 := by
  unfold cutP
  split
  · simp
  · unfold cutC
    have h1 := List.length_filterMap_le (cutOne r) (atomsC (cutsL (heldL (rgsOf l))))
    rw [atomsC_len] at h1
    have h2 := cutsL_len (heldL (rgsOf l))
    have h3 := held_len (rgsOf l)
    omega
theorem run_calls (n m : Nw) (f g : Fl) (q : Qy) (hn : NwOK n) (hm : NwOK m) (hq : RgOK q.r) :
    PCalls Try.prog 13 [nwAV n f, nwAV m g, qyAV q] (.tup [vdAV (runQ n m q).1 false, .raw (.int .i64 (runQ n m q).2)]) := by
  have hr := rightQ_calls n f q
  have hs := topoSame_calls n.t m.t f g (by have := hn.ports; omega) (by have := hn.links; omega) (by have := hm.ports; omega) (by have := hm.links; omega)
  have hso := sources_calls n f q hn.ports
  refine pbody Try.func13 rfl (N := 93) rfl rfl (by simp) (by simp [noIds]) fun σ => ?_
  repeat (refine awp_seq ?_)
  refine awp_reg ?_
  simp [-cellOK, nw_cells, qy_cells]
  refine awp_freeze ⟨3, σ.nx 3, 3⟩ ?_
  refine awp_freeze ⟨5, σ.nx 5, 7⟩ ?_
  generalize hτ : St.del _ _ = τ
  generalize hA : (fun t => giveUp _ _ _) = A
  have a3 : A 3 = .pp (nwAV n f).cells 0 := by rw [← hA, ← hτ]; simp [giveUp, St.new, St.del, nw_cells]
  have a4 : A 4 = .rp ⟨4, σ.nx 4, 3⟩ 0 0 := by rw [← hA, ← hτ]; simp [giveUp, St.new, St.del, nw_cells, qy_cells]
  have a5 : A 5 = .pp (qyAV q).cells 0 := by rw [← hA, ← hτ]; simp [giveUp, St.new, St.del, nw_cells, qy_cells]
  have a6 : A 6 = .rp ⟨6, σ.nx 6, 7⟩ 0 0 := by rw [← hA, ← hτ]; simp [giveUp, St.new, St.del, nw_cells, qy_cells]
  have m4 : τ.m ⟨4, σ.nx 4, 3⟩ = some (.buf [nwAV m g]) := by rw [← hτ]; simp [St.new, St.del]
  have m6 : τ.m ⟨6, σ.nx 6, 7⟩ = some (.buf [.agg [.raw (.bool false), .raw (.int .i64 0), .raw (.int .u32 0), .sl 0 [] true, .raw (.int .i64 0), .raw (.int .i64 0), .raw (.int .i64 0)]]) := by rw [← hτ]; simp [St.new, St.del]
  have hE : Ext σ τ := by
    rw [← hτ]
    refine ⟨fun i o h => ?_, fun s => ?_⟩
    · have q1 : i ≠ ⟨3, σ.nx 3, 3⟩ := fun e => by rw [e, fresh_none] at h; cases h
      have q2 : i ≠ ⟨4, σ.nx 4, 3⟩ := fun e => by rw [e, fresh_none] at h; cases h
      have q3 : i ≠ ⟨5, σ.nx 5, 7⟩ := fun e => by rw [e, fresh_none] at h; cases h
      have q4 : i ≠ ⟨6, σ.nx 6, 7⟩ := fun e => by rw [e, fresh_none] at h; cases h
      simp [St.del, St.new, q1, q2, q3, q4, h]
    · simp only [St.del, St.new]
      repeat' split
      all_goals omega
  clear hτ hA
  have f4 : σ.m ⟨4, σ.nx 4, 3⟩ = none := fresh_none _ _ _
  have f6 : σ.m ⟨6, σ.nx 6, 7⟩ = none := fresh_none _ _ _
  obtain ⟨i4, hi4⟩ : ∃ i, (⟨4, σ.nx 4, 3⟩ : Id) = i := ⟨_, rfl⟩
  obtain ⟨i6, hi6⟩ : ∃ i, (⟨6, σ.nx 6, 7⟩ : Id) = i := ⟨_, rfl⟩
  have s4 : i4.slot = 4 := by rw [← hi4]
  have s6 : i6.slot = 6 := by rw [← hi6]
  rw [hi4] at a4 m4 f4
  rw [hi6] at a6 m6 f6
  have d46 : i4 ≠ i6 := fun e => by rw [e, s6] at s4; cases s4
  have htf : ∀ (N : Nw) (F : Fl), AV.agg [intsAV N.t.ports F.p, linksAV N.t.links F.l] = tpAV N.t F := fun _ _ => rfl
  have bad : ∀ {B : Env} {ρ : St}, Ext σ ρ → aresult Try.prog ρ.m B Try.f13.results = some (.tup [.agg [.raw (.bool false), .raw (.int .i64 0), .raw (.int .u32 0), .sl 0 [] true, .raw (.int .i64 0), .raw (.int .i64 0), .raw (.int .i64 0)], .raw (.int .i64 121)]) → RetP Try.prog Try.f13 σ (.tup [vdAV ⟨false, 0, 0, noTk⟩ false, .raw (.int .i64 121)]) .ret B ρ := fun hE h =>
    retP_weak (.inr rfl) hE h (by simpa [giveUps, giveUp] using weaker_vd false 121)
  unfold runQ
  cases hrb : rightQ n q with
  | false =>
    rw [hrb] at hr
    rw [if_pos (.inl rfl)]
    (try (first | (with_reducible refine dops_go ?_; simp [-cellOK, a3, a4, a5, a6, nw_cells, nw_fold, qy_cells, qy_fold, m6]) | (with_reducible refine OKv_go ?_; simp [-cellOK, a3, a4, a5, a6, nw_cells, nw_fold, qy_cells, qy_fold, m6]) | (with_reducible refine OKr_go ?_; simp [-cellOK, a3, a4, a5, a6, nw_cells, nw_fold, qy_cells, qy_fold, m6]))); repeat' (first | refine awp_seq ?_ | refine awp_block ?_ | (refine awp_skip ?_; try simp) | (refine awp_exit ?_; try simp) | (refine awp_ret ?_; try simp) | (refine awp_reg ?_; simp [-cellOK, a3, a4, a5, a6, nw_cells, nw_fold, qy_cells, qy_fold, m6]) | (refine awp_drawT (fun _ => false) mixed (by decide +kernel) ?_; simp [-cellOK, a3, a4, a5, a6, nw_cells, nw_fold, qy_cells, qy_fold, m6]) | (refine guarded_split ?_ ?_ <;> (intro hg; simp only [hg]; simp [-cellOK, a3, a4, a5, a6, nw_cells, nw_fold, qy_cells, qy_fold, m6])) | (apply awp_cond_t; focus (simp [-cellOK, a3, a4, a5, a6, nw_cells, nw_fold, qy_cells, qy_fold, m6]; done)) | (apply awp_cond_f; focus (simp [-cellOK, a3, a4, a5, a6, nw_cells, nw_fold, qy_cells, qy_fold, m6]; done)) | (refine awp_cond ?_; simp [-cellOK, a3, a4, a5, a6, nw_cells, nw_fold, qy_cells, qy_fold, m6]; refine ⟨?_, ?_⟩ <;> intro hc) | (refine awp_drawT isCallO mixed (by decide +kernel) ?_; simp [-cellOK, a3, a4, a5, a6, nw_cells, nw_fold, qy_cells, qy_fold, m6]) | (refine PCalls.use (hr) ?_; simp [-cellOK, a3, a4, a5, a6, nw_cells, nw_fold, qy_cells, qy_fold, m6]) | (refine Or.inl ⟨_, Or.inl (hr), ?_⟩; simp [-cellOK, a3, a4, a5, a6, nw_cells, nw_fold, qy_cells, qy_fold, m6]) | fail)
    exact bad (by repeat (first | assumption | exact Ext.refl _ | refine ext_new' ?_ | refine Ext.setF ?_ (by first | assumption | (simp [new_nx', St.set, fresh_none]; done) | exact ext_fresh (by assumption)))) (by simp [set_m, m6, a6])
  | true =>
  rw [hrb] at hr
  obtain ⟨M, hM⟩ : ∃ M, (if q.kind = 5 then m else n) = M := ⟨_, rfl⟩
  obtain ⟨G, hG⟩ : ∃ G, (if q.kind = 5 then g else f) = G := ⟨_, rfl⟩
  have hMok : NwOK M := by rw [← hM]; split <;> assumption
  by_cases hbad : q.kind = 5 ∧ n.t ≠ m.t
  · rw [if_pos (.inr hbad)]
    obtain ⟨k5, hne⟩ := hbad
    have k5 := eq_true k5
    rw [decide_eq_false hne] at hs
    (try (first | (with_reducible refine dops_go ?_; simp [-cellOK, a3, a4, a5, a6, nw_cells, nw_fold, qy_cells, qy_fold, m4, m6, k5, htf]) | (with_reducible refine OKv_go ?_; simp [-cellOK, a3, a4, a5, a6, nw_cells, nw_fold, qy_cells, qy_fold, m4, m6, k5, htf]) | (with_reducible refine OKr_go ?_; simp [-cellOK, a3, a4, a5, a6, nw_cells, nw_fold, qy_cells, qy_fold, m4, m6, k5, htf]))); repeat' (first | refine awp_seq ?_ | refine awp_block ?_ | (refine awp_skip ?_; try simp) | (refine awp_exit ?_; try simp) | (refine awp_ret ?_; try simp) | (refine awp_reg ?_; simp [-cellOK, a3, a4, a5, a6, nw_cells, nw_fold, qy_cells, qy_fold, m4, m6, k5, htf]) | (refine awp_drawT (fun _ => false) mixed (by decide +kernel) ?_; simp [-cellOK, a3, a4, a5, a6, nw_cells, nw_fold, qy_cells, qy_fold, m4, m6, k5, htf]) | (refine guarded_split ?_ ?_ <;> (intro hg; simp only [hg]; simp [-cellOK, a3, a4, a5, a6, nw_cells, nw_fold, qy_cells, qy_fold, m4, m6, k5, htf])) | (apply awp_cond_t; focus (simp [-cellOK, a3, a4, a5, a6, nw_cells, nw_fold, qy_cells, qy_fold, m4, m6, k5, htf]; done)) | (apply awp_cond_f; focus (simp [-cellOK, a3, a4, a5, a6, nw_cells, nw_fold, qy_cells, qy_fold, m4, m6, k5, htf]; done)) | (refine awp_cond ?_; simp [-cellOK, a3, a4, a5, a6, nw_cells, nw_fold, qy_cells, qy_fold, m4, m6, k5, htf]; refine ⟨?_, ?_⟩ <;> intro hc) | (refine awp_drawT isCallO mixed (by decide +kernel) ?_; simp [-cellOK, a3, a4, a5, a6, nw_cells, nw_fold, qy_cells, qy_fold, m4, m6, k5, htf]) | (refine PCalls.use (hr) ?_; simp [-cellOK, a3, a4, a5, a6, nw_cells, nw_fold, qy_cells, qy_fold, m4, m6, k5, htf]) | (refine Or.inl ⟨_, Or.inl (hr), ?_⟩; simp [-cellOK, a3, a4, a5, a6, nw_cells, nw_fold, qy_cells, qy_fold, m4, m6, k5, htf]) | (refine PCalls.use (hs) ?_; simp [-cellOK, a3, a4, a5, a6, nw_cells, nw_fold, qy_cells, qy_fold, m4, m6, k5, htf]) | (refine Or.inl ⟨_, Or.inl (hs), ?_⟩; simp [-cellOK, a3, a4, a5, a6, nw_cells, nw_fold, qy_cells, qy_fold, m4, m6, k5, htf]) | fail)
    exact bad (by repeat (first | assumption | exact Ext.refl _ | refine ext_new' ?_ | refine Ext.setF ?_ (by first | assumption | (simp [new_nx', St.set, fresh_none]; done) | exact ext_fresh (by assumption)))) (by simp [set_m, m6, a6])
  rw [if_neg (by simp [hbad]), hM]
  have hcut := cut_calls [(n, f), (M, G)] false q.r hq (by simp [hn, hMok]) (by simp)
  simp only [List.map_cons, List.map_nil] at hcut
  generalize (if q.r.hi < q.r.lo then (31 : Int) else 0) = ce at hcut
  have hPl := cutP_len [n, M] q.r
  have hSl : (sourcesQ n q).length < 2 ^ 41 := by
    have := hn.ports
    unfold sourcesQ
    split
    · simp
    · simp; omega
  generalize cutP [n, M] q.r = P at hcut hPl ⊢
  generalize sourcesQ n q = Sq at hso hSl ⊢
  have n4 : ∀ s k z, ¬ s = 4 → (i4 = (⟨s, k, z⟩ : Id)) = False := fun s k z h => eq_false fun e => h (by rw [e] at s4; exact s4)
  have n6 : ∀ s k z, ¬ s = 6 → (i6 = (⟨s, k, z⟩ : Id)) = False := fun s k z h => eq_false fun e => h (by rw [e] at s6; exact s6)
  have d64 := d46.symm
  have ne4 : ∀ k z, i4 ≠ (⟨43, k, z⟩ : Id) := fun k z e => by rw [e] at s4; cases s4
  have ne6 : ∀ k z, i6 ≠ (⟨43, k, z⟩ : Id) := fun k z e => by rw [e] at s6; cases s6
  have hrgf : AV.agg [.raw (.int .u32 q.r.lo), .raw (.int .u32 q.r.hi)] = rgAV q.r := rfl
  by_cases k5 : q.kind = 5
  focus
    have hsame : n.t = m.t := Classical.byContradiction fun h => hbad ⟨k5, h⟩
    rw [decide_eq_true hsame] at hs
    have e1 : m = M := by rw [← hM, if_pos k5]
    have e2 : g = G := by rw [← hG, if_pos k5]
    rw [e1, e2] at m4 hs
    have k5 := eq_true k5
    (try (first | (with_reducible refine dops_go ?_; simp [-cellOK, a3, a4, a5, a6, nw_cells, nw_fold, qy_cells, qy_fold, m4, m6, k5, htf]) | (with_reducible refine OKv_go ?_; simp [-cellOK, a3, a4, a5, a6, nw_cells, nw_fold, qy_cells, qy_fold, m4, m6, k5, htf]) | (with_reducible refine OKr_go ?_; simp [-cellOK, a3, a4, a5, a6, nw_cells, nw_fold, qy_cells, qy_fold, m4, m6, k5, htf]))); repeat' (first | refine awp_seq ?_ | refine awp_block ?_ | (refine awp_skip ?_; try simp) | (refine awp_exit ?_; try simp) | (refine awp_ret ?_; try simp) | (refine retP_same (by simp) ?_; simp) | (refine retP_no (by simp) (by simp [noIds]) (by repeat (first | assumption | exact Ext.refl _ | refine ext_new' ?_ | refine Ext.setF ?_ (by first | assumption | (simp [new_nx', St.set, fresh_none]; done) | exact ext_fresh (by assumption)))) ?_; simp [-cellOK, a3, a4, a5, a6, nw_cells, nw_fold, qy_cells, qy_fold, m4, m6, k5, htf, new_m, set_m, new_nx']) | (refine awp_reg ?_; simp [-cellOK, a3, a4, a5, a6, nw_cells, nw_fold, qy_cells, qy_fold, m4, m6, k5, htf]) | (refine awp_drawT (fun _ => false) mixed (by decide +kernel) ?_; simp [-cellOK, a3, a4, a5, a6, nw_cells, nw_fold, qy_cells, qy_fold, m4, m6, k5, htf]) | (refine guarded_split ?_ ?_ <;> (intro hg; simp only [hg]; simp [-cellOK, a3, a4, a5, a6, nw_cells, nw_fold, qy_cells, qy_fold, m4, m6, k5, htf])) | (apply awp_cond_t; focus (simp [-cellOK, a3, a4, a5, a6, nw_cells, nw_fold, qy_cells, qy_fold, m4, m6, k5, htf]; done)) | (apply awp_cond_f; focus (simp [-cellOK, a3, a4, a5, a6, nw_cells, nw_fold, qy_cells, qy_fold, m4, m6, k5, htf]; done)) | (refine awp_cond ?_; simp [-cellOK, a3, a4, a5, a6, nw_cells, nw_fold, qy_cells, qy_fold, m4, m6, k5, htf]; refine ⟨?_, ?_⟩ <;> intro hc) | (refine awp_drawT isCallO mixed (by decide +kernel) ?_; simp [-cellOK, a3, a4, a5, a6, nw_cells, nw_fold, qy_cells, qy_fold, m4, m6, k5, htf]) | (refine PCalls.use (hr) ?_; simp [-cellOK, a3, a4, a5, a6, nw_cells, nw_fold, qy_cells, qy_fold, m4, m6, k5, htf]) | (refine Or.inl ⟨_, Or.inl (hr), ?_⟩; simp [-cellOK, a3, a4, a5, a6, nw_cells, nw_fold, qy_cells, qy_fold, m4, m6, k5, htf]) | (refine PCalls.use (hs) ?_; simp [-cellOK, a3, a4, a5, a6, nw_cells, nw_fold, qy_cells, qy_fold, m4, m6, k5, htf]) | (refine Or.inl ⟨_, Or.inl (hs), ?_⟩; simp [-cellOK, a3, a4, a5, a6, nw_cells, nw_fold, qy_cells, qy_fold, m4, m6, k5, htf]) | fail)
    refine hcut.useFz (σ0 := σ) ⟨43, τ.nx 43, 3⟩ (ext_fresh hE) (by repeat (first | assumption | exact Ext.refl _ | refine ext_new' ?_ | refine Ext.setF ?_ (by first | assumption | (simp [new_nx', St.set, fresh_none]; done) | exact ext_fresh (by assumption)))) (by simp [giveUp, new_m, netsAV, hrgf]; rfl) ?_
    intro τ2 hE2 hk2 _
    have g4 : τ2.m i4 = some (.buf [nwAV M G]) := hk2 i4 _ (ne4 _ _) (new_up _ _ m4)
    have g6 := hk2 i6 _ (ne6 _ _) (new_up _ _ m6)
  rotate_left
  focus
    have e1 : M = n := by rw [← hM, if_neg k5]
    have e2 : G = f := by rw [← hG, if_neg k5]
    have hnp : setPart (nwAV m g) 0 [intsAV n.t.ports f.p, linksAV n.t.links f.l, rulesAV n.rules f.r] = nwAV n f := rfl
    (try (first | (with_reducible refine dops_go ?_; simp [-cellOK, a3, a4, a5, a6, nw_cells, nw_fold, qy_cells, qy_fold, m4, m6, k5, htf, hnp]) | (with_reducible refine OKv_go ?_; simp [-cellOK, a3, a4, a5, a6, nw_cells, nw_fold, qy_cells, qy_fold, m4, m6, k5, htf, hnp]) | (with_reducible refine OKr_go ?_; simp [-cellOK, a3, a4, a5, a6, nw_cells, nw_fold, qy_cells, qy_fold, m4, m6, k5, htf, hnp]))); repeat' (first | refine awp_seq ?_ | refine awp_block ?_ | (refine awp_skip ?_; try simp) | (refine awp_exit ?_; try simp) | (refine awp_ret ?_; try simp) | (refine retP_same (by simp) ?_; simp) | (refine retP_no (by simp) (by simp [noIds]) (by repeat (first | assumption | exact Ext.refl _ | refine ext_new' ?_ | refine Ext.setF ?_ (by first | assumption | (simp [new_nx', St.set, fresh_none]; done) | exact ext_fresh (by assumption)))) ?_; simp [-cellOK, a3, a4, a5, a6, nw_cells, nw_fold, qy_cells, qy_fold, m4, m6, k5, htf, hnp, new_m, set_m, new_nx']) | (refine awp_reg ?_; simp [-cellOK, a3, a4, a5, a6, nw_cells, nw_fold, qy_cells, qy_fold, m4, m6, k5, htf, hnp]) | (refine awp_drawT (fun _ => false) mixed (by decide +kernel) ?_; simp [-cellOK, a3, a4, a5, a6, nw_cells, nw_fold, qy_cells, qy_fold, m4, m6, k5, htf, hnp]) | (refine guarded_split ?_ ?_ <;> (intro hg; simp only [hg]; simp [-cellOK, a3, a4, a5, a6, nw_cells, nw_fold, qy_cells, qy_fold, m4, m6, k5, htf, hnp])) | (apply awp_cond_t; focus (simp [-cellOK, a3, a4, a5, a6, nw_cells, nw_fold, qy_cells, qy_fold, m4, m6, k5, htf, hnp]; done)) | (apply awp_cond_f; focus (simp [-cellOK, a3, a4, a5, a6, nw_cells, nw_fold, qy_cells, qy_fold, m4, m6, k5, htf, hnp]; done)) | (refine awp_cond ?_; simp [-cellOK, a3, a4, a5, a6, nw_cells, nw_fold, qy_cells, qy_fold, m4, m6, k5, htf, hnp]; refine ⟨?_, ?_⟩ <;> intro hc) | (refine awp_drawT isCallO mixed (by decide +kernel) ?_; simp [-cellOK, a3, a4, a5, a6, nw_cells, nw_fold, qy_cells, qy_fold, m4, m6, k5, htf, hnp]) | (refine PCalls.use (hr) ?_; simp [-cellOK, a3, a4, a5, a6, nw_cells, nw_fold, qy_cells, qy_fold, m4, m6, k5, htf, hnp]) | (refine Or.inl ⟨_, Or.inl (hr), ?_⟩; simp [-cellOK, a3, a4, a5, a6, nw_cells, nw_fold, qy_cells, qy_fold, m4, m6, k5, htf, hnp]) | (refine PCalls.use (hs) ?_; simp [-cellOK, a3, a4, a5, a6, nw_cells, nw_fold, qy_cells, qy_fold, m4, m6, k5, htf, hnp]) | (refine Or.inl ⟨_, Or.inl (hs), ?_⟩; simp [-cellOK, a3, a4, a5, a6, nw_cells, nw_fold, qy_cells, qy_fold, m4, m6, k5, htf, hnp]) | fail)
    refine hcut.useFz (σ0 := σ) ⟨43, τ.nx 43, 3⟩ (ext_fresh hE) (by repeat (first | assumption | exact Ext.refl _ | refine ext_new' ?_ | refine Ext.setF ?_ (by first | assumption | (simp [new_nx', St.set, fresh_none]; done) | exact ext_fresh (by assumption)))) (by simp [giveUp, new_m, set_m, netsAV, hrgf, e1, e2]; rfl) ?_
    intro τ2 hE2 hk2 _
    have g4 : τ2.m i4 = some (.buf [nwAV M G]) := by rw [e1, e2]; exact hk2 i4 _ (ne4 _ _) (new_up _ _ (set_hit m4))
    have g6 := hk2 i6 _ (ne6 _ _) (new_up _ _ ((set_ne d46.symm).trans m6))
  all_goals
    rw [vd0_fold] at g6
    obtain ⟨R0, hR0⟩ : ∃ R0, seeks n M q P Sq = R0 := ⟨_, rfl⟩
    rw [hR0]
    (try (first | (with_reducible refine dops_go ?_; simp [-cellOK, a3, a4, a5, a6, g4, g6, nw_cells, nw_fold, qy_cells, qy_fold, rgsAV]) | (with_reducible refine OKv_go ?_; simp [-cellOK, a3, a4, a5, a6, g4, g6, nw_cells, nw_fold, qy_cells, qy_fold, rgsAV]) | (with_reducible refine OKr_go ?_; simp [-cellOK, a3, a4, a5, a6, g4, g6, nw_cells, nw_fold, qy_cells, qy_fold, rgsAV]))); repeat' (first | refine awp_seq ?_ | refine awp_block ?_ | (refine awp_skip ?_; try simp) | (refine awp_exit ?_; try simp) | (refine awp_ret ?_; try simp) | (refine retP_same (by simp) ?_; simp) | (refine retP_no (by simp) (by simp [noIds]) (by repeat (first | assumption | exact Ext.refl _ | refine ext_new' ?_ | refine Ext.setF ?_ (by first | assumption | (simp [new_nx', St.set, fresh_none]; done) | exact ext_fresh (by assumption)))) ?_; simp [-cellOK, a3, a4, a5, a6, g4, g6, nw_cells, nw_fold, qy_cells, qy_fold, rgsAV, new_m, set_m, new_nx']) | (refine awp_reg ?_; simp [-cellOK, a3, a4, a5, a6, g4, g6, nw_cells, nw_fold, qy_cells, qy_fold, rgsAV]) | (refine awp_drawT (fun _ => false) mixed (by decide +kernel) ?_; simp [-cellOK, a3, a4, a5, a6, g4, g6, nw_cells, nw_fold, qy_cells, qy_fold, rgsAV]) | (refine guarded_split ?_ ?_ <;> (intro hg; simp only [hg]; simp [-cellOK, a3, a4, a5, a6, g4, g6, nw_cells, nw_fold, qy_cells, qy_fold, rgsAV])) | (apply awp_cond_t; focus (simp [-cellOK, a3, a4, a5, a6, g4, g6, nw_cells, nw_fold, qy_cells, qy_fold, rgsAV]; done)) | (apply awp_cond_f; focus (simp [-cellOK, a3, a4, a5, a6, g4, g6, nw_cells, nw_fold, qy_cells, qy_fold, rgsAV]; done)) | (refine awp_cond ?_; simp [-cellOK, a3, a4, a5, a6, g4, g6, nw_cells, nw_fold, qy_cells, qy_fold, rgsAV]; refine ⟨?_, ?_⟩ <;> intro hc) | (refine awp_drawT isCallO mixed (by decide +kernel) ?_; simp [-cellOK, a3, a4, a5, a6, g4, g6, nw_cells, nw_fold, qy_cells, qy_fold, rgsAV]) | (refine PCalls.use (hso) ?_; simp [-cellOK, a3, a4, a5, a6, g4, g6, nw_cells, nw_fold, qy_cells, qy_fold, rgsAV]) | (refine Or.inl ⟨_, Or.inl (hso), ?_⟩; simp [-cellOK, a3, a4, a5, a6, g4, g6, nw_cells, nw_fold, qy_cells, qy_fold, rgsAV]) | fail)
    refine awp_loopH (fun n' B ρ => Ext σ ρ ∧ B 3 = .pp (nwAV n f).cells 0 ∧ B 4 = .rp i4 0 0 ∧ B 5 = .pp (qyAV q).cells 0 ∧ B 6 = .rp i6 0 0 ∧ ρ.m i4 = some (.buf [nwAV M G]) ∧ ρ.m i6 = some (.buf [vd0AV]) ∧ B 8 = rgsAV P false ∧ B 51 = intsAV Sq false ∧ B 52 = .raw (.int .i64 Sq.length) ∧ ∃ i : Nat, B 53 = .raw (.int .i64 i) ∧ i ≤ Sq.length ∧ n' = Sq.length - i ∧ seeks n M q P (Sq.drop i) = R0) Sq.length ?_ ?_
    · exact ⟨(by repeat (first | assumption | exact Ext.refl _ | refine ext_new' ?_ | refine Ext.setF ?_ (by first | assumption | (simp [new_nx', St.set, fresh_none]; done) | exact ext_fresh (by assumption)))), by simp [a3], by simp [a4], by simp [a5], by simp [a6], g4, g6, by simp [rgsAV], by simp [intsAV], by simp [intsAV], 0, by simp, by omega, by omega, by simpa using hR0⟩
    clear a3 a4 a5 a6 g4 g6 m4 m6 hE2 hE hk2 hR0
    rintro n' B ρ ⟨hE, a3, a4, a5, a6, m4, m6, a8, a51, a52, i, a53, hi, rfl, hR⟩ I1 hI1
    by_cases hlt : i < Sq.length
    · have hx : Sq[i]? = some Sq[i] := List.getElem?_eq_getElem hlt
      have w1 : IntKind.i64.wrap ((i : Int) + 1) = ((i + 1 : Nat) : Int) := by rw [wrap64 (by omega) (by omega)]; omega
      rw [List.drop_eq_getElem_cons hlt] at hR
      obtain ⟨d, hd⟩ : ∃ d, Sq[i] = d := ⟨_, rfl⟩
      rw [hd] at hR
      simp only [seeks] at hR
      (try (first | (with_reducible refine dops_go ?_; simp [-cellOK, a3, a4, a5, a6, a8, a51, a52, a53, m4, m6, hlt, hx, hd, rgsAV, intsAV, iAV]) | (with_reducible refine OKv_go ?_; simp [-cellOK, a3, a4, a5, a6, a8, a51, a52, a53, m4, m6, hlt, hx, hd, rgsAV, intsAV, iAV]) | (with_reducible refine OKr_go ?_; simp [-cellOK, a3, a4, a5, a6, a8, a51, a52, a53, m4, m6, hlt, hx, hd, rgsAV, intsAV, iAV]))); repeat' (first | refine awp_seq ?_ | refine awp_block ?_ | (refine awp_skip ?_; try simp) | (refine awp_exit ?_; try simp) | (refine awp_ret ?_; try simp) | (refine retP_same (by simp) ?_; simp) | (refine retP_no (by simp) (by simp [noIds]) (by repeat (first | assumption | exact Ext.refl _ | refine ext_new' ?_ | refine Ext.setF ?_ (by first | assumption | (simp [new_nx', St.set, fresh_none]; done) | exact ext_fresh (by assumption)))) ?_; simp [-cellOK, a3, a4, a5, a6, a8, a51, a52, a53, m4, m6, hlt, hx, hd, rgsAV, intsAV, iAV, new_m, set_m, new_nx']) | (refine awp_reg ?_; simp [-cellOK, a3, a4, a5, a6, a8, a51, a52, a53, m4, m6, hlt, hx, hd, rgsAV, intsAV, iAV]) | (refine awp_drawT (fun _ => false) mixed (by decide +kernel) ?_; simp [-cellOK, a3, a4, a5, a6, a8, a51, a52, a53, m4, m6, hlt, hx, hd, rgsAV, intsAV, iAV]) | (refine guarded_split ?_ ?_ <;> (intro hg; simp only [hg]; simp [-cellOK, a3, a4, a5, a6, a8, a51, a52, a53, m4, m6, hlt, hx, hd, rgsAV, intsAV, iAV])) | (apply awp_cond_t; focus (simp [-cellOK, a3, a4, a5, a6, a8, a51, a52, a53, m4, m6, hlt, hx, hd, rgsAV, intsAV, iAV]; done)) | (apply awp_cond_f; focus (simp [-cellOK, a3, a4, a5, a6, a8, a51, a52, a53, m4, m6, hlt, hx, hd, rgsAV, intsAV, iAV]; done)) | (refine awp_cond ?_; simp [-cellOK, a3, a4, a5, a6, a8, a51, a52, a53, m4, m6, hlt, hx, hd, rgsAV, intsAV, iAV]; refine ⟨?_, ?_⟩ <;> intro hc) | (refine awp_drawT isCallO mixed (by decide +kernel) ?_; simp [-cellOK, a3, a4, a5, a6, a8, a51, a52, a53, m4, m6, hlt, hx, hd, rgsAV, intsAV, iAV]) | fail)
      refine awp_loopH (fun n' C τ => Ext σ τ ∧ C 3 = .pp (nwAV n f).cells 0 ∧ C 4 = .rp i4 0 0 ∧ C 5 = .pp (qyAV q).cells 0 ∧ C 6 = .rp i6 0 0 ∧ τ.m i4 = some (.buf [nwAV M G]) ∧ τ.m i6 = some (.buf [vd0AV]) ∧ C 8 = rgsAV P false ∧ C 51 = intsAV Sq false ∧ C 52 = .raw (.int .i64 Sq.length) ∧ C 53 = .raw (.int .i64 i) ∧ C 11 = .raw (.int .i64 d) ∧ C 57 = rgsAV P false ∧ C 58 = .raw (.int .i64 P.length) ∧ ∃ j : Nat, C 59 = .raw (.int .i64 j) ∧ j ≤ P.length ∧ n' = P.length - j ∧ seek n M q d P = seek n M q d (P.drop j)) P.length ?_ ?_
      · exact ⟨(by repeat (first | assumption | exact Ext.refl _ | refine ext_new' ?_ | refine Ext.setF ?_ (by first | assumption | (simp [new_nx', St.set, fresh_none]; done) | exact ext_fresh (by assumption)))), by simp [a3], by simp [a4], by simp [a5], by simp [a6], m4, m6, by simp [a8, rgsAV], by simp [a51, intsAV], by simp [a52], by simp [a53], by simp, by simp [rgsAV], by simp, 0, by simp, by omega, by omega, by simp⟩
      clear a3 a4 a5 a6 a8 a51 a52 a53 m4 m6 hE
      rintro n' C τ ⟨hE, a3, a4, a5, a6, m4, m6, a8, a51, a52, a53, a11, a57, a58, j, a59, hj, rfl, hS⟩ J1 hJ1
      by_cases hjl : j < P.length
      · have hy : P[j]? = some P[j] := List.getElem?_eq_getElem hjl
        have w2 : IntKind.i64.wrap ((j : Int) + 1) = ((j + 1 : Nat) : Int) := by rw [wrap64 (by omega) (by omega)]; omega
        rw [List.drop_eq_getElem_cons hjl] at hS
        obtain ⟨r, hr'⟩ : ∃ r, P[j] = r := ⟨_, rfl⟩
        rw [hr'] at hS
        simp only [seek] at hS
        have h1 := trace_calls n f d r.lo hn
        have h2 := trace_calls M G d r.lo hMok
        have l1 := traceR_len n d r.lo
        have l2 := traceR_len M d r.lo
        have l3 := hn.links
        have l4 := hMok.links
        have hb := breaks_calls n M f G q (traceR n d r.lo).1 (traceR M d r.lo).1 false false (by omega) (by omega)
        generalize (traceR n d r.lo).1 = T at h1 hb hS
        generalize (traceR M d r.lo).1 = U at h2 hb hS
        generalize (traceR n d r.lo).2 = eT at h1
        generalize (traceR M d r.lo).2 = eU at h2
        have hrq : ∀ x y : Int, setPart (AV.agg [.raw (.int .u32 0), .raw (.int .u32 0)]) 0 [.raw (.int .u32 x), .raw (.int .u32 y)] = rgAV ⟨x, y⟩ := fun _ _ => rfl
        have hrf : ∀ x y : Int, AV.agg [.raw (.int .u32 x), .raw (.int .u32 y)] = rgAV ⟨x, y⟩ := fun _ _ => rfl
        have hrp : ∀ x y : Int, setPart (rgAV ⟨0, 0⟩) 0 [.raw (.int .u32 x), .raw (.int .u32 y)] = rgAV ⟨x, y⟩ := fun _ _ => rfl
        by_cases hbr : breaksQ q T U = true
        · rw [hbr] at hb
          rw [if_pos hbr] at hS
          rw [hS] at hR
          simp only [] at hR
          subst hR
          (try (first | (with_reducible refine dops_go ?_; simp [-cellOK, a3, a4, a5, a6, a8, a51, a52, a53, a11, a57, a58, a59, m4, m6, hjl, hy, hr', rgsAV, rg_cells, hrq, hrf, hrp, nw_cells, nw_fold, qy_cells, qy_fold, tk_cells, tk_fold, tk_putL, vd0_cells, vd0_put, vd0_putV, vd_cells, vd_fold, new_m, set_m, new_nx', n4, n6, d46, d64]) | (with_reducible refine OKv_go ?_; simp [-cellOK, a3, a4, a5, a6, a8, a51, a52, a53, a11, a57, a58, a59, m4, m6, hjl, hy, hr', rgsAV, rg_cells, hrq, hrf, hrp, nw_cells, nw_fold, qy_cells, qy_fold, tk_cells, tk_fold, tk_putL, vd0_cells, vd0_put, vd0_putV, vd_cells, vd_fold, new_m, set_m, new_nx', n4, n6, d46, d64]) | (with_reducible refine OKr_go ?_; simp [-cellOK, a3, a4, a5, a6, a8, a51, a52, a53, a11, a57, a58, a59, m4, m6, hjl, hy, hr', rgsAV, rg_cells, hrq, hrf, hrp, nw_cells, nw_fold, qy_cells, qy_fold, tk_cells, tk_fold, tk_putL, vd0_cells, vd0_put, vd0_putV, vd_cells, vd_fold, new_m, set_m, new_nx', n4, n6, d46, d64]))); repeat' (first | refine awp_seq ?_ | refine awp_block ?_ | (refine awp_skip ?_; try simp) | (refine awp_exit ?_; try simp) | (refine awp_ret ?_; try simp) | (refine retP_same (by simp) ?_; simp) | (refine retP_no (by simp) (by simp [noIds]) (by repeat (first | assumption | exact Ext.refl _ | refine ext_new' ?_ | refine Ext.setF ?_ (by first | assumption | (simp [new_nx', St.set, fresh_none]; done) | exact ext_fresh (by assumption)))) ?_; simp [-cellOK, a3, a4, a5, a6, a8, a51, a52, a53, a11, a57, a58, a59, m4, m6, hjl, hy, hr', rgsAV, rg_cells, hrq, hrf, hrp, nw_cells, nw_fold, qy_cells, qy_fold, tk_cells, tk_fold, tk_putL, vd0_cells, vd0_put, vd0_putV, vd_cells, vd_fold, new_m, set_m, new_nx', n4, n6, d46, d64, new_m, set_m, new_nx']) | (refine awp_reg ?_; simp [-cellOK, a3, a4, a5, a6, a8, a51, a52, a53, a11, a57, a58, a59, m4, m6, hjl, hy, hr', rgsAV, rg_cells, hrq, hrf, hrp, nw_cells, nw_fold, qy_cells, qy_fold, tk_cells, tk_fold, tk_putL, vd0_cells, vd0_put, vd0_putV, vd_cells, vd_fold, new_m, set_m, new_nx', n4, n6, d46, d64]) | (refine awp_drawT (fun _ => false) mixed (by decide +kernel) ?_; simp [-cellOK, a3, a4, a5, a6, a8, a51, a52, a53, a11, a57, a58, a59, m4, m6, hjl, hy, hr', rgsAV, rg_cells, hrq, hrf, hrp, nw_cells, nw_fold, qy_cells, qy_fold, tk_cells, tk_fold, tk_putL, vd0_cells, vd0_put, vd0_putV, vd_cells, vd_fold, new_m, set_m, new_nx', n4, n6, d46, d64]) | (refine guarded_split ?_ ?_ <;> (intro hg; simp only [hg]; simp [-cellOK, a3, a4, a5, a6, a8, a51, a52, a53, a11, a57, a58, a59, m4, m6, hjl, hy, hr', rgsAV, rg_cells, hrq, hrf, hrp, nw_cells, nw_fold, qy_cells, qy_fold, tk_cells, tk_fold, tk_putL, vd0_cells, vd0_put, vd0_putV, vd_cells, vd_fold, new_m, set_m, new_nx', n4, n6, d46, d64])) | (apply awp_cond_t; focus (simp [-cellOK, a3, a4, a5, a6, a8, a51, a52, a53, a11, a57, a58, a59, m4, m6, hjl, hy, hr', rgsAV, rg_cells, hrq, hrf, hrp, nw_cells, nw_fold, qy_cells, qy_fold, tk_cells, tk_fold, tk_putL, vd0_cells, vd0_put, vd0_putV, vd_cells, vd_fold, new_m, set_m, new_nx', n4, n6, d46, d64]; done)) | (apply awp_cond_f; focus (simp [-cellOK, a3, a4, a5, a6, a8, a51, a52, a53, a11, a57, a58, a59, m4, m6, hjl, hy, hr', rgsAV, rg_cells, hrq, hrf, hrp, nw_cells, nw_fold, qy_cells, qy_fold, tk_cells, tk_fold, tk_putL, vd0_cells, vd0_put, vd0_putV, vd_cells, vd_fold, new_m, set_m, new_nx', n4, n6, d46, d64]; done)) | (refine awp_cond ?_; simp [-cellOK, a3, a4, a5, a6, a8, a51, a52, a53, a11, a57, a58, a59, m4, m6, hjl, hy, hr', rgsAV, rg_cells, hrq, hrf, hrp, nw_cells, nw_fold, qy_cells, qy_fold, tk_cells, tk_fold, tk_putL, vd0_cells, vd0_put, vd0_putV, vd_cells, vd_fold, new_m, set_m, new_nx', n4, n6, d46, d64]; refine ⟨?_, ?_⟩ <;> intro hc) | (refine awp_drawT isCallO mixed (by decide +kernel) ?_; simp [-cellOK, a3, a4, a5, a6, a8, a51, a52, a53, a11, a57, a58, a59, m4, m6, hjl, hy, hr', rgsAV, rg_cells, hrq, hrf, hrp, nw_cells, nw_fold, qy_cells, qy_fold, tk_cells, tk_fold, tk_putL, vd0_cells, vd0_put, vd0_putV, vd_cells, vd_fold, new_m, set_m, new_nx', n4, n6, d46, d64]) | (refine PCalls.use (h1) ?_; simp [-cellOK, a3, a4, a5, a6, a8, a51, a52, a53, a11, a57, a58, a59, m4, m6, hjl, hy, hr', rgsAV, rg_cells, hrq, hrf, hrp, nw_cells, nw_fold, qy_cells, qy_fold, tk_cells, tk_fold, tk_putL, vd0_cells, vd0_put, vd0_putV, vd_cells, vd_fold, new_m, set_m, new_nx', n4, n6, d46, d64]) | (refine Or.inl ⟨_, Or.inl (h1), ?_⟩; simp [-cellOK, a3, a4, a5, a6, a8, a51, a52, a53, a11, a57, a58, a59, m4, m6, hjl, hy, hr', rgsAV, rg_cells, hrq, hrf, hrp, nw_cells, nw_fold, qy_cells, qy_fold, tk_cells, tk_fold, tk_putL, vd0_cells, vd0_put, vd0_putV, vd_cells, vd_fold, new_m, set_m, new_nx', n4, n6, d46, d64]) | (refine PCalls.use (h2) ?_; simp [-cellOK, a3, a4, a5, a6, a8, a51, a52, a53, a11, a57, a58, a59, m4, m6, hjl, hy, hr', rgsAV, rg_cells, hrq, hrf, hrp, nw_cells, nw_fold, qy_cells, qy_fold, tk_cells, tk_fold, tk_putL, vd0_cells, vd0_put, vd0_putV, vd_cells, vd_fold, new_m, set_m, new_nx', n4, n6, d46, d64]) | (refine Or.inl ⟨_, Or.inl (h2), ?_⟩; simp [-cellOK, a3, a4, a5, a6, a8, a51, a52, a53, a11, a57, a58, a59, m4, m6, hjl, hy, hr', rgsAV, rg_cells, hrq, hrf, hrp, nw_cells, nw_fold, qy_cells, qy_fold, tk_cells, tk_fold, tk_putL, vd0_cells, vd0_put, vd0_putV, vd_cells, vd_fold, new_m, set_m, new_nx', n4, n6, d46, d64]) | (refine PCalls.use (hb) ?_; simp [-cellOK, a3, a4, a5, a6, a8, a51, a52, a53, a11, a57, a58, a59, m4, m6, hjl, hy, hr', rgsAV, rg_cells, hrq, hrf, hrp, nw_cells, nw_fold, qy_cells, qy_fold, tk_cells, tk_fold, tk_putL, vd0_cells, vd0_put, vd0_putV, vd_cells, vd_fold, new_m, set_m, new_nx', n4, n6, d46, d64]) | (refine Or.inl ⟨_, Or.inl (hb), ?_⟩; simp [-cellOK, a3, a4, a5, a6, a8, a51, a52, a53, a11, a57, a58, a59, m4, m6, hjl, hy, hr', rgsAV, rg_cells, hrq, hrf, hrp, nw_cells, nw_fold, qy_cells, qy_fold, tk_cells, tk_fold, tk_putL, vd0_cells, vd0_put, vd0_putV, vd_cells, vd_fold, new_m, set_m, new_nx', n4, n6, d46, d64]) | fail)
        · have hbr : breaksQ q T U = false := by simpa using hbr
          rw [hbr] at hb
          rw [hbr, if_neg (by simp)] at hS
          (try (first | (with_reducible refine dops_go ?_; simp [-cellOK, a3, a4, a5, a6, a8, a51, a52, a53, a11, a57, a58, a59, m4, m6, hjl, hy, hr', rgsAV, rg_cells, hrq, hrf, hrp, nw_cells, nw_fold, qy_cells, qy_fold, tk_cells, tk_fold, tk_putL, new_m, set_m, new_nx', n4, n6, d46, d64, w2]) | (with_reducible refine OKv_go ?_; simp [-cellOK, a3, a4, a5, a6, a8, a51, a52, a53, a11, a57, a58, a59, m4, m6, hjl, hy, hr', rgsAV, rg_cells, hrq, hrf, hrp, nw_cells, nw_fold, qy_cells, qy_fold, tk_cells, tk_fold, tk_putL, new_m, set_m, new_nx', n4, n6, d46, d64, w2]) | (with_reducible refine OKr_go ?_; simp [-cellOK, a3, a4, a5, a6, a8, a51, a52, a53, a11, a57, a58, a59, m4, m6, hjl, hy, hr', rgsAV, rg_cells, hrq, hrf, hrp, nw_cells, nw_fold, qy_cells, qy_fold, tk_cells, tk_fold, tk_putL, new_m, set_m, new_nx', n4, n6, d46, d64, w2]))); repeat' (first | refine awp_seq ?_ | refine awp_block ?_ | (refine awp_skip ?_; try simp) | (refine awp_exit ?_; try simp) | (refine awp_ret ?_; try simp) | (refine retP_same (by simp) ?_; simp) | (refine retP_no (by simp) (by simp [noIds]) (by repeat (first | assumption | exact Ext.refl _ | refine ext_new' ?_ | refine Ext.setF ?_ (by first | assumption | (simp [new_nx', St.set, fresh_none]; done) | exact ext_fresh (by assumption)))) ?_; simp [-cellOK, a3, a4, a5, a6, a8, a51, a52, a53, a11, a57, a58, a59, m4, m6, hjl, hy, hr', rgsAV, rg_cells, hrq, hrf, hrp, nw_cells, nw_fold, qy_cells, qy_fold, tk_cells, tk_fold, tk_putL, new_m, set_m, new_nx', n4, n6, d46, d64, w2, new_m, set_m, new_nx']) | (refine awp_reg ?_; simp [-cellOK, a3, a4, a5, a6, a8, a51, a52, a53, a11, a57, a58, a59, m4, m6, hjl, hy, hr', rgsAV, rg_cells, hrq, hrf, hrp, nw_cells, nw_fold, qy_cells, qy_fold, tk_cells, tk_fold, tk_putL, new_m, set_m, new_nx', n4, n6, d46, d64, w2]) | (refine awp_drawT (fun _ => false) mixed (by decide +kernel) ?_; simp [-cellOK, a3, a4, a5, a6, a8, a51, a52, a53, a11, a57, a58, a59, m4, m6, hjl, hy, hr', rgsAV, rg_cells, hrq, hrf, hrp, nw_cells, nw_fold, qy_cells, qy_fold, tk_cells, tk_fold, tk_putL, new_m, set_m, new_nx', n4, n6, d46, d64, w2]) | (refine guarded_split ?_ ?_ <;> (intro hg; simp only [hg]; simp [-cellOK, a3, a4, a5, a6, a8, a51, a52, a53, a11, a57, a58, a59, m4, m6, hjl, hy, hr', rgsAV, rg_cells, hrq, hrf, hrp, nw_cells, nw_fold, qy_cells, qy_fold, tk_cells, tk_fold, tk_putL, new_m, set_m, new_nx', n4, n6, d46, d64, w2])) | (apply awp_cond_t; focus (simp [-cellOK, a3, a4, a5, a6, a8, a51, a52, a53, a11, a57, a58, a59, m4, m6, hjl, hy, hr', rgsAV, rg_cells, hrq, hrf, hrp, nw_cells, nw_fold, qy_cells, qy_fold, tk_cells, tk_fold, tk_putL, new_m, set_m, new_nx', n4, n6, d46, d64, w2]; done)) | (apply awp_cond_f; focus (simp [-cellOK, a3, a4, a5, a6, a8, a51, a52, a53, a11, a57, a58, a59, m4, m6, hjl, hy, hr', rgsAV, rg_cells, hrq, hrf, hrp, nw_cells, nw_fold, qy_cells, qy_fold, tk_cells, tk_fold, tk_putL, new_m, set_m, new_nx', n4, n6, d46, d64, w2]; done)) | (refine awp_cond ?_; simp [-cellOK, a3, a4, a5, a6, a8, a51, a52, a53, a11, a57, a58, a59, m4, m6, hjl, hy, hr', rgsAV, rg_cells, hrq, hrf, hrp, nw_cells, nw_fold, qy_cells, qy_fold, tk_cells, tk_fold, tk_putL, new_m, set_m, new_nx', n4, n6, d46, d64, w2]; refine ⟨?_, ?_⟩ <;> intro hc) | (refine awp_drawT isCallO mixed (by decide +kernel) ?_; simp [-cellOK, a3, a4, a5, a6, a8, a51, a52, a53, a11, a57, a58, a59, m4, m6, hjl, hy, hr', rgsAV, rg_cells, hrq, hrf, hrp, nw_cells, nw_fold, qy_cells, qy_fold, tk_cells, tk_fold, tk_putL, new_m, set_m, new_nx', n4, n6, d46, d64, w2]) | (refine PCalls.use (h1) ?_; simp [-cellOK, a3, a4, a5, a6, a8, a51, a52, a53, a11, a57, a58, a59, m4, m6, hjl, hy, hr', rgsAV, rg_cells, hrq, hrf, hrp, nw_cells, nw_fold, qy_cells, qy_fold, tk_cells, tk_fold, tk_putL, new_m, set_m, new_nx', n4, n6, d46, d64, w2]) | (refine Or.inl ⟨_, Or.inl (h1), ?_⟩; simp [-cellOK, a3, a4, a5, a6, a8, a51, a52, a53, a11, a57, a58, a59, m4, m6, hjl, hy, hr', rgsAV, rg_cells, hrq, hrf, hrp, nw_cells, nw_fold, qy_cells, qy_fold, tk_cells, tk_fold, tk_putL, new_m, set_m, new_nx', n4, n6, d46, d64, w2]) | (refine PCalls.use (h2) ?_; simp [-cellOK, a3, a4, a5, a6, a8, a51, a52, a53, a11, a57, a58, a59, m4, m6, hjl, hy, hr', rgsAV, rg_cells, hrq, hrf, hrp, nw_cells, nw_fold, qy_cells, qy_fold, tk_cells, tk_fold, tk_putL, new_m, set_m, new_nx', n4, n6, d46, d64, w2]) | (refine Or.inl ⟨_, Or.inl (h2), ?_⟩; simp [-cellOK, a3, a4, a5, a6, a8, a51, a52, a53, a11, a57, a58, a59, m4, m6, hjl, hy, hr', rgsAV, rg_cells, hrq, hrf, hrp, nw_cells, nw_fold, qy_cells, qy_fold, tk_cells, tk_fold, tk_putL, new_m, set_m, new_nx', n4, n6, d46, d64, w2]) | (refine PCalls.use (hb) ?_; simp [-cellOK, a3, a4, a5, a6, a8, a51, a52, a53, a11, a57, a58, a59, m4, m6, hjl, hy, hr', rgsAV, rg_cells, hrq, hrf, hrp, nw_cells, nw_fold, qy_cells, qy_fold, tk_cells, tk_fold, tk_putL, new_m, set_m, new_nx', n4, n6, d46, d64, w2]) | (refine Or.inl ⟨_, Or.inl (hb), ?_⟩; simp [-cellOK, a3, a4, a5, a6, a8, a51, a52, a53, a11, a57, a58, a59, m4, m6, hjl, hy, hr', rgsAV, rg_cells, hrq, hrf, hrp, nw_cells, nw_fold, qy_cells, qy_fold, tk_cells, tk_fold, tk_putL, new_m, set_m, new_nx', n4, n6, d46, d64, w2]) | fail)
          refine hJ1 (P.length - (j + 1)) _ _ (by omega) ⟨(by repeat (first | assumption | exact Ext.refl _ | refine ext_new' ?_ | refine Ext.setF ?_ (by first | assumption | (simp [new_nx', St.set, fresh_none]; done) | exact ext_fresh (by assumption)))), by simp [a3], by simp [a4], by simp [a5], by simp [a6], ?_, ?_, by simp [a8, rgsAV], by simp [a51], by simp [a52], by simp [a53], by simp [a11], by simp [a57, rgsAV], by simp [a58], j + 1, by simp, by omega, rfl, hS⟩
          · simp [new_m, set_m, new_nx', n4, m4]
          · simp [new_m, set_m, new_nx', n6, m6]
      · have : j = P.length := by omega
        subst this
        rw [List.drop_length] at hS
        rw [hS] at hR
        simp only [seek] at hR
        (try (first | (with_reducible refine dops_go ?_; simp [-cellOK, a3, a4, a5, a6, a8, a51, a52, a53, a11, a57, a58, a59, w1]) | (with_reducible refine OKv_go ?_; simp [-cellOK, a3, a4, a5, a6, a8, a51, a52, a53, a11, a57, a58, a59, w1]) | (with_reducible refine OKr_go ?_; simp [-cellOK, a3, a4, a5, a6, a8, a51, a52, a53, a11, a57, a58, a59, w1]))); repeat' (first | refine awp_seq ?_ | refine awp_block ?_ | (refine awp_skip ?_; try simp) | (refine awp_exit ?_; try simp) | (refine awp_ret ?_; try simp) | (refine retP_same (by simp) ?_; simp) | (refine retP_no (by simp) (by simp [noIds]) (by repeat (first | assumption | exact Ext.refl _ | refine ext_new' ?_ | refine Ext.setF ?_ (by first | assumption | (simp [new_nx', St.set, fresh_none]; done) | exact ext_fresh (by assumption)))) ?_; simp [-cellOK, a3, a4, a5, a6, a8, a51, a52, a53, a11, a57, a58, a59, w1, new_m, set_m, new_nx']) | (refine awp_reg ?_; simp [-cellOK, a3, a4, a5, a6, a8, a51, a52, a53, a11, a57, a58, a59, w1]) | (refine awp_drawT (fun _ => false) mixed (by decide +kernel) ?_; simp [-cellOK, a3, a4, a5, a6, a8, a51, a52, a53, a11, a57, a58, a59, w1]) | (refine guarded_split ?_ ?_ <;> (intro hg; simp only [hg]; simp [-cellOK, a3, a4, a5, a6, a8, a51, a52, a53, a11, a57, a58, a59, w1])) | (apply awp_cond_t; focus (simp [-cellOK, a3, a4, a5, a6, a8, a51, a52, a53, a11, a57, a58, a59, w1]; done)) | (apply awp_cond_f; focus (simp [-cellOK, a3, a4, a5, a6, a8, a51, a52, a53, a11, a57, a58, a59, w1]; done)) | (refine awp_cond ?_; simp [-cellOK, a3, a4, a5, a6, a8, a51, a52, a53, a11, a57, a58, a59, w1]; refine ⟨?_, ?_⟩ <;> intro hc) | (refine awp_drawT isCallO mixed (by decide +kernel) ?_; simp [-cellOK, a3, a4, a5, a6, a8, a51, a52, a53, a11, a57, a58, a59, w1]) | fail)
        exact hI1 (Sq.length - (i + 1)) _ _ (by omega) ⟨hE, by simp [a3], by simp [a4], by simp [a5], by simp [a6], m4, m6, by simp [a8], by simp [a51], by simp [a52], i + 1, by simp, by omega, rfl, hR⟩
    · have : i = Sq.length := by omega
      subst this
      rw [List.drop_length] at hR
      simp only [seeks] at hR
      subst hR
      (try (first | (with_reducible refine dops_go ?_; simp [-cellOK, a3, a4, a5, a6, a8, a51, a52, a53, m6, vd0_cells, vd0_put]) | (with_reducible refine OKv_go ?_; simp [-cellOK, a3, a4, a5, a6, a8, a51, a52, a53, m6, vd0_cells, vd0_put]) | (with_reducible refine OKr_go ?_; simp [-cellOK, a3, a4, a5, a6, a8, a51, a52, a53, m6, vd0_cells, vd0_put]))); repeat' (first | refine awp_seq ?_ | refine awp_block ?_ | (refine awp_skip ?_; try simp) | (refine awp_exit ?_; try simp) | (refine awp_ret ?_; try simp) | (refine awp_reg ?_; simp [-cellOK, a3, a4, a5, a6, a8, a51, a52, a53, m6, vd0_cells, vd0_put]) | (refine awp_drawT (fun _ => false) mixed (by decide +kernel) ?_; simp [-cellOK, a3, a4, a5, a6, a8, a51, a52, a53, m6, vd0_cells, vd0_put]) | (refine guarded_split ?_ ?_ <;> (intro hg; simp only [hg]; simp [-cellOK, a3, a4, a5, a6, a8, a51, a52, a53, m6, vd0_cells, vd0_put])) | (apply awp_cond_t; focus (simp [-cellOK, a3, a4, a5, a6, a8, a51, a52, a53, m6, vd0_cells, vd0_put]; done)) | (apply awp_cond_f; focus (simp [-cellOK, a3, a4, a5, a6, a8, a51, a52, a53, m6, vd0_cells, vd0_put]; done)) | (refine awp_cond ?_; simp [-cellOK, a3, a4, a5, a6, a8, a51, a52, a53, m6, vd0_cells, vd0_put]; refine ⟨?_, ?_⟩ <;> intro hc) | (refine awp_drawT isCallO mixed (by decide +kernel) ?_; simp [-cellOK, a3, a4, a5, a6, a8, a51, a52, a53, m6, vd0_cells, vd0_put]) | fail)
      refine retP_weak (x := .tup [.agg [.raw (.bool true), .raw (.int .i64 0), .raw (.int .u32 0), .sl 0 [] true, .raw (.int .i64 0), .raw (.int .i64 0), .raw (.int .i64 0)], .raw (.int .i64 0)]) (.inr rfl) (Ext.setF hE f6) ?_ ?_
      · simp [set_m, m6, a6]
      · simpa [giveUps, giveUp] using weaker_vd true 0
/-- Are two verdicts alike? -/
theorem vdSame_calls (x y : Vd) (f g : Bool) (hx : x.tr.path.length < 2 ^ 60) (hy : y.tr.path.length < 2 ^ 60) : PCalls Try.prog 14 [vdAV x f, vdAV y g] (.raw (.bool (decide (x = y)))) := by
  have h := tkSame_calls x.tr y.tr f g hx hy
  have e : decide (x = y) = (decide (x.holds = y.holds) && (decide (x.src = y.src) && (decide (x.addr = y.addr) && decide (x.tr = y.tr)))) := by
    cases x; cases y; rw [Bool.eq_iff_iff]; simp
  rw [e]
  generalize decide (x.tr = y.tr) = b at h ⊢
  refine pbody Try.func14 rfl (N := 31) rfl rfl (by simp) (by simp [noIds]) fun σ => ?_
  have hb : (x.holds == y.holds) = decide (x.holds = y.holds) := by cases x.holds <;> cases y.holds <;> rfl
  by_cases h1 : x.holds = y.holds <;> by_cases h2 : x.src = y.src <;> by_cases h3 : x.addr = y.addr <;> ((try (first | (with_reducible refine dops_go ?_; simp [-cellOK, vd_cells, tk_fold, hb, h1, h2, h3]) | (with_reducible refine OKv_go ?_; simp [-cellOK, vd_cells, tk_fold, hb, h1, h2, h3]) | (with_reducible refine OKr_go ?_; simp [-cellOK, vd_cells, tk_fold, hb, h1, h2, h3]))); repeat' (first | refine awp_seq ?_ | refine awp_block ?_ | (refine awp_skip ?_; try simp) | (refine awp_exit ?_; try simp) | (refine awp_ret ?_; try simp) | (refine retP_same (by simp) ?_; simp) | (refine retP_no (by simp) (by simp [noIds]) (by repeat (first | assumption | exact Ext.refl _ | refine ext_new' ?_ | refine Ext.setF ?_ (by first | assumption | (simp [new_nx', St.set, fresh_none]; done) | exact ext_fresh (by assumption)))) ?_; simp [-cellOK, vd_cells, tk_fold, hb, h1, h2, h3, new_m, set_m, new_nx']) | (refine awp_reg ?_; simp [-cellOK, vd_cells, tk_fold, hb, h1, h2, h3]) | (refine awp_drawT (fun _ => false) mixed (by decide +kernel) ?_; simp [-cellOK, vd_cells, tk_fold, hb, h1, h2, h3]) | (refine guarded_split ?_ ?_ <;> (intro hg; simp only [hg]; simp [-cellOK, vd_cells, tk_fold, hb, h1, h2, h3])) | (apply awp_cond_t; focus (simp [-cellOK, vd_cells, tk_fold, hb, h1, h2, h3]; done)) | (apply awp_cond_f; focus (simp [-cellOK, vd_cells, tk_fold, hb, h1, h2, h3]; done)) | (refine awp_cond ?_; simp [-cellOK, vd_cells, tk_fold, hb, h1, h2, h3]; refine ⟨?_, ?_⟩ <;> intro hc) | (refine awp_drawT isCallO mixed (by decide +kernel) ?_; simp [-cellOK, vd_cells, tk_fold, hb, h1, h2, h3]) | (refine PCalls.use (h) ?_; simp [-cellOK, vd_cells, tk_fold, hb, h1, h2, h3]) | (refine Or.inl ⟨_, Or.inl (h), ?_⟩; simp [-cellOK, vd_cells, tk_fold, hb, h1, h2, h3]) | fail))
end Go.Proofs.Ytanimmdlgmkmkaa.Av

/- Networks: right networks. -/
namespace Go.Proofs.Ytanimmdlgmkmkaa.Av
open Go
set_option linter.unusedSimpArgs false
set_option linter.unusedVariables false
set_option maxRecDepth 100000
set_option maxHeartbeats 2000000
set_option pp.maxSteps 300

def rightN (n : Nw) : Bool := rightT n.t && (allB n.rules && fitsB n.t n.rules)
theorem rightN_calls (n : Nw) (f : Fl) (hl : n.t.ports.length < 2 ^ 60) (hl2 : n.t.links.length < 2 ^ 40) (hl3 : n.rules.length < 2 ^ 40) : PCalls Try.prog 46 [nwAV n f] (.raw (.bool (rightN n))) := by
  have h1 := right_calls n.t f hl hl2
  have h2 := all_calls n.rules f.r hl3
  have h3 := fits_calls n.t f n.rules f.r hl (by omega)
  unfold rightN
  obtain ⟨b1, q1⟩ : ∃ b, rightT n.t = b := ⟨_, rfl⟩
  obtain ⟨b2, q2⟩ : ∃ b, allB n.rules = b := ⟨_, rfl⟩
  obtain ⟨b3, q3⟩ : ∃ b, fitsB n.t n.rules = b := ⟨_, rfl⟩
  rw [q1] at h1 ⊢
  rw [q2] at h2 ⊢
  rw [q3] at h3 ⊢
  refine pbody Try.func46 rfl (N := 18) rfl rfl (by simp) (by simp [noIds]) fun σ => ?_
  have ho1 : cellOK (intsAV n.t.ports f.p) = true := rfl
  have ho2 : cellOK (linksAV n.t.links f.l) = true := rfl
  have ho3 : cellOK (rulesAV n.rules f.r) = true := rfl
  simp only [cellOK] at ho1 ho2 ho3
  have hnf : AV.agg [intsAV n.t.ports f.p, linksAV n.t.links f.l] = tpAV n.t f := rfl
  (try (first | (with_reducible refine dops_go ?_; simp [nw_cells, ho1, ho2, ho3, hnf]) | (with_reducible refine OKv_go ?_; simp [nw_cells, ho1, ho2, ho3, hnf]) | (with_reducible refine OKr_go ?_; simp [nw_cells, ho1, ho2, ho3, hnf]))); repeat' (first | refine awp_seq ?_ | refine awp_block ?_ | (refine awp_skip ?_; try simp) | (refine awp_exit ?_; try simp) | (refine awp_ret ?_; try simp) | (refine retP_same (by simp) ?_; simp) | (refine retP_flat (by simp) (by simp) (by simp (maxDischargeDepth := 30) [nw_cells, ho1, ho2, ho3, hnf]) ?_; simp) | (refine awp_reg ?_; simp [nw_cells, ho1, ho2, ho3, hnf]) | (refine awp_drawT (fun _ => false) mixed (by decide +kernel) ?_; simp [nw_cells, ho1, ho2, ho3, hnf]) | (refine guarded_split ?_ ?_ <;> (intro hg; simp only [hg]; simp [nw_cells, ho1, ho2, ho3, hnf])) | (apply awp_cond_t; focus (simp [nw_cells, ho1, ho2, ho3, hnf]; done)) | (apply awp_cond_f; focus (simp [nw_cells, ho1, ho2, ho3, hnf]; done)) | (refine awp_cond ?_; simp [nw_cells, ho1, ho2, ho3, hnf]; refine ⟨?_, ?_⟩ <;> intro hc))
  refine PCalls.use h1 ?_
  cases b1 with
  | false => (try (first | (with_reducible refine dops_go ?_; simp [nw_cells, ho1, ho2, ho3, hnf]) | (with_reducible refine OKv_go ?_; simp [nw_cells, ho1, ho2, ho3, hnf]) | (with_reducible refine OKr_go ?_; simp [nw_cells, ho1, ho2, ho3, hnf]))); repeat' (first | refine awp_seq ?_ | refine awp_block ?_ | (refine awp_skip ?_; try simp) | (refine awp_exit ?_; try simp) | (refine awp_ret ?_; try simp) | (refine retP_same (by simp) ?_; simp) | (refine retP_flat (by simp) (by simp) (by simp (maxDischargeDepth := 30) [nw_cells, ho1, ho2, ho3, hnf]) ?_; simp) | (refine awp_reg ?_; simp [nw_cells, ho1, ho2, ho3, hnf]) | (refine awp_drawT (fun _ => false) mixed (by decide +kernel) ?_; simp [nw_cells, ho1, ho2, ho3, hnf]) | (refine guarded_split ?_ ?_ <;> (intro hg; simp only [hg]; simp [nw_cells, ho1, ho2, ho3, hnf])) | (apply awp_cond_t; focus (simp [nw_cells, ho1, ho2, ho3, hnf]; done)) | (apply awp_cond_f; focus (simp [nw_cells, ho1, ho2, ho3, hnf]; done)) | (refine awp_cond ?_; simp [nw_cells, ho1, ho2, ho3, hnf]; refine ⟨?_, ?_⟩ <;> intro hc))
  | true =>
    (try (first | (with_reducible refine dops_go ?_; simp [nw_cells, ho1, ho2, ho3, hnf]) | (with_reducible refine OKv_go ?_; simp [nw_cells, ho1, ho2, ho3, hnf]) | (with_reducible refine OKr_go ?_; simp [nw_cells, ho1, ho2, ho3, hnf]))); repeat' (first | refine awp_seq ?_ | refine awp_block ?_ | (refine awp_skip ?_; try simp) | (refine awp_exit ?_; try simp) | (refine awp_ret ?_; try simp) | (refine retP_same (by simp) ?_; simp) | (refine retP_flat (by simp) (by simp) (by simp (maxDischargeDepth := 30) [nw_cells, ho1, ho2, ho3, hnf]) ?_; simp) | (refine awp_reg ?_; simp [nw_cells, ho1, ho2, ho3, hnf]) | (refine awp_drawT (fun _ => false) mixed (by decide +kernel) ?_; simp [nw_cells, ho1, ho2, ho3, hnf]) | (refine guarded_split ?_ ?_ <;> (intro hg; simp only [hg]; simp [nw_cells, ho1, ho2, ho3, hnf])) | (apply awp_cond_t; focus (simp [nw_cells, ho1, ho2, ho3, hnf]; done)) | (apply awp_cond_f; focus (simp [nw_cells, ho1, ho2, ho3, hnf]; done)) | (refine awp_cond ?_; simp [nw_cells, ho1, ho2, ho3, hnf]; refine ⟨?_, ?_⟩ <;> intro hc))
    refine PCalls.use h2 ?_
    cases b2 with
    | false => (try (first | (with_reducible refine dops_go ?_; simp [nw_cells, ho1, ho2, ho3, hnf]) | (with_reducible refine OKv_go ?_; simp [nw_cells, ho1, ho2, ho3, hnf]) | (with_reducible refine OKr_go ?_; simp [nw_cells, ho1, ho2, ho3, hnf]))); repeat' (first | refine awp_seq ?_ | refine awp_block ?_ | (refine awp_skip ?_; try simp) | (refine awp_exit ?_; try simp) | (refine awp_ret ?_; try simp) | (refine retP_same (by simp) ?_; simp) | (refine retP_flat (by simp) (by simp) (by simp (maxDischargeDepth := 30) [nw_cells, ho1, ho2, ho3, hnf]) ?_; simp) | (refine awp_reg ?_; simp [nw_cells, ho1, ho2, ho3, hnf]) | (refine awp_drawT (fun _ => false) mixed (by decide +kernel) ?_; simp [nw_cells, ho1, ho2, ho3, hnf]) | (refine guarded_split ?_ ?_ <;> (intro hg; simp only [hg]; simp [nw_cells, ho1, ho2, ho3, hnf])) | (apply awp_cond_t; focus (simp [nw_cells, ho1, ho2, ho3, hnf]; done)) | (apply awp_cond_f; focus (simp [nw_cells, ho1, ho2, ho3, hnf]; done)) | (refine awp_cond ?_; simp [nw_cells, ho1, ho2, ho3, hnf]; refine ⟨?_, ?_⟩ <;> intro hc))
    | true =>
      (try (first | (with_reducible refine dops_go ?_; simp [nw_cells, ho1, ho2, ho3, hnf]) | (with_reducible refine OKv_go ?_; simp [nw_cells, ho1, ho2, ho3, hnf]) | (with_reducible refine OKr_go ?_; simp [nw_cells, ho1, ho2, ho3, hnf]))); repeat' (first | refine awp_seq ?_ | refine awp_block ?_ | (refine awp_skip ?_; try simp) | (refine awp_exit ?_; try simp) | (refine awp_ret ?_; try simp) | (refine retP_same (by simp) ?_; simp) | (refine retP_flat (by simp) (by simp) (by simp (maxDischargeDepth := 30) [nw_cells, ho1, ho2, ho3, hnf]) ?_; simp) | (refine awp_reg ?_; simp [nw_cells, ho1, ho2, ho3, hnf]) | (refine awp_drawT (fun _ => false) mixed (by decide +kernel) ?_; simp [nw_cells, ho1, ho2, ho3, hnf]) | (refine guarded_split ?_ ?_ <;> (intro hg; simp only [hg]; simp [nw_cells, ho1, ho2, ho3, hnf])) | (apply awp_cond_t; focus (simp [nw_cells, ho1, ho2, ho3, hnf]; done)) | (apply awp_cond_f; focus (simp [nw_cells, ho1, ho2, ho3, hnf]; done)) | (refine awp_cond ?_; simp [nw_cells, ho1, ho2, ho3, hnf]; refine ⟨?_, ?_⟩ <;> intro hc))
      refine PCalls.use h3 ?_
      (try (first | (with_reducible refine dops_go ?_; simp [nw_cells, ho1, ho2, ho3, hnf]) | (with_reducible refine OKv_go ?_; simp [nw_cells, ho1, ho2, ho3, hnf]) | (with_reducible refine OKr_go ?_; simp [nw_cells, ho1, ho2, ho3, hnf]))); repeat' (first | refine awp_seq ?_ | refine awp_block ?_ | (refine awp_skip ?_; try simp) | (refine awp_exit ?_; try simp) | (refine awp_ret ?_; try simp) | (refine retP_same (by simp) ?_; simp) | (refine retP_flat (by simp) (by simp) (by simp (maxDischargeDepth := 30) [nw_cells, ho1, ho2, ho3, hnf]) ?_; simp) | (refine awp_reg ?_; simp [nw_cells, ho1, ho2, ho3, hnf]) | (refine awp_drawT (fun _ => false) mixed (by decide +kernel) ?_; simp [nw_cells, ho1, ho2, ho3, hnf]) | (refine guarded_split ?_ ?_ <;> (intro hg; simp only [hg]; simp [nw_cells, ho1, ho2, ho3, hnf])) | (apply awp_cond_t; focus (simp [nw_cells, ho1, ho2, ho3, hnf]; done)) | (apply awp_cond_f; focus (simp [nw_cells, ho1, ho2, ho3, hnf]; done)) | (refine awp_cond ?_; simp [nw_cells, ho1, ho2, ho3, hnf]; refine ⟨?_, ?_⟩ <;> intro hc))
end Go.Proofs.Ytanimmdlgmkmkaa.Av

/- Networks: the document's step. -/
namespace Go.Proofs.Ytanimmdlgmkmkaa.Av
open Go
set_option linter.unusedSimpArgs false
set_option linter.unusedVariables false
set_option maxRecDepth 100000
set_option maxHeartbeats 2000000
set_option pp.maxSteps 600

/-- The step as the document says it. -/
def refStepF (n : Nw) (d a : Int) : Int × Pt :=
  if refDeniesB n.rules d a = true then (2, ⟨0, 0⟩) else if n.rules.any (refP d a false) = false then (0, ⟨0, 0⟩) else if (minR (n.rules.filter (refP d a false))).kind = 1 then (1, ⟨0, 0⟩)
  else if (refNextL n.t.links ⟨d, (minR (n.rules.filter (refP d a false))).port⟩).isSome = true then (4, ⟨d, (minR (n.rules.filter (refP d a false))).port⟩) else (3, ⟨d, (minR (n.rules.filter (refP d a false))).port⟩)
theorem refStep_calls (n : Nw) (f : Fl) (d a : Int) (hl : n.t.links.length < 2 ^ 60) (hl2 : n.rules.length < 2 ^ 40) :
    PCalls Try.prog 53 [nwAV n f, .raw (.int .i64 d), .raw (.int .u32 a)] (.tup [.raw (.int .i64 (refStepF n d a).1), ptAV (refStepF n d a).2]) := by
  have hd := refDenies_calls n.rules f.r d a hl2
  have hm := refMatch_calls n.rules f.r d a hl2
  have hn := fun p => refNext_calls n.t f p hl
  unfold refStepF
  obtain ⟨b1, h1⟩ : ∃ b, refDeniesB n.rules d a = b := ⟨_, rfl⟩
  obtain ⟨b2, h2⟩ : ∃ b, n.rules.any (refP d a false) = b := ⟨_, rfl⟩
  obtain ⟨r, hr⟩ : ∃ r, minR (n.rules.filter (refP d a false)) = r := ⟨_, rfl⟩
  rw [h1] at hd
  rw [h2, hr] at hm
  rw [h1, h2, hr]
  clear h1 h2 hr
  have hn := hn ⟨d, r.port⟩
  obtain ⟨b3, h3⟩ : ∃ b, (refNextL n.t.links ⟨d, r.port⟩).isSome = b := ⟨_, rfl⟩
  obtain ⟨q, hq⟩ : ∃ q, (refNextL n.t.links ⟨d, r.port⟩).getD ⟨0, 0⟩ = q := ⟨_, rfl⟩
  rw [h3, hq] at hn
  rw [h3]
  refine pbody Try.func53 rfl (N := 50) rfl rfl (by simp) (by simp [noIds, ptAV]) fun σ => ?_
  have ho1 : cellOK (intsAV n.t.ports f.p) = true := rfl
  have ho2 : cellOK (linksAV n.t.links f.l) = true := rfl
  have ho3 : cellOK (rulesAV n.rules f.r) = true := rfl
  simp only [cellOK] at ho1 ho2 ho3
  have hpf : ∀ x y : Int, AV.agg [.raw (.int .i64 x), .raw (.int .i64 y)] = ptAV ⟨x, y⟩ := fun _ _ => rfl
  have hpc : ∀ q : Pt, (ptAV q).cells = [.raw (.int .i64 q.dev), .raw (.int .i64 q.port)] := fun q => rfl
  have hps : ∀ (q : Pt) (x y : Int), setPart (ptAV q) 0 [.raw (.int .i64 x), .raw (.int .i64 y)] = ptAV ⟨x, y⟩ := fun _ _ _ => rfl
  have f7 : σ.m ⟨7, σ.nx 7, 2⟩ = none := fresh_none _ _ _
  have hnf : AV.agg [intsAV n.t.ports f.p, linksAV n.t.links f.l] = tpAV n.t f := rfl
  (try (first | (with_reducible refine dops_go ?_; simp [nw_cells, ho1, ho2, ho3, hpf, hpc, hps]) | (with_reducible refine OKv_go ?_; simp [nw_cells, ho1, ho2, ho3, hpf, hpc, hps]) | (with_reducible refine OKr_go ?_; simp [nw_cells, ho1, ho2, ho3, hpf, hpc, hps]))); repeat' (first | refine awp_seq ?_ | refine awp_block ?_ | (refine awp_skip ?_; try simp) | (refine awp_exit ?_; try simp) | (refine awp_ret ?_; try simp) | (refine retP_same (by simp) ?_; simp) | (refine retP_flat (by simp) (by simp) (by simp (maxDischargeDepth := 30) [nw_cells, ho1, ho2, ho3, hpf, hpc, hps]) ?_; simp) | (refine awp_reg ?_; simp [nw_cells, ho1, ho2, ho3, hpf, hpc, hps]) | (refine awp_drawT (fun _ => false) mixed (by decide +kernel) ?_; simp [nw_cells, ho1, ho2, ho3, hpf, hpc, hps]) | (refine guarded_split ?_ ?_ <;> (intro hg; simp only [hg]; simp [nw_cells, ho1, ho2, ho3, hpf, hpc, hps])) | (apply awp_cond_t; focus (simp [nw_cells, ho1, ho2, ho3, hpf, hpc, hps]; done)) | (apply awp_cond_f; focus (simp [nw_cells, ho1, ho2, ho3, hpf, hpc, hps]; done)) | (refine awp_cond ?_; simp [nw_cells, ho1, ho2, ho3, hpf, hpc, hps]; refine ⟨?_, ?_⟩ <;> intro hc))
  refine PCalls.use hd ?_
  cases b1 with
  | true =>
    (try (first | (with_reducible refine dops_go ?_; simp [nw_cells, ho1, ho2, ho3, hpf, hpc, hps]) | (with_reducible refine OKv_go ?_; simp [nw_cells, ho1, ho2, ho3, hpf, hpc, hps]) | (with_reducible refine OKr_go ?_; simp [nw_cells, ho1, ho2, ho3, hpf, hpc, hps]))); repeat' (first | refine awp_seq ?_ | refine awp_block ?_ | (refine awp_skip ?_; try simp) | (refine awp_exit ?_; try simp) | (refine awp_ret ?_; try simp) | (refine awp_reg ?_; simp [nw_cells, ho1, ho2, ho3, hpf, hpc, hps]) | (refine awp_drawT (fun _ => false) mixed (by decide +kernel) ?_; simp [nw_cells, ho1, ho2, ho3, hpf, hpc, hps]) | (refine guarded_split ?_ ?_ <;> (intro hg; simp only [hg]; simp [nw_cells, ho1, ho2, ho3, hpf, hpc, hps])) | (apply awp_cond_t; focus (simp [nw_cells, ho1, ho2, ho3, hpf, hpc, hps]; done)) | (apply awp_cond_f; focus (simp [nw_cells, ho1, ho2, ho3, hpf, hpc, hps]; done)) | (refine awp_cond ?_; simp [nw_cells, ho1, ho2, ho3, hpf, hpc, hps]; refine ⟨?_, ?_⟩ <;> intro hc))
    refine retP_flat (.inr rfl) rfl (by repeat (first | exact Ext.refl _ | refine ext_new' ?_ | refine Ext.setF ?_ (by simp [new_nx', St.set, fresh_none]))) ?_
    simp [St.set, St.new, hpc, hpf, hps]
  | false =>
    (try (first | (with_reducible refine dops_go ?_; simp [nw_cells, ho1, ho2, ho3, hpf, hpc, hps]) | (with_reducible refine OKv_go ?_; simp [nw_cells, ho1, ho2, ho3, hpf, hpc, hps]) | (with_reducible refine OKr_go ?_; simp [nw_cells, ho1, ho2, ho3, hpf, hpc, hps]))); repeat' (first | refine awp_seq ?_ | refine awp_block ?_ | (refine awp_skip ?_; try simp) | (refine awp_exit ?_; try simp) | (refine awp_ret ?_; try simp) | (refine retP_same (by simp) ?_; simp) | (refine retP_flat (by simp) (by simp) (by simp (maxDischargeDepth := 30) [nw_cells, ho1, ho2, ho3, hpf, hpc, hps]) ?_; simp) | (refine awp_reg ?_; simp [nw_cells, ho1, ho2, ho3, hpf, hpc, hps]) | (refine awp_drawT (fun _ => false) mixed (by decide +kernel) ?_; simp [nw_cells, ho1, ho2, ho3, hpf, hpc, hps]) | (refine guarded_split ?_ ?_ <;> (intro hg; simp only [hg]; simp [nw_cells, ho1, ho2, ho3, hpf, hpc, hps])) | (apply awp_cond_t; focus (simp [nw_cells, ho1, ho2, ho3, hpf, hpc, hps]; done)) | (apply awp_cond_f; focus (simp [nw_cells, ho1, ho2, ho3, hpf, hpc, hps]; done)) | (refine awp_cond ?_; simp [nw_cells, ho1, ho2, ho3, hpf, hpc, hps]; refine ⟨?_, ?_⟩ <;> intro hc))
    refine PCalls.use hm ?_
    cases b2 with
    | false =>
      (try (first | (with_reducible refine dops_go ?_; simp [nw_cells, ho1, ho2, ho3, hpf, hpc, hps, ru_cells, ru_ok, ru_fold]) | (with_reducible refine OKv_go ?_; simp [nw_cells, ho1, ho2, ho3, hpf, hpc, hps, ru_cells, ru_ok, ru_fold]) | (with_reducible refine OKr_go ?_; simp [nw_cells, ho1, ho2, ho3, hpf, hpc, hps, ru_cells, ru_ok, ru_fold]))); repeat' (first | refine awp_seq ?_ | refine awp_block ?_ | (refine awp_skip ?_; try simp) | (refine awp_exit ?_; try simp) | (refine awp_ret ?_; try simp) | (refine awp_reg ?_; simp [nw_cells, ho1, ho2, ho3, hpf, hpc, hps, ru_cells, ru_ok, ru_fold]) | (refine awp_drawT (fun _ => false) mixed (by decide +kernel) ?_; simp [nw_cells, ho1, ho2, ho3, hpf, hpc, hps, ru_cells, ru_ok, ru_fold]) | (refine guarded_split ?_ ?_ <;> (intro hg; simp only [hg]; simp [nw_cells, ho1, ho2, ho3, hpf, hpc, hps, ru_cells, ru_ok, ru_fold])) | (apply awp_cond_t; focus (simp [nw_cells, ho1, ho2, ho3, hpf, hpc, hps, ru_cells, ru_ok, ru_fold]; done)) | (apply awp_cond_f; focus (simp [nw_cells, ho1, ho2, ho3, hpf, hpc, hps, ru_cells, ru_ok, ru_fold]; done)) | (refine awp_cond ?_; simp [nw_cells, ho1, ho2, ho3, hpf, hpc, hps, ru_cells, ru_ok, ru_fold]; refine ⟨?_, ?_⟩ <;> intro hc))
      refine retP_flat (.inr rfl) rfl (by repeat (first | exact Ext.refl _ | refine ext_new' ?_ | refine Ext.setF ?_ (by simp [new_nx', St.set, fresh_none]))) ?_
      simp [St.set, St.new, hpc, hpf, hps]
    | true =>
      by_cases hk : r.kind = 1
      · (try (first | (with_reducible refine dops_go ?_; simp [nw_cells, ho1, ho2, ho3, hpf, hpc, hps, ru_cells, ru_ok, ru_fold, hk]) | (with_reducible refine OKv_go ?_; simp [nw_cells, ho1, ho2, ho3, hpf, hpc, hps, ru_cells, ru_ok, ru_fold, hk]) | (with_reducible refine OKr_go ?_; simp [nw_cells, ho1, ho2, ho3, hpf, hpc, hps, ru_cells, ru_ok, ru_fold, hk]))); repeat' (first | refine awp_seq ?_ | refine awp_block ?_ | (refine awp_skip ?_; try simp) | (refine awp_exit ?_; try simp) | (refine awp_ret ?_; try simp) | (refine awp_reg ?_; simp [nw_cells, ho1, ho2, ho3, hpf, hpc, hps, ru_cells, ru_ok, ru_fold, hk]) | (refine awp_drawT (fun _ => false) mixed (by decide +kernel) ?_; simp [nw_cells, ho1, ho2, ho3, hpf, hpc, hps, ru_cells, ru_ok, ru_fold, hk]) | (refine guarded_split ?_ ?_ <;> (intro hg; simp only [hg]; simp [nw_cells, ho1, ho2, ho3, hpf, hpc, hps, ru_cells, ru_ok, ru_fold, hk])) | (apply awp_cond_t; focus (simp [nw_cells, ho1, ho2, ho3, hpf, hpc, hps, ru_cells, ru_ok, ru_fold, hk]; done)) | (apply awp_cond_f; focus (simp [nw_cells, ho1, ho2, ho3, hpf, hpc, hps, ru_cells, ru_ok, ru_fold, hk]; done)) | (refine awp_cond ?_; simp [nw_cells, ho1, ho2, ho3, hpf, hpc, hps, ru_cells, ru_ok, ru_fold, hk]; refine ⟨?_, ?_⟩ <;> intro hc))
        refine retP_flat (.inr rfl) rfl (by repeat (first | exact Ext.refl _ | refine ext_new' ?_ | refine Ext.setF ?_ (by simp [new_nx', St.set, fresh_none]))) ?_
        simp [St.set, St.new, hpc, hpf, hps, hk]
      · (try (first | (with_reducible refine dops_go ?_; simp [nw_cells, ho1, ho2, ho3, hpf, hpc, hps, ru_cells, ru_ok, ru_fold, hk, hnf, new_m, set_m, new_nx']) | (with_reducible refine OKv_go ?_; simp [nw_cells, ho1, ho2, ho3, hpf, hpc, hps, ru_cells, ru_ok, ru_fold, hk, hnf, new_m, set_m, new_nx']) | (with_reducible refine OKr_go ?_; simp [nw_cells, ho1, ho2, ho3, hpf, hpc, hps, ru_cells, ru_ok, ru_fold, hk, hnf, new_m, set_m, new_nx']))); repeat' (first | refine awp_seq ?_ | refine awp_block ?_ | (refine awp_skip ?_; try simp) | (refine awp_exit ?_; try simp) | (refine awp_ret ?_; try simp) | (refine retP_same (by simp) ?_; simp) | (refine retP_flat (by simp) (by simp) (by simp (maxDischargeDepth := 30) [nw_cells, ho1, ho2, ho3, hpf, hpc, hps, ru_cells, ru_ok, ru_fold, hk, hnf, new_m, set_m, new_nx']) ?_; simp) | (refine awp_reg ?_; simp [nw_cells, ho1, ho2, ho3, hpf, hpc, hps, ru_cells, ru_ok, ru_fold, hk, hnf, new_m, set_m, new_nx']) | (refine awp_drawT (fun _ => false) mixed (by decide +kernel) ?_; simp [nw_cells, ho1, ho2, ho3, hpf, hpc, hps, ru_cells, ru_ok, ru_fold, hk, hnf, new_m, set_m, new_nx']) | (refine guarded_split ?_ ?_ <;> (intro hg; simp only [hg]; simp [nw_cells, ho1, ho2, ho3, hpf, hpc, hps, ru_cells, ru_ok, ru_fold, hk, hnf, new_m, set_m, new_nx'])) | (apply awp_cond_t; focus (simp [nw_cells, ho1, ho2, ho3, hpf, hpc, hps, ru_cells, ru_ok, ru_fold, hk, hnf, new_m, set_m, new_nx']; done)) | (apply awp_cond_f; focus (simp [nw_cells, ho1, ho2, ho3, hpf, hpc, hps, ru_cells, ru_ok, ru_fold, hk, hnf, new_m, set_m, new_nx']; done)) | (refine awp_cond ?_; simp [nw_cells, ho1, ho2, ho3, hpf, hpc, hps, ru_cells, ru_ok, ru_fold, hk, hnf, new_m, set_m, new_nx']; refine ⟨?_, ?_⟩ <;> intro hc))
        refine PCalls.use hn ?_
        cases b3 with
        | true =>
          (try (first | (with_reducible refine dops_go ?_; simp [nw_cells, ho1, ho2, ho3, hpf, hpc, hps, ru_cells, ru_ok, ru_fold, hk, hnf, new_m, set_m, new_nx']) | (with_reducible refine OKv_go ?_; simp [nw_cells, ho1, ho2, ho3, hpf, hpc, hps, ru_cells, ru_ok, ru_fold, hk, hnf, new_m, set_m, new_nx']) | (with_reducible refine OKr_go ?_; simp [nw_cells, ho1, ho2, ho3, hpf, hpc, hps, ru_cells, ru_ok, ru_fold, hk, hnf, new_m, set_m, new_nx']))); repeat' (first | refine awp_seq ?_ | refine awp_block ?_ | (refine awp_skip ?_; try simp) | (refine awp_exit ?_; try simp) | (refine awp_ret ?_; try simp) | (refine awp_reg ?_; simp [nw_cells, ho1, ho2, ho3, hpf, hpc, hps, ru_cells, ru_ok, ru_fold, hk, hnf, new_m, set_m, new_nx']) | (refine awp_drawT (fun _ => false) mixed (by decide +kernel) ?_; simp [nw_cells, ho1, ho2, ho3, hpf, hpc, hps, ru_cells, ru_ok, ru_fold, hk, hnf, new_m, set_m, new_nx']) | (refine guarded_split ?_ ?_ <;> (intro hg; simp only [hg]; simp [nw_cells, ho1, ho2, ho3, hpf, hpc, hps, ru_cells, ru_ok, ru_fold, hk, hnf, new_m, set_m, new_nx'])) | (apply awp_cond_t; focus (simp [nw_cells, ho1, ho2, ho3, hpf, hpc, hps, ru_cells, ru_ok, ru_fold, hk, hnf, new_m, set_m, new_nx']; done)) | (apply awp_cond_f; focus (simp [nw_cells, ho1, ho2, ho3, hpf, hpc, hps, ru_cells, ru_ok, ru_fold, hk, hnf, new_m, set_m, new_nx']; done)) | (refine awp_cond ?_; simp [nw_cells, ho1, ho2, ho3, hpf, hpc, hps, ru_cells, ru_ok, ru_fold, hk, hnf, new_m, set_m, new_nx']; refine ⟨?_, ?_⟩ <;> intro hc))
          refine retP_flat (.inr rfl) rfl (by repeat (first | exact Ext.refl _ | refine ext_new' ?_ | refine Ext.setF ?_ (by simp [new_nx', St.set, fresh_none]))) ?_
          simp [St.set, St.new, hpc, hpf, hps, hk]
        | false =>
          (try (first | (with_reducible refine dops_go ?_; simp [nw_cells, ho1, ho2, ho3, hpf, hpc, hps, ru_cells, ru_ok, ru_fold, hk, hnf, new_m, set_m, new_nx']) | (with_reducible refine OKv_go ?_; simp [nw_cells, ho1, ho2, ho3, hpf, hpc, hps, ru_cells, ru_ok, ru_fold, hk, hnf, new_m, set_m, new_nx']) | (with_reducible refine OKr_go ?_; simp [nw_cells, ho1, ho2, ho3, hpf, hpc, hps, ru_cells, ru_ok, ru_fold, hk, hnf, new_m, set_m, new_nx']))); repeat' (first | refine awp_seq ?_ | refine awp_block ?_ | (refine awp_skip ?_; try simp) | (refine awp_exit ?_; try simp) | (refine awp_ret ?_; try simp) | (refine awp_reg ?_; simp [nw_cells, ho1, ho2, ho3, hpf, hpc, hps, ru_cells, ru_ok, ru_fold, hk, hnf, new_m, set_m, new_nx']) | (refine awp_drawT (fun _ => false) mixed (by decide +kernel) ?_; simp [nw_cells, ho1, ho2, ho3, hpf, hpc, hps, ru_cells, ru_ok, ru_fold, hk, hnf, new_m, set_m, new_nx']) | (refine guarded_split ?_ ?_ <;> (intro hg; simp only [hg]; simp [nw_cells, ho1, ho2, ho3, hpf, hpc, hps, ru_cells, ru_ok, ru_fold, hk, hnf, new_m, set_m, new_nx'])) | (apply awp_cond_t; focus (simp [nw_cells, ho1, ho2, ho3, hpf, hpc, hps, ru_cells, ru_ok, ru_fold, hk, hnf, new_m, set_m, new_nx']; done)) | (apply awp_cond_f; focus (simp [nw_cells, ho1, ho2, ho3, hpf, hpc, hps, ru_cells, ru_ok, ru_fold, hk, hnf, new_m, set_m, new_nx']; done)) | (refine awp_cond ?_; simp [nw_cells, ho1, ho2, ho3, hpf, hpc, hps, ru_cells, ru_ok, ru_fold, hk, hnf, new_m, set_m, new_nx']; refine ⟨?_, ?_⟩ <;> intro hc))
          refine retP_flat (.inr rfl) rfl (by repeat (first | exact Ext.refl _ | refine ext_new' ?_ | refine Ext.setF ?_ (by simp [new_nx', St.set, fresh_none]))) ?_
          simp [St.set, St.new, hpc, hpf, hps, hk]
end Go.Proofs.Ytanimmdlgmkmkaa.Av

/- Networks, plain laws: the program's next port is the document's on right topologies. -/
namespace Go.Proofs.Ytanimmdlgmkmkaa.Av
open Go
set_option linter.unusedSimpArgs false
set_option linter.unusedVariables false
set_option maxRecDepth 100000

def lookF (m : List (Pt × Pt)) (p : Pt) : Option Pt := (m.find? fun e => decide (p = e.1)).map (·.2)
theorem lookF_upd (m : List (Pt × Pt)) (k v p : Pt) : lookF (upd m k v) p = if p = k then some v else lookF m p := by
  unfold lookF upd
  rw [List.find?_append, List.find?_filter]
  by_cases h : p = k
  · have : m.find? (fun a => decide (decide (k ≠ a.1) = true ∧ decide (p = a.1) = true)) = none := by
      rw [List.find?_eq_none]
      intro x hx
      subst h
      simp
    rw [this, if_pos h]
    simp [h]
  · have : (fun a : Pt × Pt => decide (decide (k ≠ a.1) = true ∧ decide (p = a.1) = true)) = fun a => decide (p = a.1) := by
      funext a
      by_cases h2 : p = a.1
      · have : k ≠ a.1 := fun q => h (h2.trans q.symm)
        simp [h2, this]
      · simp [h2]
    rw [this, if_neg h]
    simp [h]
/-- The ports of links, one after the other. -/
def flatP : List Lk → List Pt
  | [] => []
  | l :: ls => l.a :: l.b :: flatP ls
theorem refNext_none {ls : List Lk} {p : Pt} (h : p ∉ flatP ls) : refNextL ls p = none := by
  induction ls with
  | nil => rfl
  | cons l ls ih =>
    simp only [flatP, List.mem_cons, not_or] at h
    simp only [refNextL]
    rw [if_neg (fun q => h.1 q.symm), if_neg (fun q => h.2.1 q.symm)]
    exact ih h.2.2
theorem look_fold (ls : List Lk) (m : List (Pt × Pt)) (p : Pt) (h : (flatP ls).Nodup) :
    lookF (ls.foldl (fun m l => upd (upd m l.a l.b) l.b l.a) m) p = (refNextL ls p).or (lookF m p) := by
  induction ls generalizing m with
  | nil => simp [refNextL]
  | cons l ls ih =>
    simp only [flatP, List.nodup_cons, List.mem_cons, not_or] at h
    obtain ⟨⟨hab, ha⟩, hb, hn⟩ := h
    rw [List.foldl_cons, ih _ hn, lookF_upd, lookF_upd]
    simp only [refNextL]
    by_cases h1 : l.a = p
    · subst h1
      rw [refNext_none ha, if_neg hab]
      simp
    · by_cases h2 : l.b = p
      · subst h2
        rw [refNext_none hb]
        simp [h1]
      · have h1' : ¬ p = l.a := fun q => h1 q.symm
        have h2' : ¬ p = l.b := fun q => h2 q.symm
        simp [h1, h2, h1', h2']
theorem nextM_eq (t : Tp) (p : Pt) (h : (flatP t.links).Nodup) : nextM t p = refNextL t.links p := by
  have := look_fold t.links [] p h
  unfold lookF at this
  unfold nextM joinM
  rw [this]
  simp
end Go.Proofs.Ytanimmdlgmkmkaa.Av

/- Networks, plain laws: the map is full exactly if no port is joined twice. -/
namespace Go.Proofs.Ytanimmdlgmkmkaa.Av
open Go
set_option linter.unusedSimpArgs false
set_option linter.unusedVariables false
set_option maxRecDepth 100000

theorem upd_len (m : List (Pt × Pt)) (k v : Pt) : (upd m k v).length ≤ m.length + 1 ∧ ((upd m k v).length = m.length + 1 ↔ k ∉ m.map (·.1)) := by
  have hle : (m.filter fun e => decide (k ≠ e.1)).length ≤ m.length := List.length_filter_le _ _
  have hl : (upd m k v).length = (m.filter fun e => decide (k ≠ e.1)).length + 1 := by simp [upd]
  refine ⟨by omega, ?_⟩
  rw [hl]
  constructor
  · intro h hk
    obtain ⟨e, he, rfl⟩ := List.mem_map.1 hk
    have := List.length_filter_lt_length_iff_exists (p := fun x : Pt × Pt => decide (e.1 ≠ x.1)) (l := m) |>.2 ⟨e, he, by simp⟩
    omega
  · intro h
    have : (m.filter fun e => decide (k ≠ e.1)) = m := by
      rw [List.filter_eq_self]
      intro x hx
      simp only [decide_eq_true_eq]
      intro q
      exact h (q ▸ List.mem_map.2 ⟨x, hx, rfl⟩)
    rw [this]
theorem upd_keys (m : List (Pt × Pt)) (k v x : Pt) : x ∈ (upd m k v).map (·.1) ↔ x = k ∨ x ∈ m.map (·.1) := by
  simp only [upd, List.map_append, List.mem_append, List.map_cons, List.map_nil, List.mem_singleton]
  constructor
  · rintro (h | h)
    · obtain ⟨e, he, rfl⟩ := List.mem_map.1 h
      exact .inr (List.mem_map.2 ⟨e, (List.mem_filter.1 he).1, rfl⟩)
    · exact .inl h
  · rintro (h | h)
    · exact .inr h
    · by_cases q : x = k
      · exact .inr q
      · obtain ⟨e, he, rfl⟩ := List.mem_map.1 h
        exact .inl (List.mem_map.2 ⟨e, List.mem_filter.2 ⟨he, by simpa using fun r => q r.symm⟩, rfl⟩)
theorem fold_len (ls : List Lk) (m : List (Pt × Pt)) :
    (ls.foldl (fun m l => upd (upd m l.a l.b) l.b l.a) m).length ≤ m.length + 2 * ls.length ∧
    ((ls.foldl (fun m l => upd (upd m l.a l.b) l.b l.a) m).length = m.length + 2 * ls.length ↔ (flatP ls).Nodup ∧ ∀ p ∈ flatP ls, p ∉ m.map (·.1)) := by
  induction ls generalizing m with
  | nil => simp [flatP]
  | cons l ls ih =>
    obtain ⟨i1, i2⟩ := ih (upd (upd m l.a l.b) l.b l.a)
    obtain ⟨a1, a2⟩ := upd_len m l.a l.b
    obtain ⟨b1, b2⟩ := upd_len (upd m l.a l.b) l.b l.a
    rw [List.foldl_cons, List.length_cons]
    refine ⟨by omega, ?_⟩
    simp only [upd_keys, not_or] at b2 i2
    simp only [flatP, List.nodup_cons, List.mem_cons, not_or]
    constructor
    · intro h
      have h1 := a2.1 (by omega)
      have h2 := b2.1 (by omega)
      have h3 := i2.1 (by omega)
      refine ⟨⟨⟨fun q => h2.1 q.symm, fun q => (h3.2 _ q).2.1 rfl⟩, fun q => (h3.2 _ q).1 rfl, h3.1⟩, ?_⟩
      rintro p (rfl | rfl | hp)
      · exact h1
      · exact h2.2
      · exact (h3.2 _ hp).2.2
    · rintro ⟨⟨⟨hab, ha⟩, hb, hn⟩, hd⟩
      have e1 := a2.2 (hd _ (.inl rfl))
      have e2 := b2.2 ⟨fun q => hab q.symm, hd _ (.inr (.inl rfl))⟩
      have e3 := i2.2 ⟨hn, fun p hp => ⟨fun q => hb (q ▸ hp), fun q => ha (q ▸ hp), hd _ (.inr (.inr hp))⟩⟩
      omega
theorem joinM_full (ls : List Lk) : (joinM ls).length = 2 * ls.length ↔ (flatP ls).Nodup := by
  have := (fold_len ls []).2
  simpa [joinM] using this
end Go.Proofs.Ytanimmdlgmkmkaa.Av

/- Networks, plain laws: on right networks the program's step is the document's. -/
namespace Go.Proofs.Ytanimmdlgmkmkaa.Av
open Go
set_option linter.unusedSimpArgs false
set_option linter.unusedVariables false
set_option maxRecDepth 100000

theorem allFrom_mem {l : List Ru} {last : Int} (h : allFrom last l = true) : ∀ r ∈ l, ruleB r = true := by
  induction l generalizing last with
  | nil => simp
  | cons x l ih =>
    simp only [allFrom, Bool.and_eq_true] at h
    intro r hr
    rcases List.mem_cons.1 hr with rfl | hr
    · exact h.1.1
    · exact ih h.2 r hr
theorem allB_kind {l : List Ru} (h : allB l = true) : ∀ r ∈ l, 0 ≤ r.kind ∧ r.kind ≤ 3 := by
  intro r hr
  have := allFrom_mem (Bool.and_eq_true _ _ ▸ h : _ ∧ _).1 r hr
  simp only [ruleB, Bool.and_eq_true, decide_eq_true_eq] at this
  exact this.1.1.1.2
theorem any_congr' {l : List Ru} {p q : Ru → Bool} (h : ∀ r ∈ l, p r = q r) : l.any p = l.any q := by
  induction l with
  | nil => rfl
  | cons x l ih =>
    rw [List.any_cons, List.any_cons, h x (by simp), ih fun r hr => h r (List.mem_cons_of_mem _ hr)]
theorem filter_acl {l : List Ru} (h : allB l = true) (d a : Int) : l.filter (refP d a true) = l.filter (aclP d a) := List.filter_congr fun r hr => refP_acl (allB_kind h r hr) d a
theorem filter_fwd {l : List Ru} (h : allB l = true) (d a : Int) : l.filter (refP d a false) = l.filter (fwdP d a) := List.filter_congr fun r hr => refP_fwd (allB_kind h r hr) d a
theorem any_acl {l : List Ru} (h : allB l = true) (d a : Int) : l.any (refP d a true) = l.any (aclP d a) := any_congr' fun r hr => refP_acl (allB_kind h r hr) d a
theorem any_fwd {l : List Ru} (h : allB l = true) (d a : Int) : l.any (refP d a false) = l.any (fwdP d a) := any_congr' fun r hr => refP_fwd (allB_kind h r hr) d a
theorem rightT_nodup {t : Tp} (h : rightT t = true) : (flatP t.links).Nodup := by
  simp only [rightT, Bool.and_eq_true, decide_eq_true_eq] at h
  exact (joinM_full _).1 h.2.2.2.2.2
theorem step_eq {n : Nw} (h : rightN n = true) (d a : Int) : refStepF n d a = stepF n d a := by
  simp only [rightN, Bool.and_eq_true] at h
  obtain ⟨ht, hr, -⟩ := h
  unfold refStepF stepF refDeniesB deniesB matchB matchR
  rw [filter_acl hr, filter_fwd hr, any_acl hr, any_fwd hr, nextM_eq _ _ (rightT_nodup ht)]
end Go.Proofs.Ytanimmdlgmkmkaa.Av

/- Queries, the plain law: addresses between the same cuts fare alike; what a verdict tells. -/
namespace Go.Proofs.Ytanimmdlgmkmkaa.Av

/-- Two addresses lie on the same side of all cuts. -/
def SameSide (L : List Rg) (a b : Int) : Prop := ∀ x ∈ cutsL L, (x ≤ a ↔ x ≤ b)
theorem side_in {L : List Rg} {a b : Int} (h : SameSide L a b) (ha : a < 4294967296) (hb : b < 4294967296) {r : Rg} (hr : r ∈ L) : (r.lo ≤ a ∧ a ≤ r.hi) ↔ (r.lo ≤ b ∧ b ≤ r.hi) := by
  have hm := (cutsL_cuts L).mem
  have h1 : r.lo ∈ cutsL L := (hm _).2 (.inr ⟨r, hr, by unfold endsR; split <;> simp⟩)
  have k1 := h _ h1
  by_cases q : r.hi < 4294967295
  · have h2 : r.hi + 1 ∈ cutsL L := (hm _).2 (.inr ⟨r, hr, by unfold endsR; rw [if_pos q]; simp⟩)
    have k2 := h _ h2
    constructor <;> rintro ⟨x, y⟩ <;> constructor <;> omega
  · constructor <;> rintro ⟨x, y⟩ <;> constructor <;> omega
theorem step_same {n : Nw} {L : List Rg} (hL : ∀ r ∈ n.rules, r.r ∈ L) {a b : Int} (h : SameSide L a b) (ha : a < 4294967296) (hb : b < 4294967296) (d : Int) : stepF n d a = stepF n d b := by
  have ht : ∀ r ∈ n.rules, takesB r d a = takesB r d b := fun r hr => by
    have := side_in h ha hb (hL r hr)
    unfold takesB
    rw [Bool.eq_iff_iff]
    simp only [Bool.and_eq_true, decide_eq_true_eq]
    rw [this]
  have h1 : ∀ r ∈ n.rules, aclP d a r = aclP d b r := fun r hr => by unfold aclP; rw [ht r hr]
  have h2 : ∀ r ∈ n.rules, fwdP d a r = fwdP d b r := fun r hr => by unfold fwdP; rw [ht r hr]
  have e1 : n.rules.any (aclP d a) = n.rules.any (aclP d b) := any_congr' h1
  have e2 : n.rules.any (fwdP d a) = n.rules.any (fwdP d b) := any_congr' h2
  have e3 : n.rules.filter (aclP d a) = n.rules.filter (aclP d b) := List.filter_congr h1
  have e4 : n.rules.filter (fwdP d a) = n.rules.filter (fwdP d b) := List.filter_congr h2
  unfold stepF deniesB matchB matchR
  rw [e1, e2, e3, e4]
theorem walk_same {n : Nw} {a b : Int} (h : ∀ d, stepF n d a = stepF n d b) : ∀ (f : Nat) (d : Int) (p : List Int), walkT n a f d p = walkT n b f d p
  | 0, d, p => rfl
  | f + 1, d, p => by
    simp only [walkT, h d]
    split
    · rfl
    · split
      · exact walk_same h f _ _
      · rfl
theorem trace_same {n : Nw} {L : List Rg} (hL : ∀ r ∈ n.rules, r.r ∈ L) {a b : Int} (h : SameSide L a b) (ha : a < 4294967296) (hb : b < 4294967296) (d : Int) : traceR n d a = traceR n d b := by
  unfold traceR traceF
  rw [walk_same fun d => step_same hL h ha hb d]

/-! ### Atoms and parts -/
theorem atom_side {c : List Int} (hc : c.Pairwise (· < ·)) {a : Rg} (ha : a ∈ atomsC c) {y z : Int} (hy : a.lo ≤ y ∧ y ≤ a.hi) (hz : a.lo ≤ z ∧ z ≤ a.hi) : ∀ x ∈ c, (x ≤ y ↔ x ≤ z) := by
  intro x hx
  obtain ⟨i, hi⟩ := List.mem_iff_getElem?.1 ha
  rw [atomsC_get] at hi
  cases hci : c[i]? with
  | none => rw [hci] at hi; cases hi
  | some ci =>
    rw [hci] at hi
    simp only [Option.map_some, Option.some.injEq] at hi
    subst hi
    simp only [] at hy hz
    obtain ⟨j, hj⟩ := List.mem_iff_getElem?.1 hx
    obtain ⟨hjl, hje⟩ := List.getElem?_eq_some_iff.1 hj
    obtain ⟨hil, hie⟩ := List.getElem?_eq_some_iff.1 hci
    by_cases hji : j ≤ i
    · have : x ≤ ci := by
        rcases Nat.lt_or_eq_of_le hji with h | h
        · have := List.pairwise_iff_getElem.1 hc j i hjl hil h
          omega
        · subst h; omega
      omega
    · have h1 : i + 1 < c.length := by omega
      have hn : c[i + 1]? = some c[i + 1] := List.getElem?_eq_getElem h1
      rw [hn] at hy hz
      simp only [] at hy hz
      have : c[i + 1] ≤ x := by
        rcases Nat.lt_or_eq_of_le (show i + 1 ≤ j by omega) with h | h
        · have := List.pairwise_iff_getElem.1 hc (i + 1) j h1 hjl h
          omega
        · subst h; omega
      omega
theorem atom_has {c : List Int} {L : List Rg} (h : Cuts c L) {x : Int} (h0 : 0 ≤ x) (h1 : x < 4294967296) : ∃ a ∈ atomsC c, a.lo ≤ x ∧ x ≤ a.hi := by
  obtain ⟨p, hp⟩ : ∃ p, c.countP (fun y => decide (y ≤ x)) = p + 1 := ⟨_, (Nat.succ_pred_eq_of_pos (h.pos h0)).symm⟩
  have hle : c.countP (fun y => decide (y ≤ x)) ≤ c.length := List.countP_le_length
  have hpl : p < c.length := by omega
  have hci : c[p]? = some c[p] := List.getElem?_eq_getElem hpl
  have hs := countP_srt h.srt x
  have k1 := (hs p _ hci).2 (by omega)
  have hg := atomsC_get c p
  rw [hci] at hg
  refine ⟨_, List.mem_of_getElem? hg, k1, ?_⟩
  simp only []
  cases hn : c[p + 1]? with
  | none => simp only []; omega
  | some y =>
    have := hs _ _ hn
    simp only []
    have : ¬ y ≤ x := fun hyx => by have := this.1 hyx; omega
    omega
theorem part_mem {c : List Int} {r p : Rg} (h : p ∈ cutC c r) : ∃ a ∈ atomsC c, a.lo ≤ p.lo ∧ p.hi ≤ a.hi ∧ r.lo ≤ p.lo ∧ p.hi ≤ r.hi ∧ p.lo ≤ p.hi := by
  unfold cutC at h
  obtain ⟨a, ha, hp⟩ := List.mem_filterMap.1 h
  unfold cutOne at hp
  split at hp
  · rename_i hle
    simp only [Option.some.injEq] at hp
    subst hp
    refine ⟨a, ha, ?_⟩
    simp only []
    omega
  · cases hp
theorem part_has {c : List Int} {L : List Rg} (h : Cuts c L) {r : Rg} {x : Int} (h0 : 0 ≤ x) (h1 : x < 4294967296) (hx : r.lo ≤ x ∧ x ≤ r.hi) : ∃ p ∈ cutC c r, p.lo ≤ x ∧ x ≤ p.hi := by
  obtain ⟨a, ha, k1, k2⟩ := atom_has h h0 h1
  refine ⟨⟨max a.lo r.lo, min a.hi r.hi⟩, ?_, by simp only []; omega⟩
  unfold cutC
  refine List.mem_filterMap.2 ⟨a, ha, ?_⟩
  unfold cutOne
  rw [if_pos (by omega)]
theorem atoms_srt : ∀ {c : List Int}, c.Pairwise (· < ·) → (atomsC c).Pairwise fun a b => a.hi < b.lo
  | [], _ => by simp [atomsC]
  | [x], _ => by simp [atomsC]
  | x :: y :: l, h => by
    obtain ⟨h1, h2⟩ := List.pairwise_cons.1 h
    simp only [atomsC]
    refine List.pairwise_cons.2 ⟨fun b hb => ?_, atoms_srt h2⟩
    have : ∀ (l : List Int) (y : Int), (y :: l).Pairwise (· < ·) → ∀ b ∈ atomsC (y :: l), y ≤ b.lo := by
      intro l
      induction l with
      | nil => intro y _ b hb; simp only [atomsC, List.mem_singleton] at hb; subst hb; simp
      | cons z l ih =>
        intro y hy b hb
        obtain ⟨g1, g2⟩ := List.pairwise_cons.1 hy
        simp only [atomsC, List.mem_cons] at hb
        rcases hb with rfl | hb
        · simp
        · have := ih z g2 b hb
          have := g1 z (by simp)
          omega
    have := this l y h2 b hb
    simp only []
    omega
theorem parts_srt {c : List Int} (h : c.Pairwise (· < ·)) (r : Rg) : (cutC c r).Pairwise fun a b => a.hi < b.lo := by
  unfold cutC
  refine List.Pairwise.filterMap (R := fun a b : Rg => a.hi < b.lo) (cutOne r) ?_ (atoms_srt h)
  intro a b hab p hp q hq
  unfold cutOne at hp hq
  split at hp
  · split at hq
    · simp only [Option.some.injEq] at hp hq
      subst hp; subst hq
      simp only []
      omega
    · cases hq
  · cases hp

/-! ### Searching -/
theorem seek_none {n m : Nw} {q : Qy} {d : Int} : ∀ {P : List Rg}, seek n m q d P = none ↔ ∀ p ∈ P, breaksQ q (traceR n d p.lo).1 (traceR m d p.lo).1 = false
  | [] => by simp [seek]
  | r :: rs => by
    simp only [seek]
    split
    · rename_i h; simp [h]
    · rename_i h
      have h : breaksQ q (traceR n d r.lo).1 (traceR m d r.lo).1 = false := by simpa using h
      rw [seek_none]
      simp [h]
theorem seek_some {n m : Nw} {q : Qy} {d : Int} {v : Vd} : ∀ {P : List Rg}, seek n m q d P = some v → ∃ p ∈ P, v = ⟨false, d, p.lo, (traceR n d p.lo).1⟩ ∧ breaksQ q (traceR n d p.lo).1 (traceR m d p.lo).1 = true
  | [], h => by simp [seek] at h
  | r :: rs, h => by
    simp only [seek] at h
    split at h
    · rename_i hb
      simp only [Option.some.injEq] at h
      exact ⟨r, by simp, h.symm, hb⟩
    · obtain ⟨p, hp, h1, h2⟩ := seek_some h
      exact ⟨p, by simp [hp], h1, h2⟩
theorem seek_first {n m : Nw} {q : Qy} {d : Int} {v : Vd} : ∀ {P : List Rg}, (P.Pairwise fun a b => a.hi < b.lo) → (∀ p ∈ P, p.lo ≤ p.hi) → seek n m q d P = some v → ∀ p ∈ P, breaksQ q (traceR n d p.lo).1 (traceR m d p.lo).1 = true → v.addr ≤ p.lo
  | [], _, _, _, p, hp, _ => by simp at hp
  | r :: rs, hs, hl, h, p, hp, hb => by
    obtain ⟨h1, h2⟩ := List.pairwise_cons.1 hs
    simp only [seek] at h
    split at h
    · simp only [Option.some.injEq] at h
      subst h
      rcases List.mem_cons.1 hp with rfl | hp
      · simp
      · have := h1 p hp
        have := hl r (by simp)
        simp only []
        omega
    · rename_i hn
      rcases List.mem_cons.1 hp with rfl | hp
      · exact absurd hb hn
      · exact seek_first h2 (fun p hp => hl p (by simp [hp])) h p hp hb
theorem seeks_none {n m : Nw} {q : Qy} {P : List Rg} : ∀ {S : List Int}, seeks n m q P S = none ↔ ∀ d ∈ S, ∀ p ∈ P, breaksQ q (traceR n d p.lo).1 (traceR m d p.lo).1 = false
  | [] => by simp [seeks]
  | d :: ds => by
    simp only [seeks]
    cases h : seek n m q d P with
    | none =>
      simp only []
      rw [seeks_none]
      have := seek_none.1 h
      simp only [List.mem_cons, forall_eq_or_imp]
      exact ⟨fun k => ⟨this, k⟩, fun k => k.2⟩
    | some v =>
      simp only [reduceCtorEq, false_iff]
      intro k
      have := seek_none.2 (k d (by simp))
      rw [h] at this; cases this
theorem seeks_some {n m : Nw} {q : Qy} {P : List Rg} {v : Vd} : ∀ {S : List Int}, seeks n m q P S = some v → ∃ d ∈ S, ∃ p ∈ P, v = ⟨false, d, p.lo, (traceR n d p.lo).1⟩ ∧ breaksQ q (traceR n d p.lo).1 (traceR m d p.lo).1 = true
  | [], h => by simp [seeks] at h
  | d :: ds, h => by
    simp only [seeks] at h
    cases hs : seek n m q d P with
    | none =>
      rw [hs] at h
      obtain ⟨d', hd, p, hp, h1, h2⟩ := seeks_some h
      exact ⟨d', by simp [hd], p, hp, h1, h2⟩
    | some w =>
      rw [hs] at h
      simp only [Option.some.injEq] at h
      subst h
      obtain ⟨p, hp, h1, h2⟩ := seek_some hs
      exact ⟨d, by simp, p, hp, h1, h2⟩
theorem seeks_first {n m : Nw} {q : Qy} {P : List Rg} {v : Vd} (hs : P.Pairwise fun a b => a.hi < b.lo) (hl : ∀ p ∈ P, p.lo ≤ p.hi) : ∀ {S : List Int}, S.Pairwise (· < ·) → seeks n m q P S = some v →
    ∀ d ∈ S, ∀ p ∈ P, breaksQ q (traceR n d p.lo).1 (traceR m d p.lo).1 = true → v.src < d ∨ v.src = d ∧ v.addr ≤ p.lo
  | [], _, _, d, hd, _, _, _ => by simp at hd
  | e :: S, hS, h, d, hd, p, hp, hb => by
    obtain ⟨h1, h2⟩ := List.pairwise_cons.1 hS
    simp only [seeks] at h
    cases hk : seek n m q e P with
    | none =>
      rw [hk] at h
      rcases List.mem_cons.1 hd with rfl | hd
      · have := seek_none.1 hk p hp
        rw [this] at hb; cases hb
      · exact seeks_first hs hl h2 h d hd p hp hb
    | some w =>
      rw [hk] at h
      simp only [Option.some.injEq] at h
      subst h
      obtain ⟨p', hp', e1, _⟩ := seek_some hk
      have hsrc : w.src = e := by rw [e1]
      rcases List.mem_cons.1 hd with rfl | hd
      · exact .inr ⟨hsrc, seek_first hs hl hk p hp hb⟩
      · have := h1 d hd
        exact .inl (by omega)
theorem range_srt (k : Nat) : ((List.range k).map fun i : Nat => (i : Int)).Pairwise (· < ·) := by
  rw [List.pairwise_map]
  exact List.pairwise_lt_range.imp fun h => by omega
theorem sources_srt (n : Nw) (q : Qy) : (sourcesQ n q).Pairwise (· < ·) := by
  unfold sourcesQ
  split
  · simp
  · exact range_srt _

/-! ### Right networks -/
theorem right_rules {n : Nw} (h : rightN n = true) : (∀ r ∈ n.rules, ruleB r = true) ∧ n.rules.length ≤ 40 := by
  unfold rightN at h
  simp only [Bool.and_eq_true] at h
  have h2 := h.2.1
  unfold allB at h2
  simp only [Bool.and_eq_true, decide_eq_true_eq] at h2
  exact ⟨allFrom_mem h2.1, h2.2⟩
theorem right_ports {n : Nw} (h : rightN n = true) : 1 ≤ n.t.ports.length := by
  unfold rightN rightT at h
  simp only [Bool.and_eq_true, Bool.not_eq_true', decide_eq_false_iff_not] at h
  have := h.1.1
  omega
theorem rule_le {r : Ru} (h : ruleB r = true) : r.r.lo ≤ r.r.hi := by
  unfold ruleB at h
  simp only [Bool.and_eq_true, decide_eq_true_eq] at h
  exact h.2
theorem rgs_le {l : List Nw} (h : ∀ n ∈ l, rightN n = true) : ∀ r ∈ rgsOf l, r.lo ≤ r.hi := by
  intro r hr
  unfold rgsOf at hr
  obtain ⟨n, hn, hr⟩ := List.mem_flatMap.1 hr
  obtain ⟨x, hx, rfl⟩ := List.mem_map.1 hr
  exact rule_le ((right_rules (h n hn)).1 x hx)
theorem held_right {l : List Nw} (h : ∀ n ∈ l, rightN n = true) (hl : l.length ≤ 12) : heldL (rgsOf l) = (rgsOf l).reverse := by
  refine held_few (rgs_le h) ?_
  have : ∀ l : List Nw, (∀ n ∈ l, rightN n = true) → (rgsOf l).length ≤ 40 * l.length := by
    intro l
    induction l with
    | nil => intro _; simp [rgsOf]
    | cons n l ih =>
      intro h
      have h1 := (right_rules (h n (by simp))).2
      have h2 := ih fun m hm => h m (by simp [hm])
      simp only [rgsOf, List.flatMap_cons, List.length_append, List.length_map, List.length_cons] at h2 ⊢
      omega
  have := this l h
  omega
theorem cuts_right {l : List Nw} (h : ∀ n ∈ l, rightN n = true) (hl : l.length ≤ 12) : cutsL (heldL (rgsOf l)) = cutsL (rgsOf l) := by
  rw [held_right h hl]; exact cutsL_perm (List.reverse_perm _)
theorem cutP_right {l : List Nw} (h : ∀ n ∈ l, rightN n = true) (hl : l.length ≤ 12) {r : Rg} (hr : r.lo ≤ r.hi) : cutP l r = cutC (cutsL (rgsOf l)) r := by
  unfold cutP
  rw [if_neg (by omega), cuts_right h hl]
theorem rgsOf_mem {l : List Nw} {n : Nw} (hn : n ∈ l) : ∀ r ∈ n.rules, r.r ∈ rgsOf l := fun r hr => List.mem_flatMap.2 ⟨n, hn, List.mem_map.2 ⟨r, hr, rfl⟩⟩
end Go.Proofs.Ytanimmdlgmkmkaa.Av

/- Networks: right topologies, by the document; the first two stretches. -/
namespace Go.Proofs.Ytanimmdlgmkmkaa.Av
open Go
set_option linter.unusedSimpArgs false
set_option linter.unusedVariables false
set_option maxRecDepth 100000
set_option pp.maxSteps 600

/-- The document's right topologies: few ports, all links' ports there, none joined twice. -/
def nodupB : List Pt → Bool
  | [] => true
  | p :: l => !l.contains p && nodupB l
theorem nodupB_iff (l : List Pt) : nodupB l = true ↔ l.Nodup := by
  induction l with
  | nil => simp [nodupB]
  | cons p l ih => simp [nodupB, ih]
def refRightT (t : Tp) : Bool := !decide (t.ports.length < 1) && (!decide (8 < t.ports.length) && (!decide (16 < t.links.length) && (t.ports.all (fun n => decide (1 ≤ n) && decide (n ≤ 4)) && ((flatP t.links).all (hasB t) && nodupB (flatP t.links)))))
theorem linkBad_any {t : Tp} (ls : List Lk) (hn : (flatP ls).Nodup) : ls.any (linkBad t) = !(flatP ls).all (hasB t) := by
  induction ls with
  | nil => rfl
  | cons l ls ih =>
    simp only [flatP, List.nodup_cons, List.mem_cons, not_or] at hn
    rw [List.any_cons, ih hn.2.2]
    simp only [flatP, List.all_cons, linkBad]
    have hab : decide (l.a = l.b) = false := by simpa using hn.1.1
    rw [hab]
    cases hasB t l.a <;> cases hasB t l.b <;> simp
theorem rightT_eq (t : Tp) : rightT t = refRightT t := by
  have h1 : decide (t.ports.length = 0) = decide (t.ports.length < 1) := by
    rw [Bool.eq_iff_iff]; simp
  have h2 : (!portsBad t) = t.ports.all (fun n => decide (1 ≤ n) && decide (n ≤ 4)) := by
    unfold portsBad
    induction t.ports with
    | nil => rfl
    | cons n l ih =>
      rw [List.any_cons, List.all_cons, ← ih, Bool.not_or]
      congr 1
      rw [Bool.eq_iff_iff]; simp
  unfold rightT refRightT
  rw [h1, h2]
  by_cases hn : (flatP t.links).Nodup
  · rw [decide_eq_true ((joinM_full _).2 hn), (nodupB_iff _).2 hn, linkBad_any _ hn, Bool.not_not]
  · have e1 : nodupB (flatP t.links) = false := by
      cases h : nodupB (flatP t.links) with
      | false => rfl
      | true => exact absurd ((nodupB_iff _).1 h) hn
    rw [decide_eq_false (fun h => hn ((joinM_full _).1 h)), e1]
    simp
end Go.Proofs.Ytanimmdlgmkmkaa.Av

/- Networks: ref topo.Right (begun). -/
namespace Go.Proofs.Ytanimmdlgmkmkaa.Av
open Go
set_option linter.unusedSimpArgs false
set_option linter.unusedVariables false
set_option maxRecDepth 100000
set_option maxHeartbeats 2000000
set_option pp.maxSteps 600

theorem refRight_calls (t : Tp) (f : Fl) (hl : t.ports.length < 2 ^ 60) (hl2 : t.links.length < 2 ^ 40) : PCalls Try.prog 80 [tpAV t f] (.raw (.bool (refRightT t))) := by
  refine pbody Try.func80 rfl (N := 96) rfl rfl (by simp) (by simp [noIds]) fun σ => ?_
  repeat (refine awp_seq ?_)
  refine awp_reg ?_
  have ho1 : cellOK (intsAV t.ports f.p) = true := rfl
  have ho2 : cellOK (linksAV t.links f.l) = true := rfl
  simp only [cellOK] at ho1 ho2
  simp [tp_cells, ho1, ho2]
  refine awp_freeze ⟨1, σ.nx 1, 2⟩ ?_
  generalize hτ : St.del _ _ = τ
  generalize hA : (fun t => giveUp _ _ _) = A
  have a1 : A 1 = .pp [intsAV t.ports f.p, linksAV t.links f.l] 0 := by rw [← hA, ← hτ]; simp [giveUp, St.new, St.del, tp_cells]
  have hE : Ext σ τ := by
    rw [← hτ]
    refine ⟨fun i o h => ?_, fun s => ?_⟩
    · rw [del_other (fun e => by rw [e, fresh_none] at h; cases h)]
      exact new_up _ _ h
    · exact St.new_le σ 1 2 (.buf [tpAV t f]) s
  clear hτ hA
  by_cases q1 : t.ports.length < 1
  · have q1' : (t.ports.length : Int) < 1 := by omega
    (try (first | (with_reducible refine dops_go ?_; simp [intsAV, linksAV, a1, hE, q1, q1']) | (with_reducible refine OKv_go ?_; simp [intsAV, linksAV, a1, hE, q1, q1']) | (with_reducible refine OKr_go ?_; simp [intsAV, linksAV, a1, hE, q1, q1']))); repeat' (first | refine awp_seq ?_ | refine awp_block ?_ | (refine awp_skip ?_; try simp) | (refine awp_exit ?_; try simp) | (refine awp_ret ?_; try simp) | (refine retP_same (by simp) ?_; simp) | (refine retP_flat (by simp) (by simp) (by simp (maxDischargeDepth := 30) [intsAV, linksAV, a1, hE, q1, q1']) ?_; simp) | (refine awp_reg ?_; simp [intsAV, linksAV, a1, hE, q1, q1']) | (refine awp_drawT (fun _ => false) mixed (by decide +kernel) ?_; simp [intsAV, linksAV, a1, hE, q1, q1']) | (refine guarded_split ?_ ?_ <;> (intro hg; simp only [hg]; simp [intsAV, linksAV, a1, hE, q1, q1'])) | (apply awp_cond_t; focus (simp [intsAV, linksAV, a1, hE, q1, q1']; done)) | (apply awp_cond_f; focus (simp [intsAV, linksAV, a1, hE, q1, q1']; done)) | (refine awp_cond ?_; simp [intsAV, linksAV, a1, hE, q1, q1']; refine ⟨?_, ?_⟩ <;> intro hc))
    all_goals simp [refRightT, q1]
  have q1' : ¬ (t.ports.length : Int) < 1 := by omega
  by_cases q2 : 8 < t.ports.length
  · have q2' : (8 : Int) < (t.ports.length : Int) := by omega
    (try (first | (with_reducible refine dops_go ?_; simp [intsAV, linksAV, a1, hE, q1, q1', q2, q2']) | (with_reducible refine OKv_go ?_; simp [intsAV, linksAV, a1, hE, q1, q1', q2, q2']) | (with_reducible refine OKr_go ?_; simp [intsAV, linksAV, a1, hE, q1, q1', q2, q2']))); repeat' (first | refine awp_seq ?_ | refine awp_block ?_ | (refine awp_skip ?_; try simp) | (refine awp_exit ?_; try simp) | (refine awp_ret ?_; try simp) | (refine retP_same (by simp) ?_; simp) | (refine retP_flat (by simp) (by simp) (by simp (maxDischargeDepth := 30) [intsAV, linksAV, a1, hE, q1, q1', q2, q2']) ?_; simp) | (refine awp_reg ?_; simp [intsAV, linksAV, a1, hE, q1, q1', q2, q2']) | (refine awp_drawT (fun _ => false) mixed (by decide +kernel) ?_; simp [intsAV, linksAV, a1, hE, q1, q1', q2, q2']) | (refine guarded_split ?_ ?_ <;> (intro hg; simp only [hg]; simp [intsAV, linksAV, a1, hE, q1, q1', q2, q2'])) | (apply awp_cond_t; focus (simp [intsAV, linksAV, a1, hE, q1, q1', q2, q2']; done)) | (apply awp_cond_f; focus (simp [intsAV, linksAV, a1, hE, q1, q1', q2, q2']; done)) | (refine awp_cond ?_; simp [intsAV, linksAV, a1, hE, q1, q1', q2, q2']; refine ⟨?_, ?_⟩ <;> intro hc))
    all_goals simp [refRightT, q2]
  have q2' : ¬ (8 : Int) < (t.ports.length : Int) := by omega
  by_cases q3 : 16 < t.links.length
  · have q3' : (16 : Int) < (t.links.length : Int) := by omega
    (try (first | (with_reducible refine dops_go ?_; simp [intsAV, linksAV, a1, hE, q1, q1', q2, q2', q3, q3']) | (with_reducible refine OKv_go ?_; simp [intsAV, linksAV, a1, hE, q1, q1', q2, q2', q3, q3']) | (with_reducible refine OKr_go ?_; simp [intsAV, linksAV, a1, hE, q1, q1', q2, q2', q3, q3']))); repeat' (first | refine awp_seq ?_ | refine awp_block ?_ | (refine awp_skip ?_; try simp) | (refine awp_exit ?_; try simp) | (refine awp_ret ?_; try simp) | (refine retP_same (by simp) ?_; simp) | (refine retP_flat (by simp) (by simp) (by simp (maxDischargeDepth := 30) [intsAV, linksAV, a1, hE, q1, q1', q2, q2', q3, q3']) ?_; simp) | (refine awp_reg ?_; simp [intsAV, linksAV, a1, hE, q1, q1', q2, q2', q3, q3']) | (refine awp_drawT (fun _ => false) mixed (by decide +kernel) ?_; simp [intsAV, linksAV, a1, hE, q1, q1', q2, q2', q3, q3']) | (refine guarded_split ?_ ?_ <;> (intro hg; simp only [hg]; simp [intsAV, linksAV, a1, hE, q1, q1', q2, q2', q3, q3'])) | (apply awp_cond_t; focus (simp [intsAV, linksAV, a1, hE, q1, q1', q2, q2', q3, q3']; done)) | (apply awp_cond_f; focus (simp [intsAV, linksAV, a1, hE, q1, q1', q2, q2', q3, q3']; done)) | (refine awp_cond ?_; simp [intsAV, linksAV, a1, hE, q1, q1', q2, q2', q3, q3']; refine ⟨?_, ?_⟩ <;> intro hc))
    all_goals simp [refRightT, q3]
  have q3' : ¬ (16 : Int) < (t.links.length : Int) := by omega
  (try (first | (with_reducible refine dops_go ?_; simp [intsAV, linksAV, a1, hE, q1, q1', q2, q2', q3, q3']) | (with_reducible refine OKv_go ?_; simp [intsAV, linksAV, a1, hE, q1, q1', q2, q2', q3, q3']) | (with_reducible refine OKr_go ?_; simp [intsAV, linksAV, a1, hE, q1, q1', q2, q2', q3, q3']))); repeat' (first | refine awp_seq ?_ | refine awp_block ?_ | (refine awp_skip ?_; try simp) | (refine awp_exit ?_; try simp) | (refine awp_ret ?_; try simp) | (refine retP_same (by simp) ?_; simp) | (refine retP_flat (by simp) (by simp) (by simp (maxDischargeDepth := 30) [intsAV, linksAV, a1, hE, q1, q1', q2, q2', q3, q3']) ?_; simp) | (refine awp_reg ?_; simp [intsAV, linksAV, a1, hE, q1, q1', q2, q2', q3, q3']) | (refine awp_drawT (fun _ => false) mixed (by decide +kernel) ?_; simp [intsAV, linksAV, a1, hE, q1, q1', q2, q2', q3, q3']) | (refine guarded_split ?_ ?_ <;> (intro hg; simp only [hg]; simp [intsAV, linksAV, a1, hE, q1, q1', q2, q2', q3, q3'])) | (apply awp_cond_t; focus (simp [intsAV, linksAV, a1, hE, q1, q1', q2, q2', q3, q3']; done)) | (apply awp_cond_f; focus (simp [intsAV, linksAV, a1, hE, q1, q1', q2, q2', q3, q3']; done)) | (refine awp_cond ?_; simp [intsAV, linksAV, a1, hE, q1, q1', q2, q2', q3, q3']; refine ⟨?_, ?_⟩ <;> intro hc))
  refine awp_loopH (fun n B ρ => Ext σ ρ ∧ B 1 = .pp [intsAV t.ports f.p, linksAV t.links f.l] 0 ∧ ∃ i : Nat, B 3 = .raw (.int .i64 i) ∧ i ≤ t.ports.length ∧ n = t.ports.length - i ∧ (t.ports.take i).all (fun n => decide (1 ≤ n) && decide (n ≤ 4)) = true) t.ports.length ?_ ?_
  · exact ⟨hE, by simp [a1], 0, by simp, by omega, by omega, by simp⟩
  clear hE a1
  rintro n B ρ ⟨hE, a1, i, a3, hi, rfl, hall⟩ I1 hI1
  by_cases hlt : i < t.ports.length
  · have hx : t.ports[i]? = some t.ports[i] := List.getElem?_eq_getElem hlt
    have w1 : IntKind.i64.wrap ((i : Int) + 1) = ((i + 1 : Nat) : Int) := by rw [wrap64 (by omega) (by omega)]; omega
    by_cases p1 : t.ports[i] < 1
    · have hf : t.ports.all (fun n => decide (1 ≤ n) && decide (n ≤ 4)) = false := by
        rw [List.all_eq_false]
        exact ⟨_, List.getElem_mem hlt, by simp; omega⟩
      (try (first | (with_reducible refine dops_go ?_; simp [intsAV, linksAV, iAV, a1, a3, hE, hlt, hx, w1, p1]) | (with_reducible refine OKv_go ?_; simp [intsAV, linksAV, iAV, a1, a3, hE, hlt, hx, w1, p1]) | (with_reducible refine OKr_go ?_; simp [intsAV, linksAV, iAV, a1, a3, hE, hlt, hx, w1, p1]))); repeat' (first | refine awp_seq ?_ | refine awp_block ?_ | (refine awp_skip ?_; try simp) | (refine awp_exit ?_; try simp) | (refine awp_ret ?_; try simp) | (refine retP_same (by simp) ?_; simp) | (refine retP_flat (by simp) (by simp) (by simp (maxDischargeDepth := 30) [intsAV, linksAV, iAV, a1, a3, hE, hlt, hx, w1, p1]) ?_; simp) | (refine awp_reg ?_; simp [intsAV, linksAV, iAV, a1, a3, hE, hlt, hx, w1, p1]) | (refine awp_drawT (fun _ => false) mixed (by decide +kernel) ?_; simp [intsAV, linksAV, iAV, a1, a3, hE, hlt, hx, w1, p1]) | (refine guarded_split ?_ ?_ <;> (intro hg; simp only [hg]; simp [intsAV, linksAV, iAV, a1, a3, hE, hlt, hx, w1, p1])) | (apply awp_cond_t; focus (simp [intsAV, linksAV, iAV, a1, a3, hE, hlt, hx, w1, p1]; done)) | (apply awp_cond_f; focus (simp [intsAV, linksAV, iAV, a1, a3, hE, hlt, hx, w1, p1]; done)) | (refine awp_cond ?_; simp [intsAV, linksAV, iAV, a1, a3, hE, hlt, hx, w1, p1]; refine ⟨?_, ?_⟩ <;> intro hc))
      all_goals simp [refRightT, hf]
    · by_cases p2 : 4 < t.ports[i]
      · have hf : t.ports.all (fun n => decide (1 ≤ n) && decide (n ≤ 4)) = false := by
          rw [List.all_eq_false]
          exact ⟨_, List.getElem_mem hlt, by simp; omega⟩
        (try (first | (with_reducible refine dops_go ?_; simp [intsAV, linksAV, iAV, a1, a3, hE, hlt, hx, w1, p1, p2]) | (with_reducible refine OKv_go ?_; simp [intsAV, linksAV, iAV, a1, a3, hE, hlt, hx, w1, p1, p2]) | (with_reducible refine OKr_go ?_; simp [intsAV, linksAV, iAV, a1, a3, hE, hlt, hx, w1, p1, p2]))); repeat' (first | refine awp_seq ?_ | refine awp_block ?_ | (refine awp_skip ?_; try simp) | (refine awp_exit ?_; try simp) | (refine awp_ret ?_; try simp) | (refine retP_same (by simp) ?_; simp) | (refine retP_flat (by simp) (by simp) (by simp (maxDischargeDepth := 30) [intsAV, linksAV, iAV, a1, a3, hE, hlt, hx, w1, p1, p2]) ?_; simp) | (refine awp_reg ?_; simp [intsAV, linksAV, iAV, a1, a3, hE, hlt, hx, w1, p1, p2]) | (refine awp_drawT (fun _ => false) mixed (by decide +kernel) ?_; simp [intsAV, linksAV, iAV, a1, a3, hE, hlt, hx, w1, p1, p2]) | (refine guarded_split ?_ ?_ <;> (intro hg; simp only [hg]; simp [intsAV, linksAV, iAV, a1, a3, hE, hlt, hx, w1, p1, p2])) | (apply awp_cond_t; focus (simp [intsAV, linksAV, iAV, a1, a3, hE, hlt, hx, w1, p1, p2]; done)) | (apply awp_cond_f; focus (simp [intsAV, linksAV, iAV, a1, a3, hE, hlt, hx, w1, p1, p2]; done)) | (refine awp_cond ?_; simp [intsAV, linksAV, iAV, a1, a3, hE, hlt, hx, w1, p1, p2]; refine ⟨?_, ?_⟩ <;> intro hc))
        all_goals simp [refRightT, hf]
      · have hp : (decide (1 ≤ t.ports[i]) && decide (t.ports[i] ≤ 4)) = true := by
          rw [Bool.and_eq_true, decide_eq_true_eq, decide_eq_true_eq]; exact ⟨by omega, by omega⟩
        have hall' : (t.ports.take (i + 1)).all (fun n => decide (1 ≤ n) && decide (n ≤ 4)) = true := by
          rw [List.take_add_one, hx, List.all_append, hall, Option.toList_some, List.all_cons, hp]; rfl
        (try (first | (with_reducible refine dops_go ?_; simp [intsAV, linksAV, iAV, a1, a3, hE, hlt, hx, w1, p1, p2]) | (with_reducible refine OKv_go ?_; simp [intsAV, linksAV, iAV, a1, a3, hE, hlt, hx, w1, p1, p2]) | (with_reducible refine OKr_go ?_; simp [intsAV, linksAV, iAV, a1, a3, hE, hlt, hx, w1, p1, p2]))); repeat' (first | refine awp_seq ?_ | refine awp_block ?_ | (refine awp_skip ?_; try simp) | (refine awp_exit ?_; try simp) | (refine awp_ret ?_; try simp) | (refine retP_same (by simp) ?_; simp) | (refine retP_flat (by simp) (by simp) (by simp (maxDischargeDepth := 30) [intsAV, linksAV, iAV, a1, a3, hE, hlt, hx, w1, p1, p2]) ?_; simp) | (refine awp_reg ?_; simp [intsAV, linksAV, iAV, a1, a3, hE, hlt, hx, w1, p1, p2]) | (refine awp_drawT (fun _ => false) mixed (by decide +kernel) ?_; simp [intsAV, linksAV, iAV, a1, a3, hE, hlt, hx, w1, p1, p2]) | (refine guarded_split ?_ ?_ <;> (intro hg; simp only [hg]; simp [intsAV, linksAV, iAV, a1, a3, hE, hlt, hx, w1, p1, p2])) | (apply awp_cond_t; focus (simp [intsAV, linksAV, iAV, a1, a3, hE, hlt, hx, w1, p1, p2]; done)) | (apply awp_cond_f; focus (simp [intsAV, linksAV, iAV, a1, a3, hE, hlt, hx, w1, p1, p2]; done)) | (refine awp_cond ?_; simp [intsAV, linksAV, iAV, a1, a3, hE, hlt, hx, w1, p1, p2]; refine ⟨?_, ?_⟩ <;> intro hc))
        exact hI1 (t.ports.length - (i + 1)) _ _ (by omega) ⟨hE, by simp [a1, intsAV, linksAV], i + 1, by simp, by omega, rfl, hall'⟩
  · have : i = t.ports.length := by omega
    subst this
    rw [List.take_length] at hall
    (try (first | (with_reducible refine dops_go ?_; simp [intsAV, linksAV, iAV, a1, a3, hE]) | (with_reducible refine OKv_go ?_; simp [intsAV, linksAV, iAV, a1, a3, hE]) | (with_reducible refine OKr_go ?_; simp [intsAV, linksAV, iAV, a1, a3, hE]))); repeat' (first | refine awp_seq ?_ | refine awp_block ?_ | (refine awp_skip ?_; try simp) | (refine awp_exit ?_; try simp) | (refine awp_ret ?_; try simp) | (refine retP_same (by simp) ?_; simp) | (refine retP_flat (by simp) (by simp) (by simp (maxDischargeDepth := 30) [intsAV, linksAV, iAV, a1, a3, hE]) ?_; simp) | (refine awp_reg ?_; simp [intsAV, linksAV, iAV, a1, a3, hE]) | (refine awp_drawT (fun _ => false) mixed (by decide +kernel) ?_; simp [intsAV, linksAV, iAV, a1, a3, hE]) | (refine guarded_split ?_ ?_ <;> (intro hg; simp only [hg]; simp [intsAV, linksAV, iAV, a1, a3, hE])) | (apply awp_cond_t; focus (simp [intsAV, linksAV, iAV, a1, a3, hE]; done)) | (apply awp_cond_f; focus (simp [intsAV, linksAV, iAV, a1, a3, hE]; done)) | (refine awp_cond ?_; simp [intsAV, linksAV, iAV, a1, a3, hE]; refine ⟨?_, ?_⟩ <;> intro hc))
    refine awp_loopH (fun n B ρ => Ext σ ρ ∧ B 1 = .pp [intsAV t.ports f.p, linksAV t.links f.l] 0 ∧ ∃ (k : Nat) (v : AV), B 4 = v ∧ OwnL σ ρ 2 v ((flatP (t.links.take k)).map ptAV) ∧ B 5 = .raw (.int .i64 k) ∧ k ≤ t.links.length ∧ n = t.links.length - k) t.links.length ?_ ?_
    · exact ⟨hE, by simp [a1, intsAV, linksAV], 0, _, rfl, .inl ⟨by simp [flatP], by simp⟩, by simp, by omega, by omega⟩
    clear hE a1 a3 hI1 I1
    rintro n B ρ ⟨hE, a1, k, v, a4, hO, a5, hk, rfl⟩ I1 hI1
    have hfl : ∀ L : List Lk, (flatP L).length = 2 * L.length := by
      intro L; induction L with
      | nil => rfl
      | cons l L ih => simp only [flatP, List.length_cons, ih]; omega
    by_cases hlt : k < t.links.length
    · have hx : t.links[k]? = some t.links[k] := List.getElem?_eq_getElem hlt
      have w1 : IntKind.i64.wrap ((k : Int) + 1) = ((k + 1 : Nat) : Int) := by rw [wrap64 (by omega) (by omega)]; omega
      have hfp : flatP (t.links.take (k + 1)) = flatP (t.links.take k) ++ [t.links[k].a, t.links[k].b] := by
        rw [List.take_add_one, hx]
        generalize t.links.take k = L
        induction L with
        | nil => rfl
        | cons l L ih => simp only [List.cons_append, flatP, ih]
      have fa : AV.agg [.raw (.int .i64 t.links[k].a.dev), .raw (.int .i64 t.links[k].a.port)] = ptAV t.links[k].a := rfl
      have fb : AV.agg [.raw (.int .i64 t.links[k].b.dev), .raw (.int .i64 t.links[k].b.port)] = ptAV t.links[k].b := rfl
      have hpc : ∀ q : Pt, (ptAV q).cells = [.raw (.int .i64 q.dev), .raw (.int .i64 q.port)] := fun q => rfl
      (try (first | (with_reducible refine dops_go ?_; simp [linksAV, intsAV, a1, a4, a5, hlt, hx, lk_cells', fa, fb, hpc, w1, -opAppend]) | (with_reducible refine OKv_go ?_; simp [linksAV, intsAV, a1, a4, a5, hlt, hx, lk_cells', fa, fb, hpc, w1, -opAppend]) | (with_reducible refine OKr_go ?_; simp [linksAV, intsAV, a1, a4, a5, hlt, hx, lk_cells', fa, fb, hpc, w1, -opAppend]))); repeat' (first | refine awp_seq ?_ | refine awp_block ?_ | (refine awp_skip ?_; try simp) | (refine awp_exit ?_; try simp) | (refine awp_ret ?_; try simp) | (refine retP_same (by simp) ?_; simp) | (refine retP_flat (by simp) (by simp) (by simp (maxDischargeDepth := 30) [linksAV, intsAV, a1, a4, a5, hlt, hx, lk_cells', fa, fb, hpc, w1, -opAppend]) ?_; simp) | (refine awp_reg ?_; simp [linksAV, intsAV, a1, a4, a5, hlt, hx, lk_cells', fa, fb, hpc, w1, -opAppend]) | (refine awp_drawT (fun _ => false) mixed (by decide +kernel) ?_; simp [linksAV, intsAV, a1, a4, a5, hlt, hx, lk_cells', fa, fb, hpc, w1, -opAppend]) | (refine guarded_split ?_ ?_ <;> (intro hg; simp only [hg]; simp [linksAV, intsAV, a1, a4, a5, hlt, hx, lk_cells', fa, fb, hpc, w1, -opAppend])) | (apply awp_cond_t; focus (simp [linksAV, intsAV, a1, a4, a5, hlt, hx, lk_cells', fa, fb, hpc, w1, -opAppend]; done)) | (apply awp_cond_f; focus (simp [linksAV, intsAV, a1, a4, a5, hlt, hx, lk_cells', fa, fb, hpc, w1, -opAppend]; done)) | (refine awp_cond ?_; simp [linksAV, intsAV, a1, a4, a5, hlt, hx, lk_cells', fa, fb, hpc, w1, -opAppend]; refine ⟨?_, ?_⟩ <;> intro hc))
      refine okr_append slt169 (hO.ext (Ext.new _ _ _ _)) (hE.trans (Ext.new _ _ _ _)) (ys := [ptAV t.links[k].a, ptAV t.links[k].b]) (by simp) (.inr rfl) (by simp [hpc]) (by simp [hfl, Nat.min_eq_left hk]; omega) ?_
      intro v' τ' hO' hE' _ _
      (try (first | (with_reducible refine dops_go ?_; simp [linksAV, intsAV, a1, a4, a5, w1]) | (with_reducible refine OKv_go ?_; simp [linksAV, intsAV, a1, a4, a5, w1]) | (with_reducible refine OKr_go ?_; simp [linksAV, intsAV, a1, a4, a5, w1]))); repeat' (first | refine awp_seq ?_ | refine awp_block ?_ | (refine awp_skip ?_; try simp) | (refine awp_exit ?_; try simp) | (refine awp_ret ?_; try simp) | (refine retP_same (by simp) ?_; simp) | (refine retP_flat (by simp) (by simp) (by simp (maxDischargeDepth := 30) [linksAV, intsAV, a1, a4, a5, w1]) ?_; simp) | (refine awp_reg ?_; simp [linksAV, intsAV, a1, a4, a5, w1]) | (refine awp_drawT (fun _ => false) mixed (by decide +kernel) ?_; simp [linksAV, intsAV, a1, a4, a5, w1]) | (refine guarded_split ?_ ?_ <;> (intro hg; simp only [hg]; simp [linksAV, intsAV, a1, a4, a5, w1])) | (apply awp_cond_t; focus (simp [linksAV, intsAV, a1, a4, a5, w1]; done)) | (apply awp_cond_f; focus (simp [linksAV, intsAV, a1, a4, a5, w1]; done)) | (refine awp_cond ?_; simp [linksAV, intsAV, a1, a4, a5, w1]; refine ⟨?_, ?_⟩ <;> intro hc))
      exact hI1 (t.links.length - (k + 1)) _ _ (by omega) ⟨hE', by simp [a1, intsAV, linksAV], k + 1, v', by simp, by rw [hfp]; simpa using hO', by simp, by omega, rfl⟩
    · have : k = t.links.length := by omega
      subst this
      rw [List.take_length] at hO
      have hFl := hfl t.links
      obtain ⟨F, hF⟩ : ∃ F, flatP t.links = F := ⟨_, rfl⟩
      have hres : refRightT t = (F.all (hasB t) && nodupB F) := by
        unfold refRightT
        rw [hF, hall, decide_eq_false q1, decide_eq_false q2, decide_eq_false q3]; rfl
      rw [hres]
      rw [hF] at hO hFl
      clear hres hI1 hall hfl
      have hpc : ∀ q : Pt, (ptAV q).cells = [.raw (.int .i64 q.dev), .raw (.int .i64 q.port)] := fun q => rfl
      have hpf : ∀ q : Pt, AV.agg [.raw (.int .i64 q.dev), .raw (.int .i64 q.port)] = ptAV q := fun q => rfl
      have htf : AV.agg [AV.sl 1 (t.ports.map iAV) f.p, AV.sl 4 (t.links.map lkAV) f.l] = tpAV t f := rfl
      have hbin : ∀ x y : Pt, opBin Try.prog .eql 41 (ptAV x) (ptAV y) = some (.raw (.bool (decide (x = y)))) := fun x y => by
        have e1 : opBin Try.prog .eql 41 (ptAV x) (ptAV y) = if Try.prog.eqGuardType Try.prog.depth 41 = false then (structEq Try.prog 4 41 (ptAV x) (ptAV y)).bind fun b => (nilBin .eql b).map .raw else none := rfl
        have := key_eq x y
        rw [e1, if_pos eqg41]
        rw [show structEq Try.prog 4 41 (ptAV x) (ptAV y) = some (decide (x = y)) from this]
        rfl
      (try (first | (with_reducible refine dops_go ?_; simp [linksAV, intsAV, a1, a4, a5]) | (with_reducible refine OKv_go ?_; simp [linksAV, intsAV, a1, a4, a5]) | (with_reducible refine OKr_go ?_; simp [linksAV, intsAV, a1, a4, a5]))); repeat' (first | refine awp_seq ?_ | refine awp_block ?_ | (refine awp_skip ?_; try simp) | (refine awp_exit ?_; try simp) | (refine awp_ret ?_; try simp) | (refine retP_same (by simp) ?_; simp) | (refine retP_flat (by simp) (by simp) (by simp (maxDischargeDepth := 30) [linksAV, intsAV, a1, a4, a5]) ?_; simp) | (refine awp_reg ?_; simp [linksAV, intsAV, a1, a4, a5]) | (refine awp_drawT (fun _ => false) mixed (by decide +kernel) ?_; simp [linksAV, intsAV, a1, a4, a5]) | (refine guarded_split ?_ ?_ <;> (intro hg; simp only [hg]; simp [linksAV, intsAV, a1, a4, a5])) | (apply awp_cond_t; focus (simp [linksAV, intsAV, a1, a4, a5]; done)) | (apply awp_cond_f; focus (simp [linksAV, intsAV, a1, a4, a5]; done)) | (refine awp_cond ?_; simp [linksAV, intsAV, a1, a4, a5]; refine ⟨?_, ?_⟩ <;> intro hc))
      refine awp_settle 4 (by simpa [a4] using hO) hE ?_
      intro A' τ' hE' e4 hf _ _ _ _
      have b1 : A' 1 = .pp [intsAV t.ports f.p, linksAV t.links f.l] 0 := by rw [hf 1 (by simp) (by simp [a1])]; simp [a1]
      have b6 : A' 6 = .raw (.int .i64 0) := by rw [hf 6 (by simp) (by simp)]; simp
      clear hf hE a1 a4 a5 hO
      refine awp_loopH (fun n B ρ => Ext σ ρ ∧ B 1 = .pp [intsAV t.ports f.p, linksAV t.links f.l] 0 ∧ B 4 = .sl 2 (F.map ptAV) false ∧ ∃ i : Nat, B 6 = .raw (.int .i64 i) ∧ i ≤ F.length ∧ n = F.length - i ∧ (F.take i).all (hasB t) = true ∧ (F.take i).Nodup) F.length ?_ ?_
      · exact ⟨hE', b1, e4, 0, by simp [b6], by omega, by omega, by simp, by simp⟩
      clear hE' b1 e4 b6
      rintro n B ρ ⟨hE, a1, a4, i, a6, hi, rfl, hal, hnd⟩ I1 hI1
      by_cases hlt : i < F.length
      · have hx : F[i]? = some F[i] := List.getElem?_eq_getElem hlt
        have w1 : IntKind.i64.wrap ((i : Int) + 1) = ((i + 1 : Nat) : Int) := by rw [wrap64 (by omega) (by omega)]; omega
        have hh := refHas_calls t f F[i] hl
        by_cases hb : hasB t F[i] = true
        · rw [hb] at hh
          (try (first | (with_reducible refine dops_go ?_; simp [-cellOK, linksAV, intsAV, a1, a4, a6, hlt, hx, hpc, htf]) | (with_reducible refine OKv_go ?_; simp [-cellOK, linksAV, intsAV, a1, a4, a6, hlt, hx, hpc, htf]) | (with_reducible refine OKr_go ?_; simp [-cellOK, linksAV, intsAV, a1, a4, a6, hlt, hx, hpc, htf]))); repeat' (first | refine awp_seq ?_ | refine awp_block ?_ | (refine awp_skip ?_; try simp) | (refine awp_exit ?_; try simp) | (refine awp_ret ?_; try simp) | (refine retP_same (by simp) ?_; simp) | (refine retP_no (by simp) (by simp [noIds]) (by repeat (first | assumption | exact Ext.refl _ | refine ext_new' ?_ | refine Ext.setF ?_ (by first | assumption | (simp [new_nx', St.set, fresh_none]; done) | exact ext_fresh (by assumption)))) ?_; simp [-cellOK, linksAV, intsAV, a1, a4, a6, hlt, hx, hpc, htf, new_m, set_m, new_nx']) | (refine awp_reg ?_; simp [-cellOK, linksAV, intsAV, a1, a4, a6, hlt, hx, hpc, htf]) | (refine awp_drawT (fun _ => false) mixed (by decide +kernel) ?_; simp [-cellOK, linksAV, intsAV, a1, a4, a6, hlt, hx, hpc, htf]) | (refine guarded_split ?_ ?_ <;> (intro hg; simp only [hg]; simp [-cellOK, linksAV, intsAV, a1, a4, a6, hlt, hx, hpc, htf])) | (apply awp_cond_t; focus (simp [-cellOK, linksAV, intsAV, a1, a4, a6, hlt, hx, hpc, htf]; done)) | (apply awp_cond_f; focus (simp [-cellOK, linksAV, intsAV, a1, a4, a6, hlt, hx, hpc, htf]; done)) | (refine awp_cond ?_; simp [-cellOK, linksAV, intsAV, a1, a4, a6, hlt, hx, hpc, htf]; refine ⟨?_, ?_⟩ <;> intro hc) | (refine awp_drawT isCallO mixed (by decide +kernel) ?_; simp [-cellOK, linksAV, intsAV, a1, a4, a6, hlt, hx, hpc, htf]) | (refine PCalls.use (hh) ?_; simp [-cellOK, linksAV, intsAV, a1, a4, a6, hlt, hx, hpc, htf]) | (refine Or.inl ⟨_, Or.inl (hh), ?_⟩; simp [-cellOK, linksAV, intsAV, a1, a4, a6, hlt, hx, hpc, htf]) | fail)
          refine awp_loopH (fun n B ρ => Ext σ ρ ∧ B 1 = .pp [intsAV t.ports f.p, linksAV t.links f.l] 0 ∧ B 4 = .sl 2 (F.map ptAV) false ∧ B 6 = .raw (.int .i64 i) ∧ ∃ k : Nat, B 8 = .raw (.int .i64 k) ∧ k ≤ i ∧ n = i - k ∧ ∀ j, (hj : j < k) → (hji : j < F.length) → F[j] ≠ F[i]) i ?_ ?_
          · exact ⟨by simp [hE], by simp [a1, linksAV, intsAV], by simp [a4], by simp [a6], 0, by simp, by omega, by omega, fun j hj => by omega⟩
          rintro n C τ ⟨hE, a1, a4, a6, k, a8, hk, rfl, hne⟩ J1 hJ1
          by_cases hki : k < i
          · have hkl : k < F.length := by omega
            have hx2 : F[k]? = some F[k] := List.getElem?_eq_getElem hkl
            have w2 : IntKind.i64.wrap ((k : Int) + 1) = ((k + 1 : Nat) : Int) := by rw [wrap64 (by omega) (by omega)]; omega
            by_cases he : F[k] = F[i]
            · have hnn : nodupB F = false := by
                cases h : nodupB F with
                | false => rfl
                | true =>
                  have := (nodupB_iff _).1 h
                  exact absurd he (List.pairwise_iff_getElem.1 this k i hkl hlt hki)
              have hd : decide (F[k] = F[i]) = true := decide_eq_true he
              rw [show (F.all (hasB t) && nodupB F) = false by rw [hnn, Bool.and_false]]
              (try (first | (with_reducible refine dops_go ?_; simp [-cellOK, linksAV, intsAV, hE, a1, a4, a6, a8, hlt, hx, hkl, hki, hx2, w2, hpc, hpf, -opBin, hbin, opBin_raw, hd]) | (with_reducible refine OKv_go ?_; simp [-cellOK, linksAV, intsAV, hE, a1, a4, a6, a8, hlt, hx, hkl, hki, hx2, w2, hpc, hpf, -opBin, hbin, opBin_raw, hd]) | (with_reducible refine OKr_go ?_; simp [-cellOK, linksAV, intsAV, hE, a1, a4, a6, a8, hlt, hx, hkl, hki, hx2, w2, hpc, hpf, -opBin, hbin, opBin_raw, hd]))); repeat' (first | refine awp_seq ?_ | refine awp_block ?_ | (refine awp_skip ?_; try simp) | (refine awp_exit ?_; try simp) | (refine awp_ret ?_; try simp) | (refine retP_same (by simp) ?_; simp) | (refine retP_no (by simp) (by simp [noIds]) (by repeat (first | assumption | exact Ext.refl _ | refine ext_new' ?_ | refine Ext.setF ?_ (by first | assumption | (simp [new_nx', St.set, fresh_none]; done) | exact ext_fresh (by assumption)))) ?_; simp [-cellOK, linksAV, intsAV, hE, a1, a4, a6, a8, hlt, hx, hkl, hki, hx2, w2, hpc, hpf, -opBin, hbin, opBin_raw, hd, new_m, set_m, new_nx']) | (refine awp_reg ?_; simp [-cellOK, linksAV, intsAV, hE, a1, a4, a6, a8, hlt, hx, hkl, hki, hx2, w2, hpc, hpf, -opBin, hbin, opBin_raw, hd]) | (refine awp_drawT (fun _ => false) mixed (by decide +kernel) ?_; simp [-cellOK, linksAV, intsAV, hE, a1, a4, a6, a8, hlt, hx, hkl, hki, hx2, w2, hpc, hpf, -opBin, hbin, opBin_raw, hd]) | (refine guarded_split ?_ ?_ <;> (intro hg; simp only [hg]; simp [-cellOK, linksAV, intsAV, hE, a1, a4, a6, a8, hlt, hx, hkl, hki, hx2, w2, hpc, hpf, -opBin, hbin, opBin_raw, hd])) | (apply awp_cond_t; focus (simp [-cellOK, linksAV, intsAV, hE, a1, a4, a6, a8, hlt, hx, hkl, hki, hx2, w2, hpc, hpf, -opBin, hbin, opBin_raw, hd]; done)) | (apply awp_cond_f; focus (simp [-cellOK, linksAV, intsAV, hE, a1, a4, a6, a8, hlt, hx, hkl, hki, hx2, w2, hpc, hpf, -opBin, hbin, opBin_raw, hd]; done)) | (refine awp_cond ?_; simp [-cellOK, linksAV, intsAV, hE, a1, a4, a6, a8, hlt, hx, hkl, hki, hx2, w2, hpc, hpf, -opBin, hbin, opBin_raw, hd]; refine ⟨?_, ?_⟩ <;> intro hc) | (refine awp_drawT isCallO mixed (by decide +kernel) ?_; simp [-cellOK, linksAV, intsAV, hE, a1, a4, a6, a8, hlt, hx, hkl, hki, hx2, w2, hpc, hpf, -opBin, hbin, opBin_raw, hd]) | (refine PCalls.use (hh) ?_; simp [-cellOK, linksAV, intsAV, hE, a1, a4, a6, a8, hlt, hx, hkl, hki, hx2, w2, hpc, hpf, -opBin, hbin, opBin_raw, hd]) | (refine Or.inl ⟨_, Or.inl (hh), ?_⟩; simp [-cellOK, linksAV, intsAV, hE, a1, a4, a6, a8, hlt, hx, hkl, hki, hx2, w2, hpc, hpf, -opBin, hbin, opBin_raw, hd]) | fail)
            · have hd : decide (F[k] = F[i]) = false := decide_eq_false he
              (try (first | (with_reducible refine dops_go ?_; simp [-cellOK, linksAV, intsAV, a1, a4, a6, a8, hlt, hx, hkl, hki, hx2, w2, hpc, hpf, -opBin, hbin, opBin_raw, hd]) | (with_reducible refine OKv_go ?_; simp [-cellOK, linksAV, intsAV, a1, a4, a6, a8, hlt, hx, hkl, hki, hx2, w2, hpc, hpf, -opBin, hbin, opBin_raw, hd]) | (with_reducible refine OKr_go ?_; simp [-cellOK, linksAV, intsAV, a1, a4, a6, a8, hlt, hx, hkl, hki, hx2, w2, hpc, hpf, -opBin, hbin, opBin_raw, hd]))); repeat' (first | refine awp_seq ?_ | refine awp_block ?_ | (refine awp_skip ?_; try simp) | (refine awp_exit ?_; try simp) | (refine awp_ret ?_; try simp) | (refine retP_same (by simp) ?_; simp) | (refine retP_no (by simp) (by simp [noIds]) (by repeat (first | assumption | exact Ext.refl _ | refine ext_new' ?_ | refine Ext.setF ?_ (by first | assumption | (simp [new_nx', St.set, fresh_none]; done) | exact ext_fresh (by assumption)))) ?_; simp [-cellOK, linksAV, intsAV, a1, a4, a6, a8, hlt, hx, hkl, hki, hx2, w2, hpc, hpf, -opBin, hbin, opBin_raw, hd, new_m, set_m, new_nx']) | (refine awp_reg ?_; simp [-cellOK, linksAV, intsAV, a1, a4, a6, a8, hlt, hx, hkl, hki, hx2, w2, hpc, hpf, -opBin, hbin, opBin_raw, hd]) | (refine awp_drawT (fun _ => false) mixed (by decide +kernel) ?_; simp [-cellOK, linksAV, intsAV, a1, a4, a6, a8, hlt, hx, hkl, hki, hx2, w2, hpc, hpf, -opBin, hbin, opBin_raw, hd]) | (refine guarded_split ?_ ?_ <;> (intro hg; simp only [hg]; simp [-cellOK, linksAV, intsAV, a1, a4, a6, a8, hlt, hx, hkl, hki, hx2, w2, hpc, hpf, -opBin, hbin, opBin_raw, hd])) | (apply awp_cond_t; focus (simp [-cellOK, linksAV, intsAV, a1, a4, a6, a8, hlt, hx, hkl, hki, hx2, w2, hpc, hpf, -opBin, hbin, opBin_raw, hd]; done)) | (apply awp_cond_f; focus (simp [-cellOK, linksAV, intsAV, a1, a4, a6, a8, hlt, hx, hkl, hki, hx2, w2, hpc, hpf, -opBin, hbin, opBin_raw, hd]; done)) | (refine awp_cond ?_; simp [-cellOK, linksAV, intsAV, a1, a4, a6, a8, hlt, hx, hkl, hki, hx2, w2, hpc, hpf, -opBin, hbin, opBin_raw, hd]; refine ⟨?_, ?_⟩ <;> intro hc) | (refine awp_drawT isCallO mixed (by decide +kernel) ?_; simp [-cellOK, linksAV, intsAV, a1, a4, a6, a8, hlt, hx, hkl, hki, hx2, w2, hpc, hpf, -opBin, hbin, opBin_raw, hd]) | (refine PCalls.use (hh) ?_; simp [-cellOK, linksAV, intsAV, a1, a4, a6, a8, hlt, hx, hkl, hki, hx2, w2, hpc, hpf, -opBin, hbin, opBin_raw, hd]) | (refine Or.inl ⟨_, Or.inl (hh), ?_⟩; simp [-cellOK, linksAV, intsAV, a1, a4, a6, a8, hlt, hx, hkl, hki, hx2, w2, hpc, hpf, -opBin, hbin, opBin_raw, hd]) | fail)
              exact hJ1 (i - (k + 1)) _ _ (by omega) ⟨hE, by simp [a1, linksAV, intsAV], by simp [a4], by simp [a6], k + 1, by simp, by omega, rfl, fun j hj hji => by
                by_cases e : j = k
                · subst e; exact he
                · exact hne j (by omega) hji⟩
          · have : k = i := by omega
            subst this
            (try (first | (with_reducible refine dops_go ?_; simp [-cellOK, linksAV, intsAV, a1, a4, a6, a8, w1]) | (with_reducible refine OKv_go ?_; simp [-cellOK, linksAV, intsAV, a1, a4, a6, a8, w1]) | (with_reducible refine OKr_go ?_; simp [-cellOK, linksAV, intsAV, a1, a4, a6, a8, w1]))); repeat' (first | refine awp_seq ?_ | refine awp_block ?_ | (refine awp_skip ?_; try simp) | (refine awp_exit ?_; try simp) | (refine awp_ret ?_; try simp) | (refine retP_same (by simp) ?_; simp) | (refine retP_no (by simp) (by simp [noIds]) (by repeat (first | assumption | exact Ext.refl _ | refine ext_new' ?_ | refine Ext.setF ?_ (by first | assumption | (simp [new_nx', St.set, fresh_none]; done) | exact ext_fresh (by assumption)))) ?_; simp [-cellOK, linksAV, intsAV, a1, a4, a6, a8, w1, new_m, set_m, new_nx']) | (refine awp_reg ?_; simp [-cellOK, linksAV, intsAV, a1, a4, a6, a8, w1]) | (refine awp_drawT (fun _ => false) mixed (by decide +kernel) ?_; simp [-cellOK, linksAV, intsAV, a1, a4, a6, a8, w1]) | (refine guarded_split ?_ ?_ <;> (intro hg; simp only [hg]; simp [-cellOK, linksAV, intsAV, a1, a4, a6, a8, w1])) | (apply awp_cond_t; focus (simp [-cellOK, linksAV, intsAV, a1, a4, a6, a8, w1]; done)) | (apply awp_cond_f; focus (simp [-cellOK, linksAV, intsAV, a1, a4, a6, a8, w1]; done)) | (refine awp_cond ?_; simp [-cellOK, linksAV, intsAV, a1, a4, a6, a8, w1]; refine ⟨?_, ?_⟩ <;> intro hc) | (refine awp_drawT isCallO mixed (by decide +kernel) ?_; simp [-cellOK, linksAV, intsAV, a1, a4, a6, a8, w1]) | (refine PCalls.use (hh) ?_; simp [-cellOK, linksAV, intsAV, a1, a4, a6, a8, w1]) | (refine Or.inl ⟨_, Or.inl (hh), ?_⟩; simp [-cellOK, linksAV, intsAV, a1, a4, a6, a8, w1]) | fail)
            refine hI1 (F.length - (k + 1)) _ _ (by omega) ⟨hE, by simp [a1, linksAV, intsAV], by simp [a4], k + 1, by simp, by omega, rfl, ?_, ?_⟩
            · rw [List.take_add_one, hx, List.all_append, hal, Option.toList_some, List.all_cons, hb]; rfl
            · rw [List.take_add_one, hx, List.nodup_append]
              refine ⟨hnd, by simp, fun a ha b hbm e => ?_⟩
              simp only [Option.toList_some, List.mem_singleton] at hbm
              subst hbm; subst e
              obtain ⟨j, hj, e2⟩ := List.mem_iff_getElem.1 ha
              simp only [List.length_take] at hj
              rw [List.getElem_take] at e2
              exact hne j (by omega) (by omega) e2
        · have hb' : hasB t F[i] = false := by simpa using hb
          rw [hb'] at hh
          have hF0 : F.all (hasB t) = false := by
            rw [List.all_eq_false]
            exact ⟨_, List.getElem_mem hlt, by simp [hb']⟩
          rw [show (F.all (hasB t) && nodupB F) = false by rw [hF0, Bool.false_and]]
          (try (first | (with_reducible refine dops_go ?_; simp [-cellOK, linksAV, intsAV, hE, a1, a4, a6, hlt, hx, hpc, hpf, htf]) | (with_reducible refine OKv_go ?_; simp [-cellOK, linksAV, intsAV, hE, a1, a4, a6, hlt, hx, hpc, hpf, htf]) | (with_reducible refine OKr_go ?_; simp [-cellOK, linksAV, intsAV, hE, a1, a4, a6, hlt, hx, hpc, hpf, htf]))); repeat' (first | refine awp_seq ?_ | refine awp_block ?_ | (refine awp_skip ?_; try simp) | (refine awp_exit ?_; try simp) | (refine awp_ret ?_; try simp) | (refine retP_same (by simp) ?_; simp) | (refine retP_no (by simp) (by simp [noIds]) (by repeat (first | assumption | exact Ext.refl _ | refine ext_new' ?_ | refine Ext.setF ?_ (by first | assumption | (simp [new_nx', St.set, fresh_none]; done) | exact ext_fresh (by assumption)))) ?_; simp [-cellOK, linksAV, intsAV, hE, a1, a4, a6, hlt, hx, hpc, hpf, htf, new_m, set_m, new_nx']) | (refine awp_reg ?_; simp [-cellOK, linksAV, intsAV, hE, a1, a4, a6, hlt, hx, hpc, hpf, htf]) | (refine awp_drawT (fun _ => false) mixed (by decide +kernel) ?_; simp [-cellOK, linksAV, intsAV, hE, a1, a4, a6, hlt, hx, hpc, hpf, htf]) | (refine guarded_split ?_ ?_ <;> (intro hg; simp only [hg]; simp [-cellOK, linksAV, intsAV, hE, a1, a4, a6, hlt, hx, hpc, hpf, htf])) | (apply awp_cond_t; focus (simp [-cellOK, linksAV, intsAV, hE, a1, a4, a6, hlt, hx, hpc, hpf, htf]; done)) | (apply awp_cond_f; focus (simp [-cellOK, linksAV, intsAV, hE, a1, a4, a6, hlt, hx, hpc, hpf, htf]; done)) | (refine awp_cond ?_; simp [-cellOK, linksAV, intsAV, hE, a1, a4, a6, hlt, hx, hpc, hpf, htf]; refine ⟨?_, ?_⟩ <;> intro hc) | (refine awp_drawT isCallO mixed (by decide +kernel) ?_; simp [-cellOK, linksAV, intsAV, hE, a1, a4, a6, hlt, hx, hpc, hpf, htf]) | (refine PCalls.use (hh) ?_; simp [-cellOK, linksAV, intsAV, hE, a1, a4, a6, hlt, hx, hpc, hpf, htf]) | (refine Or.inl ⟨_, Or.inl (hh), ?_⟩; simp [-cellOK, linksAV, intsAV, hE, a1, a4, a6, hlt, hx, hpc, hpf, htf]) | fail)
      · have : i = F.length := by omega
        subst this
        rw [List.take_length] at hal hnd
        have hnn := (nodupB_iff F).2 hnd
        rw [hal, hnn]
        (try (first | (with_reducible refine dops_go ?_; simp [-cellOK, linksAV, intsAV, hE, a1, a4, a6]) | (with_reducible refine OKv_go ?_; simp [-cellOK, linksAV, intsAV, hE, a1, a4, a6]) | (with_reducible refine OKr_go ?_; simp [-cellOK, linksAV, intsAV, hE, a1, a4, a6]))); repeat' (first | refine awp_seq ?_ | refine awp_block ?_ | (refine awp_skip ?_; try simp) | (refine awp_exit ?_; try simp) | (refine awp_ret ?_; try simp) | (refine retP_same (by simp) ?_; simp) | (refine retP_no (by simp) (by simp [noIds]) (by repeat (first | assumption | exact Ext.refl _ | refine ext_new' ?_ | refine Ext.setF ?_ (by first | assumption | (simp [new_nx', St.set, fresh_none]; done) | exact ext_fresh (by assumption)))) ?_; simp [-cellOK, linksAV, intsAV, hE, a1, a4, a6, new_m, set_m, new_nx']) | (refine awp_reg ?_; simp [-cellOK, linksAV, intsAV, hE, a1, a4, a6]) | (refine awp_drawT (fun _ => false) mixed (by decide +kernel) ?_; simp [-cellOK, linksAV, intsAV, hE, a1, a4, a6]) | (refine guarded_split ?_ ?_ <;> (intro hg; simp only [hg]; simp [-cellOK, linksAV, intsAV, hE, a1, a4, a6])) | (apply awp_cond_t; focus (simp [-cellOK, linksAV, intsAV, hE, a1, a4, a6]; done)) | (apply awp_cond_f; focus (simp [-cellOK, linksAV, intsAV, hE, a1, a4, a6]; done)) | (refine awp_cond ?_; simp [-cellOK, linksAV, intsAV, hE, a1, a4, a6]; refine ⟨?_, ?_⟩ <;> intro hc) | (refine awp_drawT isCallO mixed (by decide +kernel) ?_; simp [-cellOK, linksAV, intsAV, hE, a1, a4, a6]) | fail)
end Go.Proofs.Ytanimmdlgmkmkaa.Av

/- Networks: the document's right rules, all of them. -/
namespace Go.Proofs.Ytanimmdlgmkmkaa.Av
open Go
set_option linter.unusedSimpArgs false
set_option linter.unusedVariables false
set_option maxRecDepth 100000
set_option maxHeartbeats 2000000
set_option pp.maxSteps 300

/-- The ID ahead of the place i. -/
def idAt (l : List Ru) (i : Nat) : Int := match i with | 0 => 0 | k + 1 => match l[k]? with | some r => r.id | none => 0
theorem refAll_calls (l : List Ru) (f : Bool) (hl : l.length < 2 ^ 40) (hid : ∀ r ∈ l, -9223372036854775808 ≤ r.id ∧ r.id < 9223372036854775808) : PCalls Try.prog 81 [rulesAV l f] (.raw (.bool (allB l))) := by
  refine pbody Try.func81 rfl (N := 39) rfl rfl (by simp) (by simp [noIds]) fun σ => ?_
  (try (first | (with_reducible refine dops_go ?_; simp [rulesAV]) | (with_reducible refine OKv_go ?_; simp [rulesAV]) | (with_reducible refine OKr_go ?_; simp [rulesAV]))); repeat' (first | refine awp_seq ?_ | refine awp_block ?_ | (refine awp_skip ?_; try simp) | (refine awp_exit ?_; try simp) | (refine awp_ret ?_; try simp) | (refine retP_same (by simp) ?_; simp) | (refine retP_flat (by simp) (by simp) (by simp (maxDischargeDepth := 30) [rulesAV]) ?_; simp) | (refine awp_reg ?_; simp [rulesAV]) | (refine awp_drawT (fun _ => false) mixed (by decide +kernel) ?_; simp [rulesAV]) | (refine guarded_split ?_ ?_ <;> (intro hg; simp only [hg]; simp [rulesAV])) | (apply awp_cond_t; focus (simp [rulesAV]; done)) | (apply awp_cond_f; focus (simp [rulesAV]; done)) | (refine awp_cond ?_; simp [rulesAV]; refine ⟨?_, ?_⟩ <;> intro hc))
  refine awp_loopH (fun n A τ => τ = σ ∧ A 0 = rulesAV l f ∧ ∃ i : Nat, A 3 = .raw (.int .i64 i) ∧ i ≤ l.length ∧ n = l.length - i ∧ allFrom 0 l = allFrom (idAt l i) (l.drop i)) l.length ?_ ?_
  · exact ⟨rfl, by simp [rulesAV], 0, by simp, by omega, by omega, by simp [idAt]⟩
  rintro n A τ ⟨rfl, a0, i, a3, hi, rfl, hall⟩ I1 hI1
  by_cases hlt : i < l.length
  · have hx : l[i]? = some l[i] := List.getElem?_eq_getElem hlt
    have w1 : IntKind.i64.wrap ((i : Int) + 1) = ((i + 1 : Nat) : Int) := by rw [wrap64 (by omega) (by omega)]; omega
    have hd : l.drop i = l[i] :: l.drop (i + 1) := List.drop_eq_getElem_cons hlt
    rw [hd] at hall
    simp only [allFrom] at hall
    obtain ⟨b, hb⟩ : ∃ b, ruleB l[i] = b := ⟨_, rfl⟩
    have hr := hb ▸ refRuleRight_calls l[i] (hid _ (List.getElem_mem _)).1 (hid _ (List.getElem_mem _)).2
    rw [hb] at hall
    (try (first | (with_reducible refine dops_go ?_; simp [rulesAV, a0, a3, hlt, hx, ru_cells, ru_ok, ru_fold, w1]) | (with_reducible refine OKv_go ?_; simp [rulesAV, a0, a3, hlt, hx, ru_cells, ru_ok, ru_fold, w1]) | (with_reducible refine OKr_go ?_; simp [rulesAV, a0, a3, hlt, hx, ru_cells, ru_ok, ru_fold, w1]))); repeat' (first | refine awp_seq ?_ | refine awp_block ?_ | (refine awp_skip ?_; try simp) | (refine awp_exit ?_; try simp) | (refine awp_ret ?_; try simp) | (refine retP_same (by simp) ?_; simp) | (refine retP_flat (by simp) (by simp) (by simp (maxDischargeDepth := 30) [rulesAV, a0, a3, hlt, hx, ru_cells, ru_ok, ru_fold, w1]) ?_; simp) | (refine awp_reg ?_; simp [rulesAV, a0, a3, hlt, hx, ru_cells, ru_ok, ru_fold, w1]) | (refine awp_drawT (fun _ => false) mixed (by decide +kernel) ?_; simp [rulesAV, a0, a3, hlt, hx, ru_cells, ru_ok, ru_fold, w1]) | (refine guarded_split ?_ ?_ <;> (intro hg; simp only [hg]; simp [rulesAV, a0, a3, hlt, hx, ru_cells, ru_ok, ru_fold, w1])) | (apply awp_cond_t; focus (simp [rulesAV, a0, a3, hlt, hx, ru_cells, ru_ok, ru_fold, w1]; done)) | (apply awp_cond_f; focus (simp [rulesAV, a0, a3, hlt, hx, ru_cells, ru_ok, ru_fold, w1]; done)) | (refine awp_cond ?_; simp [rulesAV, a0, a3, hlt, hx, ru_cells, ru_ok, ru_fold, w1]; refine ⟨?_, ?_⟩ <;> intro hc))
    refine PCalls.use hr ?_
    cases b with
    | false =>
      (try (first | (with_reducible refine dops_go ?_; simp [rulesAV, a0, a3, hlt, hx, ru_cells, ru_ok, ru_fold, w1]) | (with_reducible refine OKv_go ?_; simp [rulesAV, a0, a3, hlt, hx, ru_cells, ru_ok, ru_fold, w1]) | (with_reducible refine OKr_go ?_; simp [rulesAV, a0, a3, hlt, hx, ru_cells, ru_ok, ru_fold, w1]))); repeat' (first | refine awp_seq ?_ | refine awp_block ?_ | (refine awp_skip ?_; try simp) | (refine awp_exit ?_; try simp) | (refine awp_ret ?_; try simp) | (refine retP_same (by simp) ?_; simp) | (refine retP_flat (by simp) (by simp) (by simp (maxDischargeDepth := 30) [rulesAV, a0, a3, hlt, hx, ru_cells, ru_ok, ru_fold, w1]) ?_; simp) | (refine awp_reg ?_; simp [rulesAV, a0, a3, hlt, hx, ru_cells, ru_ok, ru_fold, w1]) | (refine awp_drawT (fun _ => false) mixed (by decide +kernel) ?_; simp [rulesAV, a0, a3, hlt, hx, ru_cells, ru_ok, ru_fold, w1]) | (refine guarded_split ?_ ?_ <;> (intro hg; simp only [hg]; simp [rulesAV, a0, a3, hlt, hx, ru_cells, ru_ok, ru_fold, w1])) | (apply awp_cond_t; focus (simp [rulesAV, a0, a3, hlt, hx, ru_cells, ru_ok, ru_fold, w1]; done)) | (apply awp_cond_f; focus (simp [rulesAV, a0, a3, hlt, hx, ru_cells, ru_ok, ru_fold, w1]; done)) | (refine awp_cond ?_; simp [rulesAV, a0, a3, hlt, hx, ru_cells, ru_ok, ru_fold, w1]; refine ⟨?_, ?_⟩ <;> intro hc))
      all_goals simp [allB, hall]
    | true =>
      cases i with
      | zero =>
        have hpos : 1 ≤ l[0].id := by
          have := hb; unfold ruleB at this; simp at this; omega
        (try (first | (with_reducible refine dops_go ?_; simp [rulesAV, a0, a3, hlt, hx, ru_cells, ru_ok, ru_fold, w1]) | (with_reducible refine OKv_go ?_; simp [rulesAV, a0, a3, hlt, hx, ru_cells, ru_ok, ru_fold, w1]) | (with_reducible refine OKr_go ?_; simp [rulesAV, a0, a3, hlt, hx, ru_cells, ru_ok, ru_fold, w1]))); repeat' (first | refine awp_seq ?_ | refine awp_block ?_ | (refine awp_skip ?_; try simp) | (refine awp_exit ?_; try simp) | (refine awp_ret ?_; try simp) | (refine retP_same (by simp) ?_; simp) | (refine retP_flat (by simp) (by simp) (by simp (maxDischargeDepth := 30) [rulesAV, a0, a3, hlt, hx, ru_cells, ru_ok, ru_fold, w1]) ?_; simp) | (refine awp_reg ?_; simp [rulesAV, a0, a3, hlt, hx, ru_cells, ru_ok, ru_fold, w1]) | (refine awp_drawT (fun _ => false) mixed (by decide +kernel) ?_; simp [rulesAV, a0, a3, hlt, hx, ru_cells, ru_ok, ru_fold, w1]) | (refine guarded_split ?_ ?_ <;> (intro hg; simp only [hg]; simp [rulesAV, a0, a3, hlt, hx, ru_cells, ru_ok, ru_fold, w1])) | (apply awp_cond_t; focus (simp [rulesAV, a0, a3, hlt, hx, ru_cells, ru_ok, ru_fold, w1]; done)) | (apply awp_cond_f; focus (simp [rulesAV, a0, a3, hlt, hx, ru_cells, ru_ok, ru_fold, w1]; done)) | (refine awp_cond ?_; simp [rulesAV, a0, a3, hlt, hx, ru_cells, ru_ok, ru_fold, w1]; refine ⟨?_, ?_⟩ <;> intro hc))
        have w0 : IntKind.i64.wrap 1 = 1 := wrap64 (by omega) (by omega)
        have hx0 : l[0]? = some l[0] := hx
        have h0 : (0 : Int) < l[0].id := by omega
        have h1 : idAt l 1 = l[0].id := by simp [idAt, hx0]
        exact hI1 (l.length - 1) _ _ (by omega) ⟨rfl, by simp [a0, rulesAV], 1, by simp [w0], by omega, rfl, by rw [hall, h1]; simp [idAt, h0]⟩
      | succ k =>
        have hk : k < l.length := by omega
        have hxk : l[k]? = some l[k] := List.getElem?_eq_getElem hk
        have w2 : IntKind.i64.wrap (k : Int) = k := wrap64 (by omega) (by omega)
        have hp0 : (0 : Int) ≤ (k : Int) + 1 := by omega
        have htn : ((k : Int) + 1).toNat = k + 1 := by omega
        have w4 : IntKind.i64.wrap ((k : Int) + 1 + 1) = (k : Int) + 1 + 1 := wrap64 (by omega) (by omega)
        have w3 : IntKind.i64.wrap ((k : Int) + 1 - 1) = k := by rw [wrap64 (by omega) (by omega)]; omega
        have hidk : idAt l (k + 1) = l[k].id := by simp [idAt, hxk]
        rw [hidk] at hall
        have hpk : (0 : Int) < (k : Int) + 1 := by omega
        by_cases hle : l[k + 1].id ≤ l[k].id
        · have hnl : ¬ l[k].id < l[k + 1].id := by omega
          (try (first | (with_reducible refine dops_go ?_; simp [rulesAV, a0, a3, hlt, hx, hk, hxk, ru_cells, ru_ok, ru_fold, w1, w2, w3, w4, hp0, htn, hpk, hle]) | (with_reducible refine OKv_go ?_; simp [rulesAV, a0, a3, hlt, hx, hk, hxk, ru_cells, ru_ok, ru_fold, w1, w2, w3, w4, hp0, htn, hpk, hle]) | (with_reducible refine OKr_go ?_; simp [rulesAV, a0, a3, hlt, hx, hk, hxk, ru_cells, ru_ok, ru_fold, w1, w2, w3, w4, hp0, htn, hpk, hle]))); repeat' (first | refine awp_seq ?_ | refine awp_block ?_ | (refine awp_skip ?_; try simp) | (refine awp_exit ?_; try simp) | (refine awp_ret ?_; try simp) | (refine retP_same (by simp) ?_; simp) | (refine retP_flat (by simp) (by simp) (by simp (maxDischargeDepth := 30) [rulesAV, a0, a3, hlt, hx, hk, hxk, ru_cells, ru_ok, ru_fold, w1, w2, w3, w4, hp0, htn, hpk, hle]) ?_; simp) | (refine awp_reg ?_; simp [rulesAV, a0, a3, hlt, hx, hk, hxk, ru_cells, ru_ok, ru_fold, w1, w2, w3, w4, hp0, htn, hpk, hle]) | (refine awp_drawT (fun _ => false) mixed (by decide +kernel) ?_; simp [rulesAV, a0, a3, hlt, hx, hk, hxk, ru_cells, ru_ok, ru_fold, w1, w2, w3, w4, hp0, htn, hpk, hle]) | (refine guarded_split ?_ ?_ <;> (intro hg; simp only [hg]; simp [rulesAV, a0, a3, hlt, hx, hk, hxk, ru_cells, ru_ok, ru_fold, w1, w2, w3, w4, hp0, htn, hpk, hle])) | (apply awp_cond_t; focus (simp [rulesAV, a0, a3, hlt, hx, hk, hxk, ru_cells, ru_ok, ru_fold, w1, w2, w3, w4, hp0, htn, hpk, hle]; done)) | (apply awp_cond_f; focus (simp [rulesAV, a0, a3, hlt, hx, hk, hxk, ru_cells, ru_ok, ru_fold, w1, w2, w3, w4, hp0, htn, hpk, hle]; done)) | (refine awp_cond ?_; simp [rulesAV, a0, a3, hlt, hx, hk, hxk, ru_cells, ru_ok, ru_fold, w1, w2, w3, w4, hp0, htn, hpk, hle]; refine ⟨?_, ?_⟩ <;> intro hc))
          all_goals simp [allB, hall, hnl]
        · have hg : l[k].id < l[k + 1].id := by omega
          (try (first | (with_reducible refine dops_go ?_; simp [rulesAV, a0, a3, hlt, hx, hk, hxk, ru_cells, ru_ok, ru_fold, w1, w2, w3, w4, hp0, htn, hpk, hle]) | (with_reducible refine OKv_go ?_; simp [rulesAV, a0, a3, hlt, hx, hk, hxk, ru_cells, ru_ok, ru_fold, w1, w2, w3, w4, hp0, htn, hpk, hle]) | (with_reducible refine OKr_go ?_; simp [rulesAV, a0, a3, hlt, hx, hk, hxk, ru_cells, ru_ok, ru_fold, w1, w2, w3, w4, hp0, htn, hpk, hle]))); repeat' (first | refine awp_seq ?_ | refine awp_block ?_ | (refine awp_skip ?_; try simp) | (refine awp_exit ?_; try simp) | (refine awp_ret ?_; try simp) | (refine retP_same (by simp) ?_; simp) | (refine retP_flat (by simp) (by simp) (by simp (maxDischargeDepth := 30) [rulesAV, a0, a3, hlt, hx, hk, hxk, ru_cells, ru_ok, ru_fold, w1, w2, w3, w4, hp0, htn, hpk, hle]) ?_; simp) | (refine awp_reg ?_; simp [rulesAV, a0, a3, hlt, hx, hk, hxk, ru_cells, ru_ok, ru_fold, w1, w2, w3, w4, hp0, htn, hpk, hle]) | (refine awp_drawT (fun _ => false) mixed (by decide +kernel) ?_; simp [rulesAV, a0, a3, hlt, hx, hk, hxk, ru_cells, ru_ok, ru_fold, w1, w2, w3, w4, hp0, htn, hpk, hle]) | (refine guarded_split ?_ ?_ <;> (intro hg; simp only [hg]; simp [rulesAV, a0, a3, hlt, hx, hk, hxk, ru_cells, ru_ok, ru_fold, w1, w2, w3, w4, hp0, htn, hpk, hle])) | (apply awp_cond_t; focus (simp [rulesAV, a0, a3, hlt, hx, hk, hxk, ru_cells, ru_ok, ru_fold, w1, w2, w3, w4, hp0, htn, hpk, hle]; done)) | (apply awp_cond_f; focus (simp [rulesAV, a0, a3, hlt, hx, hk, hxk, ru_cells, ru_ok, ru_fold, w1, w2, w3, w4, hp0, htn, hpk, hle]; done)) | (refine awp_cond ?_; simp [rulesAV, a0, a3, hlt, hx, hk, hxk, ru_cells, ru_ok, ru_fold, w1, w2, w3, w4, hp0, htn, hpk, hle]; refine ⟨?_, ?_⟩ <;> intro hc))
          exact hI1 (l.length - (k + 1 + 1)) _ _ (by omega) ⟨rfl, by simp [a0, rulesAV], k + 1 + 1, by simp, by omega, rfl, by rw [hall]; simp [idAt, hx, hg]⟩
  · have : i = l.length := by omega
    subst this
    (try (first | (with_reducible refine dops_go ?_; simp [rulesAV, a0, a3]) | (with_reducible refine OKv_go ?_; simp [rulesAV, a0, a3]) | (with_reducible refine OKr_go ?_; simp [rulesAV, a0, a3]))); repeat' (first | refine awp_seq ?_ | refine awp_block ?_ | (refine awp_skip ?_; try simp) | (refine awp_exit ?_; try simp) | (refine awp_ret ?_; try simp) | (refine retP_same (by simp) ?_; simp) | (refine retP_flat (by simp) (by simp) (by simp (maxDischargeDepth := 30) [rulesAV, a0, a3]) ?_; simp) | (refine awp_reg ?_; simp [rulesAV, a0, a3]) | (refine awp_drawT (fun _ => false) mixed (by decide +kernel) ?_; simp [rulesAV, a0, a3]) | (refine guarded_split ?_ ?_ <;> (intro hg; simp only [hg]; simp [rulesAV, a0, a3])) | (apply awp_cond_t; focus (simp [rulesAV, a0, a3]; done)) | (apply awp_cond_f; focus (simp [rulesAV, a0, a3]; done)) | (refine awp_cond ?_; simp [rulesAV, a0, a3]; refine ⟨?_, ?_⟩ <;> intro hc))
    rw [List.drop_length] at hall
    simp only [allFrom] at hall
    simp [allB, hall]
    omega
end Go.Proofs.Ytanimmdlgmkmkaa.Av

/- The laws' own functions: right networks, such as are asked about, the live question of queries. -/
namespace Go.Proofs.Ytanimmdlgmkmkaa.Av
open Go
set_option linter.unusedSimpArgs false
set_option linter.unusedVariables false
set_option maxRecDepth 100000
set_option maxHeartbeats 4000000
set_option pp.maxSteps 600

theorem refNwRight_calls (n : Nw) (f : Fl) (hn : NwOK n) : PCalls Try.prog 45 [nwAV n f] (.raw (.bool (rightN n))) := by
  have l1 := hn.ports
  have l2 := hn.links
  have l3 := hn.rules
  have h1 := refRight_calls n.t f (by omega) l2
  have h2 := refAll_calls n.rules f.r l3 hn.id
  have h3 := refFits_calls n.t f n.rules f.r (by omega) (by omega)
  rw [← rightT_eq] at h1
  unfold rightN
  have htf : ∀ (N : Nw) (F : Fl), AV.agg [intsAV N.t.ports F.p, linksAV N.t.links F.l] = tpAV N.t F := fun _ _ => rfl
  generalize rightT n.t = b1 at h1 ⊢
  generalize allB n.rules = b2 at h2 ⊢
  generalize fitsB n.t n.rules = b3 at h3 ⊢
  refine pbody Try.func45 rfl (N := 22) rfl rfl (by simp) (by simp [noIds]) fun σ => ?_
  cases b1 <;> cases b2 <;> ((try (first | (with_reducible refine dops_go ?_; simp [-cellOK, nw_cells, htf]) | (with_reducible refine OKv_go ?_; simp [-cellOK, nw_cells, htf]) | (with_reducible refine OKr_go ?_; simp [-cellOK, nw_cells, htf]))); repeat' (first | refine awp_seq ?_ | refine awp_block ?_ | (refine awp_skip ?_; try simp) | (refine awp_exit ?_; try simp) | (refine awp_ret ?_; try simp) | (refine retP_same (by simp) ?_; simp) | (refine retP_no (by simp) (by simp [noIds]) (by repeat (first | assumption | exact Ext.refl _ | refine ext_new' ?_ | refine Ext.setF ?_ (by first | assumption | (simp [new_nx', St.set, fresh_none]; done) | exact ext_fresh (by assumption)))) ?_; simp [-cellOK, nw_cells, htf, new_m, set_m, new_nx']) | (refine awp_reg ?_; simp [-cellOK, nw_cells, htf]) | (refine awp_drawT (fun _ => false) mixed (by decide +kernel) ?_; simp [-cellOK, nw_cells, htf]) | (refine guarded_split ?_ ?_ <;> (intro hg; simp only [hg]; simp [-cellOK, nw_cells, htf])) | (apply awp_cond_t; focus (simp [-cellOK, nw_cells, htf]; done)) | (apply awp_cond_f; focus (simp [-cellOK, nw_cells, htf]; done)) | (refine awp_cond ?_; simp [-cellOK, nw_cells, htf]; refine ⟨?_, ?_⟩ <;> intro hc) | (refine awp_drawT isCallO mixed (by decide +kernel) ?_; simp [-cellOK, nw_cells, htf]) | (refine PCalls.use (h1) ?_; simp [-cellOK, nw_cells, htf]) | (refine Or.inl ⟨_, Or.inl (h1), ?_⟩; simp [-cellOK, nw_cells, htf]) | (refine PCalls.use (h2) ?_; simp [-cellOK, nw_cells, htf]) | (refine Or.inl ⟨_, Or.inl (h2), ?_⟩; simp [-cellOK, nw_cells, htf]) | (refine PCalls.use (h3) ?_; simp [-cellOK, nw_cells, htf]) | (refine Or.inl ⟨_, Or.inl (h3), ?_⟩; simp [-cellOK, nw_cells, htf]) | fail))
def fits09 (n : Nw) : Bool := !decide (20 < n.t.ports.length) && (!decide (40 < n.t.links.length) && (!decide (60 < n.rules.length) && rightN n))
/-- What is known of a network before its sizes are. -/
structure NwW (n : Nw) : Prop where
  rg : ∀ r ∈ n.rules, RgOK r.r
  id : ∀ r ∈ n.rules, -9223372036854775808 ≤ r.id ∧ r.id < 9223372036854775808
theorem NwOK.w {n : Nw} (h : NwOK n) : NwW n := ⟨h.rg, h.id⟩
theorem NwW.small {n : Nw} (h : NwW n) (h1 : ¬ 20 < n.t.ports.length) (h2 : ¬ 40 < n.t.links.length) (h3 : ¬ 60 < n.rules.length) : NwOK n where
  rg := h.rg
  id := h.id
  ports := by omega
  links := by omega
  rules := by omega
theorem NwW.fits {n : Nw} (h : NwW n) (hf : fits09 n = true) : NwOK n := by
  unfold fits09 at hf
  simp only [Bool.and_eq_true, Bool.not_eq_true', decide_eq_false_iff_not] at hf
  exact h.small hf.1 hf.2.1 hf.2.2.1
theorem fits09_calls (n : Nw) (f : Fl) (hn : NwW n) : PCalls Try.prog 19 [nwAV n f] (.raw (.bool (fits09 n))) := by
  have h1 := fun a b c => refNwRight_calls n f (hn.small a b c)
  unfold fits09
  generalize rightN n = b1 at h1 ⊢
  have hp : ∀ m, opLen Try.prog m 22 (intsAV n.t.ports f.p) = some (.raw (.int .i64 n.t.ports.length)) := fun m => by simp [intsAV]
  have hk : ∀ m, opLen Try.prog m 23 (linksAV n.t.links f.l) = some (.raw (.int .i64 n.t.links.length)) := fun m => by simp [linksAV]
  have hu : ∀ m, opLen Try.prog m 26 (rulesAV n.rules f.r) = some (.raw (.int .i64 n.rules.length)) := fun m => by simp [rulesAV]
  generalize n.t.ports.length = x at hp h1 ⊢
  generalize n.t.links.length = y at hk h1 ⊢
  generalize n.rules.length = z at hu h1 ⊢
  refine pbody Try.func19 rfl (N := 25) rfl rfl (by simp) (by simp [noIds]) fun σ => ?_
  by_cases q1 : 20 < x
  · have q1' : (20 : Int) < (x : Int) := by omega
    (try (first | (with_reducible refine dops_go ?_; simp [-cellOK, nw_cells, nw_fold, -opLen, hp, hk, hu, q1, q1']) | (with_reducible refine OKv_go ?_; simp [-cellOK, nw_cells, nw_fold, -opLen, hp, hk, hu, q1, q1']) | (with_reducible refine OKr_go ?_; simp [-cellOK, nw_cells, nw_fold, -opLen, hp, hk, hu, q1, q1']))); repeat' (first | refine awp_seq ?_ | refine awp_block ?_ | (refine awp_skip ?_; try simp) | (refine awp_exit ?_; try simp) | (refine awp_ret ?_; try simp) | (refine retP_same (by simp) ?_; simp) | (refine retP_no (by simp) (by simp [noIds]) (by repeat (first | assumption | exact Ext.refl _ | refine ext_new' ?_ | refine Ext.setF ?_ (by first | assumption | (simp [new_nx', St.set, fresh_none]; done) | exact ext_fresh (by assumption)))) ?_; simp [-cellOK, nw_cells, nw_fold, -opLen, hp, hk, hu, q1, q1', new_m, set_m, new_nx']) | (refine awp_reg ?_; simp [-cellOK, nw_cells, nw_fold, -opLen, hp, hk, hu, q1, q1']) | (refine awp_drawT (fun _ => false) mixed (by decide +kernel) ?_; simp [-cellOK, nw_cells, nw_fold, -opLen, hp, hk, hu, q1, q1']) | (refine guarded_split ?_ ?_ <;> (intro hg; simp only [hg]; simp [-cellOK, nw_cells, nw_fold, -opLen, hp, hk, hu, q1, q1'])) | (apply awp_cond_t; focus (simp [-cellOK, nw_cells, nw_fold, -opLen, hp, hk, hu, q1, q1']; done)) | (apply awp_cond_f; focus (simp [-cellOK, nw_cells, nw_fold, -opLen, hp, hk, hu, q1, q1']; done)) | (refine awp_cond ?_; simp [-cellOK, nw_cells, nw_fold, -opLen, hp, hk, hu, q1, q1']; refine ⟨?_, ?_⟩ <;> intro hc) | (refine awp_drawT isCallO mixed (by decide +kernel) ?_; simp [-cellOK, nw_cells, nw_fold, -opLen, hp, hk, hu, q1, q1']) | fail)
  have q1' : ¬ (20 : Int) < (x : Int) := by omega
  by_cases q2 : 40 < y
  · have q2' : (40 : Int) < (y : Int) := by omega
    (try (first | (with_reducible refine dops_go ?_; simp [-cellOK, nw_cells, nw_fold, -opLen, hp, hk, hu, q1, q1', q2, q2']) | (with_reducible refine OKv_go ?_; simp [-cellOK, nw_cells, nw_fold, -opLen, hp, hk, hu, q1, q1', q2, q2']) | (with_reducible refine OKr_go ?_; simp [-cellOK, nw_cells, nw_fold, -opLen, hp, hk, hu, q1, q1', q2, q2']))); repeat' (first | refine awp_seq ?_ | refine awp_block ?_ | (refine awp_skip ?_; try simp) | (refine awp_exit ?_; try simp) | (refine awp_ret ?_; try simp) | (refine retP_same (by simp) ?_; simp) | (refine retP_no (by simp) (by simp [noIds]) (by repeat (first | assumption | exact Ext.refl _ | refine ext_new' ?_ | refine Ext.setF ?_ (by first | assumption | (simp [new_nx', St.set, fresh_none]; done) | exact ext_fresh (by assumption)))) ?_; simp [-cellOK, nw_cells, nw_fold, -opLen, hp, hk, hu, q1, q1', q2, q2', new_m, set_m, new_nx']) | (refine awp_reg ?_; simp [-cellOK, nw_cells, nw_fold, -opLen, hp, hk, hu, q1, q1', q2, q2']) | (refine awp_drawT (fun _ => false) mixed (by decide +kernel) ?_; simp [-cellOK, nw_cells, nw_fold, -opLen, hp, hk, hu, q1, q1', q2, q2']) | (refine guarded_split ?_ ?_ <;> (intro hg; simp only [hg]; simp [-cellOK, nw_cells, nw_fold, -opLen, hp, hk, hu, q1, q1', q2, q2'])) | (apply awp_cond_t; focus (simp [-cellOK, nw_cells, nw_fold, -opLen, hp, hk, hu, q1, q1', q2, q2']; done)) | (apply awp_cond_f; focus (simp [-cellOK, nw_cells, nw_fold, -opLen, hp, hk, hu, q1, q1', q2, q2']; done)) | (refine awp_cond ?_; simp [-cellOK, nw_cells, nw_fold, -opLen, hp, hk, hu, q1, q1', q2, q2']; refine ⟨?_, ?_⟩ <;> intro hc) | (refine awp_drawT isCallO mixed (by decide +kernel) ?_; simp [-cellOK, nw_cells, nw_fold, -opLen, hp, hk, hu, q1, q1', q2, q2']) | fail)
  have q2' : ¬ (40 : Int) < (y : Int) := by omega
  by_cases q3 : 60 < z
  · have q3' : (60 : Int) < (z : Int) := by omega
    (try (first | (with_reducible refine dops_go ?_; simp [-cellOK, nw_cells, nw_fold, -opLen, hp, hk, hu, q1, q1', q2, q2', q3, q3']) | (with_reducible refine OKv_go ?_; simp [-cellOK, nw_cells, nw_fold, -opLen, hp, hk, hu, q1, q1', q2, q2', q3, q3']) | (with_reducible refine OKr_go ?_; simp [-cellOK, nw_cells, nw_fold, -opLen, hp, hk, hu, q1, q1', q2, q2', q3, q3']))); repeat' (first | refine awp_seq ?_ | refine awp_block ?_ | (refine awp_skip ?_; try simp) | (refine awp_exit ?_; try simp) | (refine awp_ret ?_; try simp) | (refine retP_same (by simp) ?_; simp) | (refine retP_no (by simp) (by simp [noIds]) (by repeat (first | assumption | exact Ext.refl _ | refine ext_new' ?_ | refine Ext.setF ?_ (by first | assumption | (simp [new_nx', St.set, fresh_none]; done) | exact ext_fresh (by assumption)))) ?_; simp [-cellOK, nw_cells, nw_fold, -opLen, hp, hk, hu, q1, q1', q2, q2', q3, q3', new_m, set_m, new_nx']) | (refine awp_reg ?_; simp [-cellOK, nw_cells, nw_fold, -opLen, hp, hk, hu, q1, q1', q2, q2', q3, q3']) | (refine awp_drawT (fun _ => false) mixed (by decide +kernel) ?_; simp [-cellOK, nw_cells, nw_fold, -opLen, hp, hk, hu, q1, q1', q2, q2', q3, q3']) | (refine guarded_split ?_ ?_ <;> (intro hg; simp only [hg]; simp [-cellOK, nw_cells, nw_fold, -opLen, hp, hk, hu, q1, q1', q2, q2', q3, q3'])) | (apply awp_cond_t; focus (simp [-cellOK, nw_cells, nw_fold, -opLen, hp, hk, hu, q1, q1', q2, q2', q3, q3']; done)) | (apply awp_cond_f; focus (simp [-cellOK, nw_cells, nw_fold, -opLen, hp, hk, hu, q1, q1', q2, q2', q3, q3']; done)) | (refine awp_cond ?_; simp [-cellOK, nw_cells, nw_fold, -opLen, hp, hk, hu, q1, q1', q2, q2', q3, q3']; refine ⟨?_, ?_⟩ <;> intro hc) | (refine awp_drawT isCallO mixed (by decide +kernel) ?_; simp [-cellOK, nw_cells, nw_fold, -opLen, hp, hk, hu, q1, q1', q2, q2', q3, q3']) | fail)
  have q3' : ¬ (60 : Int) < (z : Int) := by omega
  have h1 := h1 q1 q2 q3
  (try (first | (with_reducible refine dops_go ?_; simp [-cellOK, nw_cells, nw_fold, -opLen, hp, hk, hu, q1, q1', q2, q2', q3, q3']) | (with_reducible refine OKv_go ?_; simp [-cellOK, nw_cells, nw_fold, -opLen, hp, hk, hu, q1, q1', q2, q2', q3, q3']) | (with_reducible refine OKr_go ?_; simp [-cellOK, nw_cells, nw_fold, -opLen, hp, hk, hu, q1, q1', q2, q2', q3, q3']))); repeat' (first | refine awp_seq ?_ | refine awp_block ?_ | (refine awp_skip ?_; try simp) | (refine awp_exit ?_; try simp) | (refine awp_ret ?_; try simp) | (refine retP_same (by simp) ?_; simp) | (refine retP_no (by simp) (by simp [noIds]) (by repeat (first | assumption | exact Ext.refl _ | refine ext_new' ?_ | refine Ext.setF ?_ (by first | assumption | (simp [new_nx', St.set, fresh_none]; done) | exact ext_fresh (by assumption)))) ?_; simp [-cellOK, nw_cells, nw_fold, -opLen, hp, hk, hu, q1, q1', q2, q2', q3, q3', new_m, set_m, new_nx']) | (refine awp_reg ?_; simp [-cellOK, nw_cells, nw_fold, -opLen, hp, hk, hu, q1, q1', q2, q2', q3, q3']) | (refine awp_drawT (fun _ => false) mixed (by decide +kernel) ?_; simp [-cellOK, nw_cells, nw_fold, -opLen, hp, hk, hu, q1, q1', q2, q2', q3, q3']) | (refine guarded_split ?_ ?_ <;> (intro hg; simp only [hg]; simp [-cellOK, nw_cells, nw_fold, -opLen, hp, hk, hu, q1, q1', q2, q2', q3, q3'])) | (apply awp_cond_t; focus (simp [-cellOK, nw_cells, nw_fold, -opLen, hp, hk, hu, q1, q1', q2, q2', q3, q3']; done)) | (apply awp_cond_f; focus (simp [-cellOK, nw_cells, nw_fold, -opLen, hp, hk, hu, q1, q1', q2, q2', q3, q3']; done)) | (refine awp_cond ?_; simp [-cellOK, nw_cells, nw_fold, -opLen, hp, hk, hu, q1, q1', q2, q2', q3, q3']; refine ⟨?_, ?_⟩ <;> intro hc) | (refine awp_drawT isCallO mixed (by decide +kernel) ?_; simp [-cellOK, nw_cells, nw_fold, -opLen, hp, hk, hu, q1, q1', q2, q2', q3, q3']) | (refine PCalls.use (h1) ?_; simp [-cellOK, nw_cells, nw_fold, -opLen, hp, hk, hu, q1, q1', q2, q2', q3, q3']) | (refine Or.inl ⟨_, Or.inl (h1), ?_⟩; simp [-cellOK, nw_cells, nw_fold, -opLen, hp, hk, hu, q1, q1', q2, q2', q3, q3']) | fail)
def nw2AV (n m : Nw) (f g : Fl) : AV := .agg ((nwAV n f).cells ++ (nwAV m g).cells)
theorem nw2_cells (n m : Nw) (f g : Fl) : (nw2AV n m f g).cells = [intsAV n.t.ports f.p, linksAV n.t.links f.l, rulesAV n.rules f.r, intsAV m.t.ports g.p, linksAV m.t.links g.l, rulesAV m.rules g.r] := rfl
@[simp] theorem nw2_ids (K : Id → Prop) (n m : Nw) (f g : Fl) : (nw2AV n m f g).ids K := by simp [nw2AV, nw_cells]
theorem nw2_fold (n m : Nw) (f g : Fl) : AV.agg [intsAV n.t.ports f.p, linksAV n.t.links f.l, rulesAV n.rules f.r, intsAV m.t.ports g.p, linksAV m.t.links g.l, rulesAV m.rules g.r] = nw2AV n m f g := rfl
def fits12 (n m : Nw) (q : Qy) : Bool := fits09 n && (fits09 m && decide (q.other.size ≤ 60))
theorem fits12_calls (n m : Nw) (f g : Fl) (q : Qy) (hn : NwW n) (hm : NwW m) : PCalls Try.prog 11 [nw2AV n m f g, qyAV q] (.raw (.bool (fits12 n m q))) := by
  have h1 := fits09_calls n f hn
  have h2 := fits09_calls m g hm
  unfold fits12
  generalize fits09 n = b1 at h1 ⊢
  generalize fits09 m = b2 at h2 ⊢
  generalize hz : q.other.size = z
  have hz' : (q.other.size : Int) = z := by rw [hz]
  refine pbody Try.func11 rfl (N := 23) rfl rfl (by simp) (by simp [noIds]) fun σ => ?_
  have hdz : decide ((z : Int) ≤ 60) = decide (z ≤ 60) := by congr 1; exact propext (by omega)
  cases b1 <;> cases b2 <;> ((try (first | (with_reducible refine dops_go ?_; simp [-cellOK, nw2_cells, nw_fold, qy_cells, hz', hdz]) | (with_reducible refine OKv_go ?_; simp [-cellOK, nw2_cells, nw_fold, qy_cells, hz', hdz]) | (with_reducible refine OKr_go ?_; simp [-cellOK, nw2_cells, nw_fold, qy_cells, hz', hdz]))); repeat' (first | refine awp_seq ?_ | refine awp_block ?_ | (refine awp_skip ?_; try simp) | (refine awp_exit ?_; try simp) | (refine awp_ret ?_; try simp) | (refine retP_same (by simp) ?_; simp) | (refine retP_no (by simp) (by simp [noIds]) (by repeat (first | assumption | exact Ext.refl _ | refine ext_new' ?_ | refine Ext.setF ?_ (by first | assumption | (simp [new_nx', St.set, fresh_none]; done) | exact ext_fresh (by assumption)))) ?_; simp [-cellOK, nw2_cells, nw_fold, qy_cells, hz', hdz, new_m, set_m, new_nx']) | (refine awp_reg ?_; simp [-cellOK, nw2_cells, nw_fold, qy_cells, hz', hdz]) | (refine awp_drawT (fun _ => false) mixed (by decide +kernel) ?_; simp [-cellOK, nw2_cells, nw_fold, qy_cells, hz', hdz]) | (refine guarded_split ?_ ?_ <;> (intro hg; simp only [hg]; simp [-cellOK, nw2_cells, nw_fold, qy_cells, hz', hdz])) | (apply awp_cond_t; focus (simp [-cellOK, nw2_cells, nw_fold, qy_cells, hz', hdz]; done)) | (apply awp_cond_f; focus (simp [-cellOK, nw2_cells, nw_fold, qy_cells, hz', hdz]; done)) | (refine awp_cond ?_; simp [-cellOK, nw2_cells, nw_fold, qy_cells, hz', hdz]; refine ⟨?_, ?_⟩ <;> intro hc) | (refine awp_drawT isCallO mixed (by decide +kernel) ?_; simp [-cellOK, nw2_cells, nw_fold, qy_cells, hz', hdz]) | (refine PCalls.use (h1) ?_; simp [-cellOK, nw2_cells, nw_fold, qy_cells, hz', hdz]) | (refine Or.inl ⟨_, Or.inl (h1), ?_⟩; simp [-cellOK, nw2_cells, nw_fold, qy_cells, hz', hdz]) | (refine PCalls.use (h2) ?_; simp [-cellOK, nw2_cells, nw_fold, qy_cells, hz', hdz]) | (refine Or.inl ⟨_, Or.inl (h2), ?_⟩; simp [-cellOK, nw2_cells, nw_fold, qy_cells, hz', hdz]) | fail))
/-- The network of the live questions. -/
def netN : Nw := ⟨⟨[2, 3, 2], [⟨⟨0, 1⟩, ⟨1, 0⟩⟩, ⟨⟨1, 1⟩, ⟨2, 0⟩⟩]⟩, [⟨1, 0, 0, 0, ⟨0, 99⟩, 1⟩, ⟨2, 1, 0, 0, ⟨0, 49⟩, 1⟩, ⟨3, 1, 0, 0, ⟨50, 59⟩, 0⟩, ⟨4, 2, 0, 0, ⟨0, 29⟩, 1⟩, ⟨5, 2, 0, 3, ⟨20, 24⟩, 0⟩]⟩
def flN : Fl := ⟨false, false, false⟩
theorem netN_ok : NwOK netN where
  rg := by
    intro r hr
    simp only [netN, List.mem_cons, List.not_mem_nil, or_false] at hr
    rcases hr with rfl | rfl | rfl | rfl | rfl <;> exact ⟨by decide, by decide, by decide, by decide⟩
  ports := by decide
  links := by decide
  rules := by decide
  id := by
    intro r hr
    simp only [netN, List.mem_cons, List.not_mem_nil, or_false] at hr
    rcases hr with rfl | rfl | rfl | rfl | rfl <;> exact ⟨by decide, by decide⟩
theorem net_calls : PCalls Try.prog 36 [] (nwAV netN flN) := by
  refine pbody Try.func36 rfl (N := 26) rfl rfl (by simp) (by simp [noIds]) fun σ => ?_
  (try (first | (with_reducible refine dops_go ?_; simp [-cellOK, new_m, set_m, new_nx']) | (with_reducible refine OKv_go ?_; simp [-cellOK, new_m, set_m, new_nx']) | (with_reducible refine OKr_go ?_; simp [-cellOK, new_m, set_m, new_nx']))); repeat' (first | refine awp_seq ?_ | refine awp_block ?_ | (refine awp_skip ?_; try simp) | (refine awp_exit ?_; try simp) | (refine awp_ret ?_; try simp) | (refine awp_reg ?_; simp [-cellOK, new_m, set_m, new_nx']) | (refine awp_drawT (fun _ => false) mixed (by decide +kernel) ?_; simp [-cellOK, new_m, set_m, new_nx']) | (refine guarded_split ?_ ?_ <;> (intro hg; simp only [hg]; simp [-cellOK, new_m, set_m, new_nx'])) | (apply awp_cond_t; focus (simp [-cellOK, new_m, set_m, new_nx']; done)) | (apply awp_cond_f; focus (simp [-cellOK, new_m, set_m, new_nx']; done)) | (refine awp_cond ?_; simp [-cellOK, new_m, set_m, new_nx']; refine ⟨?_, ?_⟩ <;> intro hc) | (refine awp_drawT isCallO mixed (by decide +kernel) ?_; simp [-cellOK, new_m, set_m, new_nx']) | fail)
  refine retP_give (x := .agg [.rs ⟨3, σ.nx 3, 1⟩ 0 3, .rs ⟨10, σ.nx 10, 4⟩ 0 2, .rs ⟨22, σ.nx 22, 7⟩ 0 5]) (.inr rfl) (by repeat (first | assumption | exact Ext.refl _ | refine ext_new' ?_ | refine Ext.setF ?_ (by first | assumption | (simp [new_nx', St.set, fresh_none]; done) | exact ext_fresh (by assumption)))) ?_ ?_
  · simp [new_m, set_m, new_nx']
  · simp [giveUps, giveUp, fresh_none, new_m, set_m, new_nx', nwAV, intsAV, linksAV, rulesAV, netN, flN, iAV, lkAV, ruAV]
def aq1 : Qy := ⟨0, 0, 2, 0, ⟨5, 30⟩, ⟨#[]⟩⟩
def aq2 : Qy := ⟨4, 0, 2, 1, ⟨0, 4294967295⟩, ⟨#[]⟩⟩
def aq3 : Qy := ⟨1, 0, 0, 0, ⟨0, 59⟩, ⟨#[]⟩⟩
theorem run_a1 : runQ netN netN aq1 = (⟨false, 0, 20, ⟨[0, 1, 2], 2, ⟨0, 0⟩⟩⟩, 0) := by decide +kernel
theorem run_a2 : runQ netN netN aq2 = (⟨true, 0, 0, noTk⟩, 0) := by decide +kernel
theorem run_a3 : runQ netN netN aq3 = (⟨false, 0, 50, ⟨[0, 1, 0], 4, ⟨0, 0⟩⟩⟩, 0) := by decide +kernel
theorem alive12_calls : PCalls Try.prog 12 [] (.raw (.bool true)) := by
  have h1 := run_calls netN netN flN flN aq1 netN_ok netN_ok ⟨by decide, by decide, by decide, by decide⟩
  have h2 := run_calls netN netN flN flN aq2 netN_ok netN_ok ⟨by decide, by decide, by decide, by decide⟩
  have h3 := run_calls netN netN flN flN aq3 netN_ok netN_ok ⟨by decide, by decide, by decide, by decide⟩
  rw [run_a1] at h1
  rw [run_a2] at h2
  rw [run_a3] at h3
  have hn := net_calls
  have e1 : qyAV aq1 = .agg [.raw (.int .i64 0), .raw (.int .i64 0), .raw (.int .i64 2), .raw (.int .i64 0), .raw (.int .u32 5), .raw (.int .u32 30), .raw (.string ⟨#[]⟩)] := rfl
  have e2 : qyAV aq2 = .agg [.raw (.int .i64 4), .raw (.int .i64 0), .raw (.int .i64 2), .raw (.int .i64 1), .raw (.int .u32 0), .raw (.int .u32 4294967295), .raw (.string ⟨#[]⟩)] := rfl
  have e3 : qyAV aq3 = .agg [.raw (.int .i64 1), .raw (.int .i64 0), .raw (.int .i64 0), .raw (.int .i64 0), .raw (.int .u32 0), .raw (.int .u32 59), .raw (.string ⟨#[]⟩)] := rfl
  rw [e1] at h1
  rw [e2] at h2
  rw [e3] at h3
  generalize netN = N at hn h1 h2 h3
  have hnp : setPart (AV.agg [.sl 0 [] true, .sl 0 [] true, .sl 0 [] true]) 0 [intsAV N.t.ports flN.p, linksAV N.t.links flN.l, rulesAV N.rules flN.r] = nwAV N flN := rfl
  refine pbody Try.func12 rfl (N := 78) rfl rfl (by simp) (by simp [noIds]) fun σ => ?_
  (try (first | (with_reducible refine dops_go ?_; simp [-cellOK, nw_cells, nw_fold, hnp, vd0_fold, vd0_put, vd_cells, vd_fold, new_m, set_m, new_nx']) | (with_reducible refine OKv_go ?_; simp [-cellOK, nw_cells, nw_fold, hnp, vd0_fold, vd0_put, vd_cells, vd_fold, new_m, set_m, new_nx']) | (with_reducible refine OKr_go ?_; simp [-cellOK, nw_cells, nw_fold, hnp, vd0_fold, vd0_put, vd_cells, vd_fold, new_m, set_m, new_nx']))); repeat' (first | refine awp_seq ?_ | refine awp_block ?_ | (refine awp_skip ?_; try simp) | (refine awp_exit ?_; try simp) | (refine awp_ret ?_; try simp) | (refine retP_same (by simp) ?_; simp) | (refine retP_no (by simp) (by simp [noIds]) (by repeat (first | assumption | exact Ext.refl _ | refine ext_new' ?_ | refine Ext.setF ?_ (by first | assumption | (simp [new_nx', St.set, fresh_none]; done) | exact ext_fresh (by assumption)))) ?_; simp [-cellOK, nw_cells, nw_fold, hnp, vd0_fold, vd0_put, vd_cells, vd_fold, new_m, set_m, new_nx', new_m, set_m, new_nx']) | (refine awp_reg ?_; simp [-cellOK, nw_cells, nw_fold, hnp, vd0_fold, vd0_put, vd_cells, vd_fold, new_m, set_m, new_nx']) | (refine awp_drawT (fun _ => false) mixed (by decide +kernel) ?_; simp [-cellOK, nw_cells, nw_fold, hnp, vd0_fold, vd0_put, vd_cells, vd_fold, new_m, set_m, new_nx']) | (refine guarded_split ?_ ?_ <;> (intro hg; simp only [hg]; simp [-cellOK, nw_cells, nw_fold, hnp, vd0_fold, vd0_put, vd_cells, vd_fold, new_m, set_m, new_nx'])) | (apply awp_cond_t; focus (simp [-cellOK, nw_cells, nw_fold, hnp, vd0_fold, vd0_put, vd_cells, vd_fold, new_m, set_m, new_nx']; done)) | (apply awp_cond_f; focus (simp [-cellOK, nw_cells, nw_fold, hnp, vd0_fold, vd0_put, vd_cells, vd_fold, new_m, set_m, new_nx']; done)) | (refine awp_cond ?_; simp [-cellOK, nw_cells, nw_fold, hnp, vd0_fold, vd0_put, vd_cells, vd_fold, new_m, set_m, new_nx']; refine ⟨?_, ?_⟩ <;> intro hc) | (refine awp_drawT isCallO mixed (by decide +kernel) ?_; simp [-cellOK, nw_cells, nw_fold, hnp, vd0_fold, vd0_put, vd_cells, vd_fold, new_m, set_m, new_nx']) | (refine PCalls.use (hn) ?_; simp [-cellOK, nw_cells, nw_fold, hnp, vd0_fold, vd0_put, vd_cells, vd_fold, new_m, set_m, new_nx']) | (refine Or.inl ⟨_, Or.inl (hn), ?_⟩; simp [-cellOK, nw_cells, nw_fold, hnp, vd0_fold, vd0_put, vd_cells, vd_fold, new_m, set_m, new_nx']) | (refine PCalls.use (h1) ?_; simp [-cellOK, nw_cells, nw_fold, hnp, vd0_fold, vd0_put, vd_cells, vd_fold, new_m, set_m, new_nx']) | (refine Or.inl ⟨_, Or.inl (h1), ?_⟩; simp [-cellOK, nw_cells, nw_fold, hnp, vd0_fold, vd0_put, vd_cells, vd_fold, new_m, set_m, new_nx']) | (refine PCalls.use (h2) ?_; simp [-cellOK, nw_cells, nw_fold, hnp, vd0_fold, vd0_put, vd_cells, vd_fold, new_m, set_m, new_nx']) | (refine Or.inl ⟨_, Or.inl (h2), ?_⟩; simp [-cellOK, nw_cells, nw_fold, hnp, vd0_fold, vd0_put, vd_cells, vd_fold, new_m, set_m, new_nx']) | (refine PCalls.use (h3) ?_; simp [-cellOK, nw_cells, nw_fold, hnp, vd0_fold, vd0_put, vd_cells, vd_fold, new_m, set_m, new_nx']) | (refine Or.inl ⟨_, Or.inl (h3), ?_⟩; simp [-cellOK, nw_cells, nw_fold, hnp, vd0_fold, vd0_put, vd_cells, vd_fold, new_m, set_m, new_nx']) | fail)
end Go.Proofs.Ytanimmdlgmkmkaa.Av
