/- The queries' laws: the program walked, and plain laws of what it computes. Part 8 of 14: AvN17, AvN22, AvN2, AvN4, AvN5, AvN7, AvN11, AvT1, AvN6, AvN10, AvT2, AvT3. -/
import Derived.Test.YtanimmdlgmkmkaaNet6
import Derived.Test.YtanimmdlgmkmkaaNet7

/- Networks: the document's next port. -/
namespace Go.Proofs.Ytanimmdlgmkmkaa.Av
open Go
set_option linter.unusedSimpArgs false
set_option linter.unusedVariables false
set_option maxRecDepth 100000
set_option maxHeartbeats 2000000
set_option pp.maxSteps 2500

theorem nnx {σ : St} {slot sz s : Nat} {o : Ob} : (σ.new slot sz o).nx s = if s = slot then σ.nx s + 1 else σ.nx s := rfl
/-- The port to which a port is joined, as the document says it: the first link that has it. -/
def refNextL : List Lk → Pt → Option Pt
  | [], _ => none
  | l :: ls, p => if l.a = p then some l.b else if l.b = p then some l.a else refNextL ls p
theorem refNext_calls (t : Tp) (f : Fl) (p : Pt) (hl : t.links.length < 2 ^ 60) :
    PCalls Try.prog 97 [tpAV t f, ptAV p] (.tup [ptAV ((refNextL t.links p).getD ⟨0, 0⟩), .raw (.bool (refNextL t.links p).isSome)]) := by
  refine pbody Try.func97 rfl (N := 43) rfl rfl (by simp) (by simp [noIds, ptAV]) fun σ => ?_
  have ho1 : cellOK (intsAV t.ports f.p) = true := rfl
  have ho2 : cellOK (linksAV t.links f.l) = true := rfl
  simp only [cellOK] at ho1 ho2
  have hbin : ∀ x y : Pt, opBin Try.prog .eql 41 (ptAV x) (ptAV y) = some (.raw (.bool (decide (x = y)))) := fun x y => by
    have e1 : opBin Try.prog .eql 41 (ptAV x) (ptAV y) = if Try.prog.eqGuardType Try.prog.depth 41 = false then (structEq Try.prog 4 41 (ptAV x) (ptAV y)).bind fun b => (nilBin .eql b).map .raw else none := rfl
    have := key_eq x y
    rw [e1, if_pos eqg41]
    rw [show structEq Try.prog 4 41 (ptAV x) (ptAV y) = some (decide (x = y)) from this]
    rfl
  have hpc : ∀ q : Pt, (ptAV q).cells = [.raw (.int .i64 q.dev), .raw (.int .i64 q.port)] := fun q => rfl
  have hn3 : (σ.new 2 2 (Ob.buf [tpAV t f])).nx 3 = σ.nx 3 := by simp [St.new]
  have hn4 : ((σ.new 2 2 (Ob.buf [tpAV t f])).new 3 2 (Ob.buf [ptAV p])).nx 4 = σ.nx 4 := by simp [St.new]
  have hz : AV.agg [.raw (.int .i64 0), .raw (.int .i64 0)] = ptAV ⟨0, 0⟩ := rfl
  (try (first | (with_reducible refine dops_go ?_; simp [tp_cells, ho1, ho2, hpc]) | (with_reducible refine OKv_go ?_; simp [tp_cells, ho1, ho2, hpc]) | (with_reducible refine OKr_go ?_; simp [tp_cells, ho1, ho2, hpc]))); repeat' (first | refine awp_seq ?_ | refine awp_block ?_ | (refine awp_skip ?_; try simp) | (refine awp_exit ?_; try simp) | (refine awp_ret ?_; try simp) | (refine retP_same (by simp) ?_; simp) | (refine retP_flat (by simp) (by simp) (by simp (maxDischargeDepth := 30) [tp_cells, ho1, ho2, hpc]) ?_; simp) | (refine awp_reg ?_; simp [tp_cells, ho1, ho2, hpc]) | (refine awp_drawT (fun _ => false) mixed (by decide +kernel) ?_; simp [tp_cells, ho1, ho2, hpc]) | (refine guarded_split ?_ ?_ <;> (intro hg; simp only [hg]; simp [tp_cells, ho1, ho2, hpc])) | (apply awp_cond_t; focus (simp [tp_cells, ho1, ho2, hpc]; done)) | (apply awp_cond_f; focus (simp [tp_cells, ho1, ho2, hpc]; done)) | (refine awp_cond ?_; simp [tp_cells, ho1, ho2, hpc]; refine ⟨?_, ?_⟩ <;> intro hc))
  refine awp_loopH (fun n A τ => τ = ((σ.new 2 2 (.buf [tpAV t f])).new 3 2 (.buf [ptAV p])).new 4 2 (.buf [ptAV ⟨0, 0⟩]) ∧ A 2 = .rp ⟨2, σ.nx 2, 2⟩ 0 0 ∧ A 3 = .rp ⟨3, σ.nx 3, 2⟩ 0 0 ∧ A 4 = .rp ⟨4, σ.nx 4, 2⟩ 0 0 ∧ A 5 = .raw (.bool false) ∧ ∃ i : Nat, A 6 = .raw (.int .i64 i) ∧ i ≤ t.links.length ∧ n = t.links.length - i ∧ refNextL t.links p = refNextL (t.links.drop i) p) t.links.length ?_ ?_
  · refine ⟨by simp [hz, hpc], by simp, by simp [hpc, hn3], by simp [hpc, hn4], by simp, 0, by simp, by omega, by omega, by simp⟩
  rintro n A τ ⟨rfl, a2, a3, a4, a5, i, a6, hi, rfl, hall⟩ I1 hI1
  obtain ⟨τ, hτ⟩ : ∃ τ, ((σ.new 2 2 (.buf [tpAV t f])).new 3 2 (.buf [ptAV p])).new 4 2 (.buf [ptAV ⟨0, 0⟩]) = τ := ⟨_, rfl⟩
  have m2 : τ.m ⟨2, σ.nx 2, 2⟩ = some (.buf [tpAV t f]) := by rw [← hτ]; simp [St.new]
  have m3 : τ.m ⟨3, σ.nx 3, 2⟩ = some (.buf [ptAV p]) := by rw [← hτ]; simp [St.new]
  have m4 : τ.m ⟨4, σ.nx 4, 2⟩ = some (.buf [ptAV ⟨0, 0⟩]) := by rw [← hτ]; simp [St.new]
  have fs : ∀ q, Ext σ (τ.set ⟨4, σ.nx 4, 2⟩ (.buf [ptAV q])) := fun q => by
    rw [← hτ]
    repeat (first | exact Ext.refl _ | refine ext_new' ?_ | refine Ext.setF ?_ (by simp [nnx, St.set, fresh_none]))
  rw [hτ] at hI1 ⊢
  have hsp : ∀ x y : Int, setPart (ptAV ⟨0, 0⟩) 0 [.raw (.int .i64 x), .raw (.int .i64 y)] = ptAV ⟨x, y⟩ := fun _ _ => rfl
  have fa : ∀ l : Lk, AV.agg [.raw (.int .i64 l.a.dev), .raw (.int .i64 l.a.port)] = ptAV l.a := fun _ => rfl
  have fb : ∀ l : Lk, AV.agg [.raw (.int .i64 l.b.dev), .raw (.int .i64 l.b.port)] = ptAV l.b := fun _ => rfl
  have fp : ∀ q : Pt, AV.agg [.raw (.int .i64 q.dev), .raw (.int .i64 q.port)] = ptAV q := fun _ => rfl
  by_cases hlt : i < t.links.length
  · have hx : t.links[i]? = some t.links[i] := List.getElem?_eq_getElem hlt
    have w1 : IntKind.i64.wrap ((i : Int) + 1) = ((i + 1 : Nat) : Int) := by rw [wrap64 (by omega) (by omega)]; omega
    have hd : t.links.drop i = t.links[i] :: t.links.drop (i + 1) := List.drop_eq_getElem_cons hlt
    rw [hd] at hall
    simp only [refNextL] at hall
    by_cases q1 : t.links[i].a = p
    · rw [if_pos q1] at hall
      rw [hall]
      (try (first | (with_reducible refine dops_go ?_; simp [linksAV, a2, a3, a4, a5, a6, hlt, hx, tp_cells, m2, m3, m4, ho1, ho2, hpc, hsp, lk_cells', fa, fb, fp, -opBin, hbin, opBin_raw, w1, q1]) | (with_reducible refine OKv_go ?_; simp [linksAV, a2, a3, a4, a5, a6, hlt, hx, tp_cells, m2, m3, m4, ho1, ho2, hpc, hsp, lk_cells', fa, fb, fp, -opBin, hbin, opBin_raw, w1, q1]) | (with_reducible refine OKr_go ?_; simp [linksAV, a2, a3, a4, a5, a6, hlt, hx, tp_cells, m2, m3, m4, ho1, ho2, hpc, hsp, lk_cells', fa, fb, fp, -opBin, hbin, opBin_raw, w1, q1]))); repeat' (first | refine awp_seq ?_ | refine awp_block ?_ | (refine awp_skip ?_; try simp) | (refine awp_exit ?_; try simp) | (refine awp_ret ?_; try simp) | (refine retP_same (by simp) ?_; simp) | (refine retP_flat (by simp) (by simp) (by simp (maxDischargeDepth := 30) [linksAV, a2, a3, a4, a5, a6, hlt, hx, tp_cells, m2, m3, m4, ho1, ho2, hpc, hsp, lk_cells', fa, fb, fp, -opBin, hbin, opBin_raw, w1, q1]) ?_; simp) | (refine awp_reg ?_; simp [linksAV, a2, a3, a4, a5, a6, hlt, hx, tp_cells, m2, m3, m4, ho1, ho2, hpc, hsp, lk_cells', fa, fb, fp, -opBin, hbin, opBin_raw, w1, q1]) | (refine awp_drawT (fun _ => false) mixed (by decide +kernel) ?_; simp [linksAV, a2, a3, a4, a5, a6, hlt, hx, tp_cells, m2, m3, m4, ho1, ho2, hpc, hsp, lk_cells', fa, fb, fp, -opBin, hbin, opBin_raw, w1, q1]) | (refine guarded_split ?_ ?_ <;> (intro hg; simp only [hg]; simp [linksAV, a2, a3, a4, a5, a6, hlt, hx, tp_cells, m2, m3, m4, ho1, ho2, hpc, hsp, lk_cells', fa, fb, fp, -opBin, hbin, opBin_raw, w1, q1])) | (apply awp_cond_t; focus (simp [linksAV, a2, a3, a4, a5, a6, hlt, hx, tp_cells, m2, m3, m4, ho1, ho2, hpc, hsp, lk_cells', fa, fb, fp, -opBin, hbin, opBin_raw, w1, q1]; done)) | (apply awp_cond_f; focus (simp [linksAV, a2, a3, a4, a5, a6, hlt, hx, tp_cells, m2, m3, m4, ho1, ho2, hpc, hsp, lk_cells', fa, fb, fp, -opBin, hbin, opBin_raw, w1, q1]; done)) | (refine awp_cond ?_; simp [linksAV, a2, a3, a4, a5, a6, hlt, hx, tp_cells, m2, m3, m4, ho1, ho2, hpc, hsp, lk_cells', fa, fb, fp, -opBin, hbin, opBin_raw, w1, q1]; refine ⟨?_, ?_⟩ <;> intro hc))
      refine retP_flat (.inr rfl) rfl (fs _) ?_
      simp [hsp, hpc, St.set, fp, a4, a5, m4]
    · by_cases q2 : t.links[i].b = p
      · rw [if_neg q1, if_pos q2] at hall
        rw [hall]
        (try (first | (with_reducible refine dops_go ?_; simp [linksAV, a2, a3, a4, a5, a6, hlt, hx, tp_cells, m2, m3, m4, ho1, ho2, hpc, hsp, lk_cells', fa, fb, fp, -opBin, hbin, opBin_raw, w1, q1, q2]) | (with_reducible refine OKv_go ?_; simp [linksAV, a2, a3, a4, a5, a6, hlt, hx, tp_cells, m2, m3, m4, ho1, ho2, hpc, hsp, lk_cells', fa, fb, fp, -opBin, hbin, opBin_raw, w1, q1, q2]) | (with_reducible refine OKr_go ?_; simp [linksAV, a2, a3, a4, a5, a6, hlt, hx, tp_cells, m2, m3, m4, ho1, ho2, hpc, hsp, lk_cells', fa, fb, fp, -opBin, hbin, opBin_raw, w1, q1, q2]))); repeat' (first | refine awp_seq ?_ | refine awp_block ?_ | (refine awp_skip ?_; try simp) | (refine awp_exit ?_; try simp) | (refine awp_ret ?_; try simp) | (refine retP_same (by simp) ?_; simp) | (refine retP_flat (by simp) (by simp) (by simp (maxDischargeDepth := 30) [linksAV, a2, a3, a4, a5, a6, hlt, hx, tp_cells, m2, m3, m4, ho1, ho2, hpc, hsp, lk_cells', fa, fb, fp, -opBin, hbin, opBin_raw, w1, q1, q2]) ?_; simp) | (refine awp_reg ?_; simp [linksAV, a2, a3, a4, a5, a6, hlt, hx, tp_cells, m2, m3, m4, ho1, ho2, hpc, hsp, lk_cells', fa, fb, fp, -opBin, hbin, opBin_raw, w1, q1, q2]) | (refine awp_drawT (fun _ => false) mixed (by decide +kernel) ?_; simp [linksAV, a2, a3, a4, a5, a6, hlt, hx, tp_cells, m2, m3, m4, ho1, ho2, hpc, hsp, lk_cells', fa, fb, fp, -opBin, hbin, opBin_raw, w1, q1, q2]) | (refine guarded_split ?_ ?_ <;> (intro hg; simp only [hg]; simp [linksAV, a2, a3, a4, a5, a6, hlt, hx, tp_cells, m2, m3, m4, ho1, ho2, hpc, hsp, lk_cells', fa, fb, fp, -opBin, hbin, opBin_raw, w1, q1, q2])) | (apply awp_cond_t; focus (simp [linksAV, a2, a3, a4, a5, a6, hlt, hx, tp_cells, m2, m3, m4, ho1, ho2, hpc, hsp, lk_cells', fa, fb, fp, -opBin, hbin, opBin_raw, w1, q1, q2]; done)) | (apply awp_cond_f; focus (simp [linksAV, a2, a3, a4, a5, a6, hlt, hx, tp_cells, m2, m3, m4, ho1, ho2, hpc, hsp, lk_cells', fa, fb, fp, -opBin, hbin, opBin_raw, w1, q1, q2]; done)) | (refine awp_cond ?_; simp [linksAV, a2, a3, a4, a5, a6, hlt, hx, tp_cells, m2, m3, m4, ho1, ho2, hpc, hsp, lk_cells', fa, fb, fp, -opBin, hbin, opBin_raw, w1, q1, q2]; refine ⟨?_, ?_⟩ <;> intro hc))
        refine retP_flat (.inr rfl) rfl (fs _) ?_
        simp [hsp, hpc, St.set, fp, a4, a5, m4]
      · rw [if_neg q1, if_neg q2] at hall
        (try (first | (with_reducible refine dops_go ?_; simp [linksAV, a2, a3, a4, a5, a6, hlt, hx, tp_cells, m2, m3, m4, ho1, ho2, hpc, hsp, lk_cells', fa, fb, fp, -opBin, hbin, opBin_raw, w1, q1, q2]) | (with_reducible refine OKv_go ?_; simp [linksAV, a2, a3, a4, a5, a6, hlt, hx, tp_cells, m2, m3, m4, ho1, ho2, hpc, hsp, lk_cells', fa, fb, fp, -opBin, hbin, opBin_raw, w1, q1, q2]) | (with_reducible refine OKr_go ?_; simp [linksAV, a2, a3, a4, a5, a6, hlt, hx, tp_cells, m2, m3, m4, ho1, ho2, hpc, hsp, lk_cells', fa, fb, fp, -opBin, hbin, opBin_raw, w1, q1, q2]))); repeat' (first | refine awp_seq ?_ | refine awp_block ?_ | (refine awp_skip ?_; try simp) | (refine awp_exit ?_; try simp) | (refine awp_ret ?_; try simp) | (refine retP_same (by simp) ?_; simp) | (refine retP_flat (by simp) (by simp) (by simp (maxDischargeDepth := 30) [linksAV, a2, a3, a4, a5, a6, hlt, hx, tp_cells, m2, m3, m4, ho1, ho2, hpc, hsp, lk_cells', fa, fb, fp, -opBin, hbin, opBin_raw, w1, q1, q2]) ?_; simp) | (refine awp_reg ?_; simp [linksAV, a2, a3, a4, a5, a6, hlt, hx, tp_cells, m2, m3, m4, ho1, ho2, hpc, hsp, lk_cells', fa, fb, fp, -opBin, hbin, opBin_raw, w1, q1, q2]) | (refine awp_drawT (fun _ => false) mixed (by decide +kernel) ?_; simp [linksAV, a2, a3, a4, a5, a6, hlt, hx, tp_cells, m2, m3, m4, ho1, ho2, hpc, hsp, lk_cells', fa, fb, fp, -opBin, hbin, opBin_raw, w1, q1, q2]) | (refine guarded_split ?_ ?_ <;> (intro hg; simp only [hg]; simp [linksAV, a2, a3, a4, a5, a6, hlt, hx, tp_cells, m2, m3, m4, ho1, ho2, hpc, hsp, lk_cells', fa, fb, fp, -opBin, hbin, opBin_raw, w1, q1, q2])) | (apply awp_cond_t; focus (simp [linksAV, a2, a3, a4, a5, a6, hlt, hx, tp_cells, m2, m3, m4, ho1, ho2, hpc, hsp, lk_cells', fa, fb, fp, -opBin, hbin, opBin_raw, w1, q1, q2]; done)) | (apply awp_cond_f; focus (simp [linksAV, a2, a3, a4, a5, a6, hlt, hx, tp_cells, m2, m3, m4, ho1, ho2, hpc, hsp, lk_cells', fa, fb, fp, -opBin, hbin, opBin_raw, w1, q1, q2]; done)) | (refine awp_cond ?_; simp [linksAV, a2, a3, a4, a5, a6, hlt, hx, tp_cells, m2, m3, m4, ho1, ho2, hpc, hsp, lk_cells', fa, fb, fp, -opBin, hbin, opBin_raw, w1, q1, q2]; refine ⟨?_, ?_⟩ <;> intro hc))
        exact hI1 (t.links.length - (i + 1)) _ _ (by omega) ⟨rfl, by simp [a2], by simp [a3], by simp [a4], by simp [a5], i + 1, by simp, by omega, rfl, hall⟩
  · have : i = t.links.length := by omega
    subst this
    rw [List.drop_length] at hall
    simp only [refNextL] at hall
    rw [hall]
    (try (first | (with_reducible refine dops_go ?_; simp [linksAV, a2, a3, a4, a5, a6, m2, m3, m4, tp_cells, ho1, ho2, hpc, hz, hsp]) | (with_reducible refine OKv_go ?_; simp [linksAV, a2, a3, a4, a5, a6, m2, m3, m4, tp_cells, ho1, ho2, hpc, hz, hsp]) | (with_reducible refine OKr_go ?_; simp [linksAV, a2, a3, a4, a5, a6, m2, m3, m4, tp_cells, ho1, ho2, hpc, hz, hsp]))); repeat' (first | refine awp_seq ?_ | refine awp_block ?_ | (refine awp_skip ?_; try simp) | (refine awp_exit ?_; try simp) | (refine awp_ret ?_; try simp) | (refine retP_same (by simp) ?_; simp) | (refine retP_flat (by simp) (by simp) (by simp (maxDischargeDepth := 30) [linksAV, a2, a3, a4, a5, a6, m2, m3, m4, tp_cells, ho1, ho2, hpc, hz, hsp]) ?_; simp) | (refine awp_reg ?_; simp [linksAV, a2, a3, a4, a5, a6, m2, m3, m4, tp_cells, ho1, ho2, hpc, hz, hsp]) | (refine awp_drawT (fun _ => false) mixed (by decide +kernel) ?_; simp [linksAV, a2, a3, a4, a5, a6, m2, m3, m4, tp_cells, ho1, ho2, hpc, hz, hsp]) | (refine guarded_split ?_ ?_ <;> (intro hg; simp only [hg]; simp [linksAV, a2, a3, a4, a5, a6, m2, m3, m4, tp_cells, ho1, ho2, hpc, hz, hsp])) | (apply awp_cond_t; focus (simp [linksAV, a2, a3, a4, a5, a6, m2, m3, m4, tp_cells, ho1, ho2, hpc, hz, hsp]; done)) | (apply awp_cond_f; focus (simp [linksAV, a2, a3, a4, a5, a6, m2, m3, m4, tp_cells, ho1, ho2, hpc, hz, hsp]; done)) | (refine awp_cond ?_; simp [linksAV, a2, a3, a4, a5, a6, m2, m3, m4, tp_cells, ho1, ho2, hpc, hz, hsp]; refine ⟨?_, ?_⟩ <;> intro hc))
    refine retP_flat (.inr rfl) rfl (fs _) ?_
    simp [hsp, hpc, St.set, fp, a4, a5, m4]
    rfl
end Go.Proofs.Ytanimmdlgmkmkaa.Av

/- Networks: tracks that are alike. -/
namespace Go.Proofs.Ytanimmdlgmkmkaa.Av
open Go
set_option linter.unusedSimpArgs false
set_option linter.unusedVariables false
set_option maxRecDepth 100000
set_option maxHeartbeats 2000000
set_option pp.maxSteps 600

/-- A track: the devices on the way, the end, the last port. -/
structure Tk where
  path : List Int
  out : Int
  last : Pt
deriving DecidableEq
def tkAV (t : Tk) (f : Bool) : AV := .agg [intsAV t.path f, .raw (.int .i64 t.out), .raw (.int .i64 t.last.dev), .raw (.int .i64 t.last.port)]
theorem tkSame_calls (x y : Tk) (fx fy : Bool) (hx : x.path.length < 2 ^ 60) (hy : y.path.length < 2 ^ 60) : PCalls Try.prog 40 [tkAV x fx, tkAV y fy] (.raw (.bool (decide (x = y)))) := by
  have h1 := intEqual_calls x.path y.path fx fy hx hy
  have e : decide (x = y) = (decide (x.path = y.path) && (decide (x.out = y.out) && decide (x.last = y.last))) := by
    cases x; cases y; rw [Bool.eq_iff_iff]; simp
  rw [e]
  obtain ⟨b1, q1⟩ : ∃ b, decide (x.path = y.path) = b := ⟨_, rfl⟩
  obtain ⟨b2, q2⟩ : ∃ b, decide (x.out = y.out) = b := ⟨_, rfl⟩
  obtain ⟨b3, q3⟩ : ∃ b, decide (x.last = y.last) = b := ⟨_, rfl⟩
  rw [q1] at h1 ⊢
  rw [q2, q3]
  have hbin : opBin Try.prog .eql 41 (ptAV x.last) (ptAV y.last) = some (.raw (.bool b3)) := by
    have e1 : opBin Try.prog .eql 41 (ptAV x.last) (ptAV y.last) = if Try.prog.eqGuardType Try.prog.depth 41 = false then (structEq Try.prog 4 41 (ptAV x.last) (ptAV y.last)).bind fun b => (nilBin .eql b).map .raw else none := rfl
    have := key_eq x.last y.last
    rw [e1, if_pos eqg41]
    rw [show structEq Try.prog 4 41 (ptAV x.last) (ptAV y.last) = some (decide (x.last = y.last)) from this, q3]
    rfl
  refine pbody Try.func40 rfl (N := 24) rfl rfl (by simp) (by simp [noIds]) fun σ => ?_
  have ho : ∀ z b, cellOK (intsAV z b) = true := fun _ _ => rfl
  simp only [cellOK] at ho
  have hc : ∀ t f, (tkAV t f).cells = [intsAV t.path f, .raw (.int .i64 t.out), .raw (.int .i64 t.last.dev), .raw (.int .i64 t.last.port)] := fun _ _ => rfl
  have hpf : ∀ q : Pt, AV.agg [.raw (.int .i64 q.dev), .raw (.int .i64 q.port)] = ptAV q := fun _ => rfl
  (try (first | (with_reducible refine dops_go ?_; simp [hc, ho, hpf, -opBin, hbin, opBin_raw, q2]) | (with_reducible refine OKv_go ?_; simp [hc, ho, hpf, -opBin, hbin, opBin_raw, q2]) | (with_reducible refine OKr_go ?_; simp [hc, ho, hpf, -opBin, hbin, opBin_raw, q2]))); repeat' (first | refine awp_seq ?_ | refine awp_block ?_ | (refine awp_skip ?_; try simp) | (refine awp_exit ?_; try simp) | (refine awp_ret ?_; try simp) | (refine retP_same (by simp) ?_; simp) | (refine retP_flat (by simp) (by simp) (by simp (maxDischargeDepth := 30) [hc, ho, hpf, -opBin, hbin, opBin_raw, q2]) ?_; simp) | (refine awp_reg ?_; simp [hc, ho, hpf, -opBin, hbin, opBin_raw, q2]) | (refine awp_drawT (fun _ => false) mixed (by decide +kernel) ?_; simp [hc, ho, hpf, -opBin, hbin, opBin_raw, q2]) | (refine guarded_split ?_ ?_ <;> (intro hg; simp only [hg]; simp [hc, ho, hpf, -opBin, hbin, opBin_raw, q2])) | (apply awp_cond_t; focus (simp [hc, ho, hpf, -opBin, hbin, opBin_raw, q2]; done)) | (apply awp_cond_f; focus (simp [hc, ho, hpf, -opBin, hbin, opBin_raw, q2]; done)) | (refine awp_cond ?_; simp [hc, ho, hpf, -opBin, hbin, opBin_raw, q2]; refine ⟨?_, ?_⟩ <;> intro hc))
  refine PCalls.use h1 ?_
  cases b1 <;> cases b2 <;> (try (first | (with_reducible refine dops_go ?_; simp [hc, ho, hpf, -opBin, hbin, opBin_raw, q2]) | (with_reducible refine OKv_go ?_; simp [hc, ho, hpf, -opBin, hbin, opBin_raw, q2]) | (with_reducible refine OKr_go ?_; simp [hc, ho, hpf, -opBin, hbin, opBin_raw, q2]))); repeat' (first | refine awp_seq ?_ | refine awp_block ?_ | (refine awp_skip ?_; try simp) | (refine awp_exit ?_; try simp) | (refine awp_ret ?_; try simp) | (refine retP_same (by simp) ?_; simp) | (refine retP_flat (by simp) (by simp) (by simp (maxDischargeDepth := 30) [hc, ho, hpf, -opBin, hbin, opBin_raw, q2]) ?_; simp) | (refine awp_reg ?_; simp [hc, ho, hpf, -opBin, hbin, opBin_raw, q2]) | (refine awp_drawT (fun _ => false) mixed (by decide +kernel) ?_; simp [hc, ho, hpf, -opBin, hbin, opBin_raw, q2]) | (refine guarded_split ?_ ?_ <;> (intro hg; simp only [hg]; simp [hc, ho, hpf, -opBin, hbin, opBin_raw, q2])) | (apply awp_cond_t; focus (simp [hc, ho, hpf, -opBin, hbin, opBin_raw, q2]; done)) | (apply awp_cond_f; focus (simp [hc, ho, hpf, -opBin, hbin, opBin_raw, q2]; done)) | (refine awp_cond ?_; simp [hc, ho, hpf, -opBin, hbin, opBin_raw, q2]; refine ⟨?_, ?_⟩ <;> intro hc))
end Go.Proofs.Ytanimmdlgmkmkaa.Av

/- Networks: right rules; searching lists. -/
namespace Go.Proofs.Ytanimmdlgmkmkaa.Av
open Go
set_option linter.unusedSimpArgs false
set_option linter.unusedVariables false
set_option maxRecDepth 100000
set_option maxHeartbeats 1000000
set_option pp.maxSteps 300

theorem or_calls (a b : Int) (f : Bool) : PCalls Try.prog 155 [intsAV [a, b] f] (.raw (.int .i64 (if a = 0 then b else a))) := by
  refine pbody Try.func155 rfl (N := 18) rfl rfl (by simp) (by simp [noIds]) fun σ => ?_
  (try (first | (with_reducible refine dops_go ?_; simp [intsAV, iAV]) | (with_reducible refine OKv_go ?_; simp [intsAV, iAV]) | (with_reducible refine OKr_go ?_; simp [intsAV, iAV]))); repeat' (first | refine awp_seq ?_ | refine awp_block ?_ | (refine awp_skip ?_; try simp) | (refine awp_exit ?_; try simp) | (refine awp_ret ?_; try simp) | (refine retP_same (by simp) ?_; simp) | (refine retP_flat (by simp) (by simp) (by simp (maxDischargeDepth := 30) [intsAV, iAV]) ?_; simp) | (refine awp_reg ?_; simp [intsAV, iAV]) | (refine awp_drawT (fun _ => false) mixed (by decide +kernel) ?_; simp [intsAV, iAV]) | (refine guarded_split ?_ ?_ <;> (intro hg; simp only [hg]; simp [intsAV, iAV])) | (apply awp_cond_t; focus (simp [intsAV, iAV]; done)) | (apply awp_cond_f; focus (simp [intsAV, iAV]; done)) | (refine awp_cond ?_; simp [intsAV, iAV]; refine ⟨?_, ?_⟩ <;> intro hc))
  refine awp_loopH (fun n A τ => τ = σ ∧ A 3 = .raw (.int .i64 0) ∧ A 6 = intsAV [a, b] f ∧ A 7 = .raw (.int .i64 2) ∧ ∃ i : Nat, A 8 = .raw (.int .i64 i) ∧ i ≤ 2 ∧ n = 2 - i ∧ (0 < i → a = 0) ∧ (1 < i → b = 0)) 2 ?_ ?_
  · exact ⟨by simp, by simp, by simp [intsAV, iAV], by simp, 0, by simp, by omega, by omega, fun h => by omega, fun h => by omega⟩
  rintro n A τ ⟨rfl, a3, a6, a7, i, a8, hi, rfl, h0, h1⟩ I1 hI1
  by_cases hlt : i < 2
  · rcases (show i = 0 ∨ i = 1 by omega) with rfl | rfl
    · have w1 : IntKind.i64.wrap 1 = 1 := wrap64 (by omega) (by omega)
      (try (first | (with_reducible refine dops_go ?_; simp [a3, a6, a7, a8, intsAV, iAV, w1]) | (with_reducible refine OKv_go ?_; simp [a3, a6, a7, a8, intsAV, iAV, w1]) | (with_reducible refine OKr_go ?_; simp [a3, a6, a7, a8, intsAV, iAV, w1]))); repeat' (first | refine awp_seq ?_ | refine awp_block ?_ | (refine awp_skip ?_; try simp) | (refine awp_exit ?_; try simp) | (refine awp_ret ?_; try simp) | (refine retP_same (by simp) ?_; simp) | (refine retP_flat (by simp) (by simp) (by simp (maxDischargeDepth := 30) [a3, a6, a7, a8, intsAV, iAV, w1]) ?_; simp) | (refine awp_reg ?_; simp [a3, a6, a7, a8, intsAV, iAV, w1]) | (refine awp_drawT (fun _ => false) mixed (by decide +kernel) ?_; simp [a3, a6, a7, a8, intsAV, iAV, w1]) | (refine guarded_split ?_ ?_ <;> (intro hg; simp only [hg]; simp [a3, a6, a7, a8, intsAV, iAV, w1])) | (apply awp_cond_t; focus (simp [a3, a6, a7, a8, intsAV, iAV, w1]; done)) | (apply awp_cond_f; focus (simp [a3, a6, a7, a8, intsAV, iAV, w1]; done)) | (refine awp_cond ?_; simp [a3, a6, a7, a8, intsAV, iAV, w1]; refine ⟨?_, ?_⟩ <;> intro hc))
      · simp_all
      · exact hI1 1 _ _ (by omega) ⟨by simp, by simp [a3], by simp [a6, intsAV, iAV], by simp [a7], 1, by simp, by omega, by omega, fun _ => by simpa using hc, fun h => by omega⟩
    · have ha := h0 (by omega)
      have w1 : IntKind.i64.wrap 2 = 2 := wrap64 (by omega) (by omega)
      (try (first | (with_reducible refine dops_go ?_; simp [a3, a6, a7, a8, intsAV, iAV, w1]) | (with_reducible refine OKv_go ?_; simp [a3, a6, a7, a8, intsAV, iAV, w1]) | (with_reducible refine OKr_go ?_; simp [a3, a6, a7, a8, intsAV, iAV, w1]))); repeat' (first | refine awp_seq ?_ | refine awp_block ?_ | (refine awp_skip ?_; try simp) | (refine awp_exit ?_; try simp) | (refine awp_ret ?_; try simp) | (refine retP_same (by simp) ?_; simp) | (refine retP_flat (by simp) (by simp) (by simp (maxDischargeDepth := 30) [a3, a6, a7, a8, intsAV, iAV, w1]) ?_; simp) | (refine awp_reg ?_; simp [a3, a6, a7, a8, intsAV, iAV, w1]) | (refine awp_drawT (fun _ => false) mixed (by decide +kernel) ?_; simp [a3, a6, a7, a8, intsAV, iAV, w1]) | (refine guarded_split ?_ ?_ <;> (intro hg; simp only [hg]; simp [a3, a6, a7, a8, intsAV, iAV, w1])) | (apply awp_cond_t; focus (simp [a3, a6, a7, a8, intsAV, iAV, w1]; done)) | (apply awp_cond_f; focus (simp [a3, a6, a7, a8, intsAV, iAV, w1]; done)) | (refine awp_cond ?_; simp [a3, a6, a7, a8, intsAV, iAV, w1]; refine ⟨?_, ?_⟩ <;> intro hc))
      · simp_all
      · exact hI1 0 _ _ (by omega) ⟨by simp, by simp [a3], by simp [a6, intsAV, iAV], by simp [a7], 2, by simp, by omega, by omega, fun _ => ha, fun _ => by simpa using hc⟩
  · have : i = 2 := by omega
    subst this
    have ha := h0 (by omega)
    have hb := h1 (by omega)
    subst ha; subst hb
    (try (first | (with_reducible refine dops_go ?_; simp [a3, a6, a7, a8, intsAV, iAV]) | (with_reducible refine OKv_go ?_; simp [a3, a6, a7, a8, intsAV, iAV]) | (with_reducible refine OKr_go ?_; simp [a3, a6, a7, a8, intsAV, iAV]))); repeat' (first | refine awp_seq ?_ | refine awp_block ?_ | (refine awp_skip ?_; try simp) | (refine awp_exit ?_; try simp) | (refine awp_ret ?_; try simp) | (refine retP_same (by simp) ?_; simp) | (refine retP_flat (by simp) (by simp) (by simp (maxDischargeDepth := 30) [a3, a6, a7, a8, intsAV, iAV]) ?_; simp) | (refine awp_reg ?_; simp [a3, a6, a7, a8, intsAV, iAV]) | (refine awp_drawT (fun _ => false) mixed (by decide +kernel) ?_; simp [a3, a6, a7, a8, intsAV, iAV]) | (refine guarded_split ?_ ?_ <;> (intro hg; simp only [hg]; simp [a3, a6, a7, a8, intsAV, iAV])) | (apply awp_cond_t; focus (simp [a3, a6, a7, a8, intsAV, iAV]; done)) | (apply awp_cond_f; focus (simp [a3, a6, a7, a8, intsAV, iAV]; done)) | (refine awp_cond ?_; simp [a3, a6, a7, a8, intsAV, iAV]; refine ⟨?_, ?_⟩ <;> intro hc))

def ruleB (r : Ru) : Bool := decide (1 ≤ r.id) && decide (r.id ≤ 1048576) && (decide (0 ≤ r.dev) && decide (r.dev ≤ 7)) && (decide (0 ≤ r.prio) && decide (r.prio ≤ 1024)) && (decide (0 ≤ r.kind) && decide (r.kind ≤ 3)) &&
  (decide (0 ≤ r.port) && decide (r.port ≤ 3)) && (decide (r.kind = 0) || decide (r.port = 0)) && decide (r.r.lo ≤ r.r.hi)
theorem ruleRight_calls (r : Ru) : PCalls Try.prog 118 [ruAV r] (.raw (.bool (ruleB r))) := by
  obtain ⟨b1, h1⟩ : ∃ b, (decide (1 ≤ r.id) && decide (r.id ≤ 1048576)) = b := ⟨_, rfl⟩
  obtain ⟨b2, h2⟩ : ∃ b, (decide (0 ≤ r.dev) && decide (r.dev ≤ 7)) = b := ⟨_, rfl⟩
  obtain ⟨b3, h3⟩ : ∃ b, (decide (0 ≤ r.prio) && decide (r.prio ≤ 1024)) = b := ⟨_, rfl⟩
  obtain ⟨b4, h4⟩ : ∃ b, (decide (0 ≤ r.kind) && decide (r.kind ≤ 3)) = b := ⟨_, rfl⟩
  obtain ⟨b5, h5⟩ : ∃ b, (decide (0 ≤ r.port) && decide (r.port ≤ 3)) = b := ⟨_, rfl⟩
  obtain ⟨b6, h6⟩ : ∃ b, decide (r.kind = 0) = b := ⟨_, rfl⟩
  obtain ⟨b7, h7⟩ : ∃ b, decide (r.port = 0) = b := ⟨_, rfl⟩
  obtain ⟨b8, h8⟩ : ∃ b, decide (r.r.lo ≤ r.r.hi) = b := ⟨_, rfl⟩
  have c1 := h1 ▸ within_calls r.id 1 1048576
  have c2 := h2 ▸ within_calls r.dev 0 7
  have c3 := h3 ▸ within_calls r.prio 0 1024
  have c4 := h4 ▸ within_calls r.kind 0 3
  have c5 := h5 ▸ within_calls r.port 0 3
  have e : ruleB r = (b1 && b2 && b3 && b4 && b5 && (b6 || b7) && b8) := by unfold ruleB; rw [h1, h2, h3, h4, h5, h6, h7, h8]
  rw [e]
  clear e
  refine pbody Try.func118 rfl (N := 49) rfl rfl (by simp) (by simp [noIds]) fun σ => ?_
  (try (first | (with_reducible refine dops_go ?_; simp [ruAV, h6, h7, h8]) | (with_reducible refine OKv_go ?_; simp [ruAV, h6, h7, h8]) | (with_reducible refine OKr_go ?_; simp [ruAV, h6, h7, h8]))); repeat' (first | refine awp_seq ?_ | refine awp_block ?_ | (refine awp_skip ?_; try simp) | (refine awp_exit ?_; try simp) | (refine awp_ret ?_; try simp) | (refine retP_same (by simp) ?_; simp) | (refine retP_flat (by simp) (by simp) (by simp (maxDischargeDepth := 30) [ruAV, h6, h7, h8]) ?_; simp) | (refine awp_reg ?_; simp [ruAV, h6, h7, h8]) | (refine awp_drawT (fun _ => false) mixed (by decide +kernel) ?_; simp [ruAV, h6, h7, h8]) | (refine guarded_split ?_ ?_ <;> (intro hg; simp only [hg]; simp [ruAV, h6, h7, h8])) | (apply awp_cond_t; focus (simp [ruAV, h6, h7, h8]; done)) | (apply awp_cond_f; focus (simp [ruAV, h6, h7, h8]; done)) | (refine awp_cond ?_; simp [ruAV, h6, h7, h8]; refine ⟨?_, ?_⟩ <;> intro hc))
  repeat' (first | refine PCalls.use c1 ?_ | refine PCalls.use c2 ?_ | refine PCalls.use c3 ?_ | refine PCalls.use c4 ?_ | refine PCalls.use c5 ?_); all_goals (try (first | (with_reducible refine dops_go ?_; simp [ruAV, h6, h7, h8]) | (with_reducible refine OKv_go ?_; simp [ruAV, h6, h7, h8]) | (with_reducible refine OKr_go ?_; simp [ruAV, h6, h7, h8]))); repeat' (first | refine awp_seq ?_ | refine awp_block ?_ | (refine awp_skip ?_; try simp) | (refine awp_exit ?_; try simp) | (refine awp_ret ?_; try simp) | (refine retP_same (by simp) ?_; simp) | (refine retP_flat (by simp) (by simp) (by simp (maxDischargeDepth := 30) [ruAV, h6, h7, h8]) ?_; simp) | (refine awp_reg ?_; simp [ruAV, h6, h7, h8]) | (refine awp_drawT (fun _ => false) mixed (by decide +kernel) ?_; simp [ruAV, h6, h7, h8]) | (refine guarded_split ?_ ?_ <;> (intro hg; simp only [hg]; simp [ruAV, h6, h7, h8])) | (apply awp_cond_t; focus (simp [ruAV, h6, h7, h8]; done)) | (apply awp_cond_f; focus (simp [ruAV, h6, h7, h8]; done)) | (refine awp_cond ?_; simp [ruAV, h6, h7, h8]; refine ⟨?_, ?_⟩ <;> intro hc))
theorem refRuleRight_calls (r : Ru) (hr : -9223372036854775808 ≤ r.id) (hr2 : r.id < 9223372036854775808) : PCalls Try.prog 113 [ruAV r] (.raw (.bool (ruleB r))) := by
  obtain ⟨b1, h1⟩ : ∃ b, (decide (0 ≤ r.id - 1) && decide (r.id - 1 ≤ 1048575)) = b := ⟨_, rfl⟩
  obtain ⟨b2, h2⟩ : ∃ b, (decide (0 ≤ r.dev) && decide (r.dev ≤ 7)) = b := ⟨_, rfl⟩
  obtain ⟨b3, h3⟩ : ∃ b, (decide (0 ≤ r.prio) && decide (r.prio ≤ 1024)) = b := ⟨_, rfl⟩
  obtain ⟨b4, h4⟩ : ∃ b, (decide (0 ≤ r.kind) && decide (r.kind ≤ 3)) = b := ⟨_, rfl⟩
  obtain ⟨b5, h5⟩ : ∃ b, (decide (0 ≤ r.port) && decide (r.port ≤ 3)) = b := ⟨_, rfl⟩
  obtain ⟨b6, h6⟩ : ∃ b, decide (r.kind = 0) = b := ⟨_, rfl⟩
  obtain ⟨b7, h7⟩ : ∃ b, decide (r.port = 0) = b := ⟨_, rfl⟩
  obtain ⟨b8, h8⟩ : ∃ b, decide (r.r.lo ≤ r.r.hi) = b := ⟨_, rfl⟩
  obtain ⟨X, w⟩ : ∃ X, IntKind.i64.wrap (r.id - 1) = X := ⟨_, rfl⟩
  have hX : (decide (0 ≤ X) && decide (X ≤ 1048575)) = b1 := by
    by_cases q : r.id = -9223372036854775808
    · have e : X = 9223372036854775807 := by rw [← w, q]; decide
      rw [← h1, e, q]; decide
    · rw [← w, wrap64 (by omega) (by omega)]; exact h1
  have c1 := hX ▸ refWithin_calls X 1048575
  have c2 := h2 ▸ refWithin_calls r.dev 7
  have c3 := h3 ▸ refWithin_calls r.prio 1024
  have c4 := h4 ▸ refWithin_calls r.kind 3
  have c5 := h5 ▸ refWithin_calls r.port 3
  have e : ruleB r = (b1 && b2 && b3 && b4 && b5 && (b6 || b7) && b8) := by
    unfold ruleB; rw [← h1, h2, h3, h4, h5, h6, h7, h8]
    rw [show decide (0 ≤ r.id - 1) = decide (1 ≤ r.id) by (congr 1; exact propext (by omega)), show decide (r.id - 1 ≤ 1048575) = decide (r.id ≤ 1048576) by (congr 1; exact propext (by omega))]
  rw [e]
  clear e
  refine pbody Try.func113 rfl (N := 52) rfl rfl (by simp) (by simp [noIds]) fun σ => ?_
  (try (first | (with_reducible refine dops_go ?_; simp [ruAV, h6, h7, h8, w]) | (with_reducible refine OKv_go ?_; simp [ruAV, h6, h7, h8, w]) | (with_reducible refine OKr_go ?_; simp [ruAV, h6, h7, h8, w]))); repeat' (first | refine awp_seq ?_ | refine awp_block ?_ | (refine awp_skip ?_; try simp) | (refine awp_exit ?_; try simp) | (refine awp_ret ?_; try simp) | (refine retP_same (by simp) ?_; simp) | (refine retP_flat (by simp) (by simp) (by simp (maxDischargeDepth := 30) [ruAV, h6, h7, h8, w]) ?_; simp) | (refine awp_reg ?_; simp [ruAV, h6, h7, h8, w]) | (refine awp_drawT (fun _ => false) mixed (by decide +kernel) ?_; simp [ruAV, h6, h7, h8, w]) | (refine guarded_split ?_ ?_ <;> (intro hg; simp only [hg]; simp [ruAV, h6, h7, h8, w])) | (apply awp_cond_t; focus (simp [ruAV, h6, h7, h8, w]; done)) | (apply awp_cond_f; focus (simp [ruAV, h6, h7, h8, w]; done)) | (refine awp_cond ?_; simp [ruAV, h6, h7, h8, w]; refine ⟨?_, ?_⟩ <;> intro hc))
  repeat' (first | refine PCalls.use c1 ?_ | refine PCalls.use c2 ?_ | refine PCalls.use c3 ?_ | refine PCalls.use c4 ?_ | refine PCalls.use c5 ?_); all_goals (try (first | (with_reducible refine dops_go ?_; simp [ruAV, h6, h7, h8, w]) | (with_reducible refine OKv_go ?_; simp [ruAV, h6, h7, h8, w]) | (with_reducible refine OKr_go ?_; simp [ruAV, h6, h7, h8, w]))); repeat' (first | refine awp_seq ?_ | refine awp_block ?_ | (refine awp_skip ?_; try simp) | (refine awp_exit ?_; try simp) | (refine awp_ret ?_; try simp) | (refine retP_same (by simp) ?_; simp) | (refine retP_flat (by simp) (by simp) (by simp (maxDischargeDepth := 30) [ruAV, h6, h7, h8, w]) ?_; simp) | (refine awp_reg ?_; simp [ruAV, h6, h7, h8, w]) | (refine awp_drawT (fun _ => false) mixed (by decide +kernel) ?_; simp [ruAV, h6, h7, h8, w]) | (refine guarded_split ?_ ?_ <;> (intro hg; simp only [hg]; simp [ruAV, h6, h7, h8, w])) | (apply awp_cond_t; focus (simp [ruAV, h6, h7, h8, w]; done)) | (apply awp_cond_f; focus (simp [ruAV, h6, h7, h8, w]; done)) | (refine awp_cond ?_; simp [ruAV, h6, h7, h8, w]; refine ⟨?_, ?_⟩ <;> intro hc))
def aheadI (x y : Ru) : Int := if cmpI y.prio x.prio = 0 then cmpI x.id y.id else cmpI y.prio x.prio
theorem ahead_calls (x y : Ru) : PCalls Try.prog 151 [ruAV x, ruAV y] (.raw (.int .i64 (aheadI x y))) := by
  refine pbody Try.func151 rfl (N := 17) rfl rfl (by simp) (by simp [noIds]) fun σ => ?_
  (try (first | (with_reducible refine dops_go ?_; simp [ruAV]) | (with_reducible refine OKv_go ?_; simp [ruAV]) | (with_reducible refine OKr_go ?_; simp [ruAV]))); repeat' (first | refine awp_seq ?_ | refine awp_block ?_ | (refine awp_skip ?_; try simp) | (refine awp_exit ?_; try simp) | (refine awp_ret ?_; try simp) | (refine retP_same (by simp) ?_; simp) | (refine retP_flat (by simp) (by simp) (by simp (maxDischargeDepth := 30) [ruAV]) ?_; simp) | (refine awp_reg ?_; simp [ruAV]) | (refine awp_drawT (fun _ => false) mixed (by decide +kernel) ?_; simp [ruAV]) | (refine guarded_split ?_ ?_ <;> (intro hg; simp only [hg]; simp [ruAV])) | (apply awp_cond_t; focus (simp [ruAV]; done)) | (apply awp_cond_f; focus (simp [ruAV]; done)) | (refine awp_cond ?_; simp [ruAV]; refine ⟨?_, ?_⟩ <;> intro hc))
  refine awp_drawT (fun o => o.dst == some 9 || o.dst == some 14 || o.dst == some 16) mixed (by decide +kernel) ?_
  (try (first | (with_reducible refine dops_go ?_; simp [ruAV]) | (with_reducible refine OKv_go ?_; simp [ruAV]) | (with_reducible refine OKr_go ?_; simp [ruAV]))); repeat' (first | refine awp_seq ?_ | refine awp_block ?_ | (refine awp_skip ?_; try simp) | (refine awp_exit ?_; try simp) | (refine awp_ret ?_; try simp) | (refine retP_same (by simp) ?_; simp) | (refine retP_flat (by simp) (by simp) (by simp (maxDischargeDepth := 30) [ruAV]) ?_; simp) | (refine awp_reg ?_; simp [ruAV]) | (refine awp_drawT (fun _ => false) mixed (by decide +kernel) ?_; simp [ruAV]) | (refine guarded_split ?_ ?_ <;> (intro hg; simp only [hg]; simp [ruAV])) | (apply awp_cond_t; focus (simp [ruAV]; done)) | (apply awp_cond_f; focus (simp [ruAV]; done)) | (refine awp_cond ?_; simp [ruAV]; refine ⟨?_, ?_⟩ <;> intro hc))
  refine .inl ⟨_, .inl (compare_calls _ _), ?_⟩
  (try (first | (with_reducible refine dops_go ?_; simp [ruAV]) | (with_reducible refine OKv_go ?_; simp [ruAV]) | (with_reducible refine OKr_go ?_; simp [ruAV]))); repeat' (first | refine awp_seq ?_ | refine awp_block ?_ | (refine awp_skip ?_; try simp) | (refine awp_exit ?_; try simp) | (refine awp_ret ?_; try simp) | (refine retP_same (by simp) ?_; simp) | (refine retP_flat (by simp) (by simp) (by simp (maxDischargeDepth := 30) [ruAV]) ?_; simp) | (refine awp_reg ?_; simp [ruAV]) | (refine awp_drawT (fun _ => false) mixed (by decide +kernel) ?_; simp [ruAV]) | (refine guarded_split ?_ ?_ <;> (intro hg; simp only [hg]; simp [ruAV])) | (apply awp_cond_t; focus (simp [ruAV]; done)) | (apply awp_cond_f; focus (simp [ruAV]; done)) | (refine awp_cond ?_; simp [ruAV]; refine ⟨?_, ?_⟩ <;> intro hc))
  refine .inl ⟨_, .inl (compare_calls _ _), ?_⟩
  (try (first | (with_reducible refine dops_go ?_; simp [ruAV]) | (with_reducible refine OKv_go ?_; simp [ruAV]) | (with_reducible refine OKr_go ?_; simp [ruAV]))); repeat' (first | refine awp_seq ?_ | refine awp_block ?_ | (refine awp_skip ?_; try simp) | (refine awp_exit ?_; try simp) | (refine awp_ret ?_; try simp) | (refine retP_same (by simp) ?_; simp) | (refine retP_flat (by simp) (by simp) (by simp (maxDischargeDepth := 30) [ruAV]) ?_; simp) | (refine awp_reg ?_; simp [ruAV]) | (refine awp_drawT (fun _ => false) mixed (by decide +kernel) ?_; simp [ruAV]) | (refine guarded_split ?_ ?_ <;> (intro hg; simp only [hg]; simp [ruAV])) | (apply awp_cond_t; focus (simp [ruAV]; done)) | (apply awp_cond_f; focus (simp [ruAV]; done)) | (refine awp_cond ?_; simp [ruAV]; refine ⟨?_, ?_⟩ <;> intro hc))
  refine .inl ⟨_, .inr ⟨[intsAV [cmpI y.prio x.prio, cmpI x.id y.id] false], ?_, or_calls _ _ _, rfl⟩, ?_⟩
  · exact ⟨_, _, rfl, .inr ⟨[.raw (.int .i64 (cmpI y.prio x.prio)), .raw (.int .i64 (cmpI x.id y.id))], by simp [St.new], by simp, by simp [intsAV, iAV]⟩, rfl⟩
  unfold aheadI
  simp
  refine awp_ret ?_
  refine retP_flat (.inr rfl) rfl (by simp (maxDischargeDepth := 30)) ?_
  simp
end Go.Proofs.Ytanimmdlgmkmkaa.Av

/- Networks: the first of the rules that are asked. -/
namespace Go.Proofs.Ytanimmdlgmkmkaa.Av
open Go
set_option linter.unusedSimpArgs false
set_option linter.unusedVariables false
set_option maxRecDepth 100000
set_option maxHeartbeats 2000000
set_option pp.maxSteps 300

theorem acalls_nil {P : Program} {f : FuncId} {sz : Nat} {fl : Bool} {σ : St} {K : AV → St → Prop} (h : ∀ b cap, ACalls P f [.raw (.slice b 0 cap)] σ K) : ACalls P f [.sl sz [] fl] σ K := by
  refine ⟨(h none 0).1, fun S vs hS hl => ?_⟩
  simp only [LRel, VRel] at hl
  obtain ⟨v, us, rfl, ⟨base, cap, rfl, _⟩, rfl⟩ := hl
  exact (h base cap).2 S _ hS ⟨_, _, rfl, rfl, rfl⟩
theorem weaker_rawsl {n : Nat} {b : Option Addr} {cap : Nat} : Weaker (.raw (.slice b 0 cap)) (.sl n [] false) := by
  intro S v h
  simp only [VRel] at h ⊢
  subst h
  exact ⟨b, cap, rfl, by simp, by simp, by simp⟩
theorem ok_ru : ∀ z : List Ru, cellsOK (cellsL (z.map ruAV)) = true := fun z => by
  induction z with
  | nil => rfl
  | cons r z ih => simp [cellsL, ruAV, cellsOK, cellOK] at ih ⊢; try exact ih

theorem ruClone_calls (l : List Ru) (f : Bool) {σ : St} {K : AV → St → Prop} (hl : l.length < 2 ^ 40) (h : ∀ v τ, OwnL σ τ 7 v (l.map ruAV) → Ext σ τ → K v τ) : ACalls Try.prog 87 [rulesAV l f] σ K := by
  cases l with
  | nil =>
    simp only [rulesAV, List.map_nil]
    refine acalls_nil fun b cap => ?_
    refine abody Try.func87 rfl (N := 8) rfl rfl (by simp) ?_
    cases b with
    | none =>
      (try (first | (with_reducible refine dops_go ?_; simp) | (with_reducible refine OKv_go ?_; simp) | (with_reducible refine OKr_go ?_; simp))); repeat' (first | refine awp_seq ?_ | refine awp_block ?_ | (refine awp_skip ?_; try simp) | (refine awp_exit ?_; try simp) | (refine awp_ret ?_; try simp) | (refine awp_reg ?_; simp) | (refine awp_drawT (fun _ => false) mixed (by decide +kernel) ?_; simp) | (refine guarded_split ?_ ?_ <;> (intro hg; simp only [hg]; simp)) | (apply awp_cond_t; focus (simp; done)) | (apply awp_cond_f; focus (simp; done)) | (refine awp_cond ?_; simp; refine ⟨?_, ?_⟩ <;> intro hc))
      exact retK_of (.inr rfl) (by simp) (h _ _ OwnL.nil (Ext.refl _))
    | some b =>
      (try (first | (with_reducible refine dops_go ?_; simp [-opAppend]) | (with_reducible refine OKv_go ?_; simp [-opAppend]) | (with_reducible refine OKr_go ?_; simp [-opAppend]))); repeat' (first | refine awp_seq ?_ | refine awp_block ?_ | (refine awp_skip ?_; try simp) | (refine awp_exit ?_; try simp) | (refine awp_ret ?_; try simp) | (refine awp_reg ?_; simp [-opAppend]) | (refine awp_drawT (fun _ => false) mixed (by decide +kernel) ?_; simp [-opAppend]) | (refine guarded_split ?_ ?_ <;> (intro hg; simp only [hg]; simp [-opAppend])) | (apply awp_cond_t; focus (simp [-opAppend]; done)) | (apply awp_cond_f; focus (simp [-opAppend]; done)) | (refine awp_cond ?_; simp [-opAppend]; refine ⟨?_, ?_⟩ <;> intro hc))
      refine okr_append slt26 (σ0 := σ) (es := []) (OwnL.of rfl (by simp) (fresh_none _ _ _) rfl) (Ext.new _ _ _ _) (ys := []) (by simp) (.inl rfl) rfl (by simp) ?_
      intro v1 τ1 hO1 hE1 _ _
      rw [List.nil_append] at hO1
      (try (first | (with_reducible refine dops_go ?_; simp [-opAppend]) | (with_reducible refine OKv_go ?_; simp [-opAppend]) | (with_reducible refine OKr_go ?_; simp [-opAppend]))); repeat' (first | refine awp_seq ?_ | refine awp_block ?_ | (refine awp_skip ?_; try simp) | (refine awp_exit ?_; try simp) | (refine awp_ret ?_; try simp) | (refine awp_reg ?_; simp [-opAppend]) | (refine awp_drawT (fun _ => false) mixed (by decide +kernel) ?_; simp [-opAppend]) | (refine guarded_split ?_ ?_ <;> (intro hg; simp only [hg]; simp [-opAppend])) | (apply awp_cond_t; focus (simp [-opAppend]; done)) | (apply awp_cond_f; focus (simp [-opAppend]; done)) | (refine awp_cond ?_; simp [-opAppend]; refine ⟨?_, ?_⟩ <;> intro hc))
      exact retK_of (.inr rfl) (by simp) (h _ _ hO1 hE1)
  | cons r l =>
    refine abody Try.func87 rfl (N := 8) rfl rfl (by simp) ?_
    (try (first | (with_reducible refine dops_go ?_; simp [rulesAV, -opAppend]) | (with_reducible refine OKv_go ?_; simp [rulesAV, -opAppend]) | (with_reducible refine OKr_go ?_; simp [rulesAV, -opAppend]))); repeat' (first | refine awp_seq ?_ | refine awp_block ?_ | (refine awp_skip ?_; try simp) | (refine awp_exit ?_; try simp) | (refine awp_ret ?_; try simp) | (refine awp_reg ?_; simp [rulesAV, -opAppend]) | (refine awp_drawT (fun _ => false) mixed (by decide +kernel) ?_; simp [rulesAV, -opAppend]) | (refine guarded_split ?_ ?_ <;> (intro hg; simp only [hg]; simp [rulesAV, -opAppend])) | (apply awp_cond_t; focus (simp [rulesAV, -opAppend]; done)) | (apply awp_cond_f; focus (simp [rulesAV, -opAppend]; done)) | (refine awp_cond ?_; simp [rulesAV, -opAppend]; refine ⟨?_, ?_⟩ <;> intro hc))
    refine okr_append slt26 (σ0 := σ) (es := []) (OwnL.of rfl (by simp) (fresh_none _ _ _) rfl) (Ext.new _ _ _ _) (ys := (r :: l).map ruAV) (by simp) (.inr rfl) (ok_ru _) (by simp at hl ⊢; omega) ?_
    intro v1 τ1 hO1 hE1 _ _
    rw [List.nil_append] at hO1
    (try (first | (with_reducible refine dops_go ?_; simp [-opAppend]) | (with_reducible refine OKv_go ?_; simp [-opAppend]) | (with_reducible refine OKr_go ?_; simp [-opAppend]))); repeat' (first | refine awp_seq ?_ | refine awp_block ?_ | (refine awp_skip ?_; try simp) | (refine awp_exit ?_; try simp) | (refine awp_ret ?_; try simp) | (refine awp_reg ?_; simp [-opAppend]) | (refine awp_drawT (fun _ => false) mixed (by decide +kernel) ?_; simp [-opAppend]) | (refine guarded_split ?_ ?_ <;> (intro hg; simp only [hg]; simp [-opAppend])) | (apply awp_cond_t; focus (simp [-opAppend]; done)) | (apply awp_cond_f; focus (simp [-opAppend]; done)) | (refine awp_cond ?_; simp [-opAppend]; refine ⟨?_, ?_⟩ <;> intro hc))
    exact retK_of (.inr rfl) (by simp) (h _ _ hO1 hE1)

/-- The first of rules. -/
def minR : List Ru → Ru
  | [] => ⟨0, 0, 0, 0, ⟨0, 0⟩, 0⟩
  | r :: l => l.foldl (fun m x => if aheadI x m < 0 then x else m) r
theorem minR_step {z : List Ru} {k : Nat} {x : Ru} (h1 : 1 ≤ k) (hx : z[k]? = some x) : minR (z.take (k + 1)) = if aheadI x (minR (z.take k)) < 0 then x else minR (z.take k) := by
  rw [List.take_add_one, hx]
  cases z with
  | nil => simp at hx
  | cons r l =>
    obtain ⟨j, rfl⟩ : ∃ j, k = j + 1 := ⟨k - 1, by omega⟩
    simp [minR, List.foldl_append]
    rfl
theorem ru_fold (x : Ru) : AV.agg [.raw (.int .i64 x.id), .raw (.int .i64 x.dev), .raw (.int .i64 x.prio), .raw (.int .i64 x.kind), .raw (.int .u32 x.r.lo), .raw (.int .u32 x.r.hi), .raw (.int .i64 x.port)] = ruAV x := rfl
theorem ru_part (a b : Ru) : setPart (ruAV a) 0 [.raw (.int .i64 b.id), .raw (.int .i64 b.dev), .raw (.int .i64 b.prio), .raw (.int .i64 b.kind), .raw (.int .u32 b.r.lo), .raw (.int .u32 b.r.hi), .raw (.int .i64 b.port)] = ruAV b := rfl
theorem ru_ok (a : Ru) : cellsOK (ruAV a).cells = true := rfl
theorem minFunc_calls (z : List Ru) (hne : z ≠ []) (f : Bool) (hl : z.length < 2 ^ 40) : PCalls Try.prog 150 [rulesAV z f, .fn (.func 151) [] []] (ruAV (minR z)) := by
  refine pbody Try.func150 rfl (N := 33) rfl rfl (by simp) (by simp [noIds, ruAV]) fun σ => ?_
  have hpos : 0 < z.length := List.length_pos_iff.2 hne
  have hx0 : z[0]? = some z[0] := List.getElem?_eq_getElem hpos
  have hlt1 : ¬ ((z.length : Int) < 1) := by omega
  (try (first | (with_reducible refine dops_go ?_; simp [rulesAV, ru_cells, hx0, hlt1, hpos]) | (with_reducible refine OKv_go ?_; simp [rulesAV, ru_cells, hx0, hlt1, hpos]) | (with_reducible refine OKr_go ?_; simp [rulesAV, ru_cells, hx0, hlt1, hpos]))); repeat' (first | refine awp_seq ?_ | refine awp_block ?_ | (refine awp_skip ?_; try simp) | (refine awp_exit ?_; try simp) | (refine awp_ret ?_; try simp) | (refine retP_same (by simp) ?_; simp) | (refine retP_flat (by simp) (by simp) (by simp (maxDischargeDepth := 30) [rulesAV, ru_cells, hx0, hlt1, hpos]) ?_; simp) | (refine awp_reg ?_; simp [rulesAV, ru_cells, hx0, hlt1, hpos]) | (refine awp_drawT (fun _ => false) mixed (by decide +kernel) ?_; simp [rulesAV, ru_cells, hx0, hlt1, hpos]) | (refine guarded_split ?_ ?_ <;> (intro hg; simp only [hg]; simp [rulesAV, ru_cells, hx0, hlt1, hpos])) | (apply awp_cond_t; focus (simp [rulesAV, ru_cells, hx0, hlt1, hpos]; done)) | (apply awp_cond_f; focus (simp [rulesAV, ru_cells, hx0, hlt1, hpos]; done)) | (refine awp_cond ?_; simp [rulesAV, ru_cells, hx0, hlt1, hpos]; refine ⟨?_, ?_⟩ <;> intro hc))
  refine awp_loopH (fun n A τ => A 0 = rulesAV z f ∧ A 1 = .fn (.func 151) [] [] ∧ A 4 = .rp ⟨4, σ.nx 4, 7⟩ 0 0 ∧ A 5 = .rp ⟨5, σ.nx 5, 7⟩ 0 0 ∧ (∃ y, τ.m ⟨4, σ.nx 4, 7⟩ = some (.buf [ruAV y])) ∧ Ext σ τ ∧
    ∃ (k : Nat), A 6 = .raw (.int .i64 k) ∧ 1 ≤ k ∧ k ≤ z.length ∧ τ.m ⟨5, σ.nx 5, 7⟩ = some (.buf [ruAV (minR (z.take k))]) ∧ n = z.length - k) (z.length - 1) ?_ ?_
  · refine ⟨by simp [rulesAV], by simp, by simp, by simp [St.new], ⟨⟨0, 0, 0, 0, ⟨0, 0⟩, 0⟩, ?_⟩, ?_, 1, by simp, by omega, by omega, ?_, ?_⟩
    · simp [St.new, St.set, ruAV]
    · refine Ext.setF (by simp (maxDischargeDepth := 30)) ?_
      have := fresh_none σ 5 7
      simpa [St.new] using this
    · have e : z.take 1 = [z[0]] := by
        cases z with
        | nil => exact absurd rfl hne
        | cons r l => rfl
      rw [e]
      simp [St.new, St.set, minR, ruAV]
    · rfl
  rintro n A τ ⟨a0, a1, a4, a5, ⟨y, m4⟩, hE, k, a6, h1, hk, m5, rfl⟩ I1 hI1
  have f4 : σ.m ⟨4, σ.nx 4, 7⟩ = none := fresh_none _ _ _
  have f5 : σ.m ⟨5, σ.nx 5, 7⟩ = none := fresh_none _ _ _
  by_cases hlt : k < z.length
  · have hx : z[k]? = some z[k] := List.getElem?_eq_getElem hlt
    have w1 : IntKind.i64.wrap ((k : Int) + 1) = ((k + 1 : Nat) : Int) := by rw [wrap64 (by omega) (by omega)]; omega
    (try (first | (with_reducible refine dops_go ?_; simp [rulesAV, a0, a1, a4, a5, a6, hlt, hx, m4, m5, ru_cells, ru_fold]) | (with_reducible refine OKv_go ?_; simp [rulesAV, a0, a1, a4, a5, a6, hlt, hx, m4, m5, ru_cells, ru_fold]) | (with_reducible refine OKr_go ?_; simp [rulesAV, a0, a1, a4, a5, a6, hlt, hx, m4, m5, ru_cells, ru_fold]))); repeat' (first | refine awp_seq ?_ | refine awp_block ?_ | (refine awp_skip ?_; try simp) | (refine awp_exit ?_; try simp) | (refine awp_ret ?_; try simp) | (refine retP_same (by simp) ?_; simp) | (refine retP_flat (by simp) (by simp) (by simp (maxDischargeDepth := 30) [rulesAV, a0, a1, a4, a5, a6, hlt, hx, m4, m5, ru_cells, ru_fold]) ?_; simp) | (refine awp_reg ?_; simp [rulesAV, a0, a1, a4, a5, a6, hlt, hx, m4, m5, ru_cells, ru_fold]) | (refine awp_drawT (fun _ => false) mixed (by decide +kernel) ?_; simp [rulesAV, a0, a1, a4, a5, a6, hlt, hx, m4, m5, ru_cells, ru_fold]) | (refine guarded_split ?_ ?_ <;> (intro hg; simp only [hg]; simp [rulesAV, a0, a1, a4, a5, a6, hlt, hx, m4, m5, ru_cells, ru_fold])) | (apply awp_cond_t; focus (simp [rulesAV, a0, a1, a4, a5, a6, hlt, hx, m4, m5, ru_cells, ru_fold]; done)) | (apply awp_cond_f; focus (simp [rulesAV, a0, a1, a4, a5, a6, hlt, hx, m4, m5, ru_cells, ru_fold]; done)) | (refine awp_cond ?_; simp [rulesAV, a0, a1, a4, a5, a6, hlt, hx, m4, m5, ru_cells, ru_fold]; refine ⟨?_, ?_⟩ <;> intro hc))
    refine PCalls.use (ahead_calls _ _) ?_
    by_cases hs : aheadI z[k] (minR (z.take k)) < 0
    · (try (first | (with_reducible refine dops_go ?_; simp [rulesAV, a0, a1, a4, a5, a6, hlt, hx, m4, m5, ru_cells, ru_fold, ru_part, hs, w1]) | (with_reducible refine OKv_go ?_; simp [rulesAV, a0, a1, a4, a5, a6, hlt, hx, m4, m5, ru_cells, ru_fold, ru_part, hs, w1]) | (with_reducible refine OKr_go ?_; simp [rulesAV, a0, a1, a4, a5, a6, hlt, hx, m4, m5, ru_cells, ru_fold, ru_part, hs, w1]))); repeat' (first | refine awp_seq ?_ | refine awp_block ?_ | (refine awp_skip ?_; try simp) | (refine awp_exit ?_; try simp) | (refine awp_ret ?_; try simp) | (refine retP_same (by simp) ?_; simp) | (refine retP_flat (by simp) (by simp) (by simp (maxDischargeDepth := 30) [rulesAV, a0, a1, a4, a5, a6, hlt, hx, m4, m5, ru_cells, ru_fold, ru_part, hs, w1]) ?_; simp) | (refine awp_reg ?_; simp [rulesAV, a0, a1, a4, a5, a6, hlt, hx, m4, m5, ru_cells, ru_fold, ru_part, hs, w1]) | (refine awp_drawT (fun _ => false) mixed (by decide +kernel) ?_; simp [rulesAV, a0, a1, a4, a5, a6, hlt, hx, m4, m5, ru_cells, ru_fold, ru_part, hs, w1]) | (refine guarded_split ?_ ?_ <;> (intro hg; simp only [hg]; simp [rulesAV, a0, a1, a4, a5, a6, hlt, hx, m4, m5, ru_cells, ru_fold, ru_part, hs, w1])) | (apply awp_cond_t; focus (simp [rulesAV, a0, a1, a4, a5, a6, hlt, hx, m4, m5, ru_cells, ru_fold, ru_part, hs, w1]; done)) | (apply awp_cond_f; focus (simp [rulesAV, a0, a1, a4, a5, a6, hlt, hx, m4, m5, ru_cells, ru_fold, ru_part, hs, w1]; done)) | (refine awp_cond ?_; simp [rulesAV, a0, a1, a4, a5, a6, hlt, hx, m4, m5, ru_cells, ru_fold, ru_part, hs, w1]; refine ⟨?_, ?_⟩ <;> intro hc))
      exact hI1 (z.length - (k + 1)) _ _ (by omega) ⟨by simp [a0], by simp [a1], by simp [a4], by simp [a5], ⟨y, by rw [set_ne (by simp)]; exact m4⟩, hE.setF f5, k + 1, by simp, by omega, by omega, by rw [set_hit m5, minR_step h1 hx, if_pos hs], rfl⟩
    · (try (first | (with_reducible refine dops_go ?_; simp [rulesAV, a0, a1, a4, a5, a6, hlt, hx, m4, m5, ru_cells, ru_fold, ru_part, hs, w1]) | (with_reducible refine OKv_go ?_; simp [rulesAV, a0, a1, a4, a5, a6, hlt, hx, m4, m5, ru_cells, ru_fold, ru_part, hs, w1]) | (with_reducible refine OKr_go ?_; simp [rulesAV, a0, a1, a4, a5, a6, hlt, hx, m4, m5, ru_cells, ru_fold, ru_part, hs, w1]))); repeat' (first | refine awp_seq ?_ | refine awp_block ?_ | (refine awp_skip ?_; try simp) | (refine awp_exit ?_; try simp) | (refine awp_ret ?_; try simp) | (refine retP_same (by simp) ?_; simp) | (refine retP_flat (by simp) (by simp) (by simp (maxDischargeDepth := 30) [rulesAV, a0, a1, a4, a5, a6, hlt, hx, m4, m5, ru_cells, ru_fold, ru_part, hs, w1]) ?_; simp) | (refine awp_reg ?_; simp [rulesAV, a0, a1, a4, a5, a6, hlt, hx, m4, m5, ru_cells, ru_fold, ru_part, hs, w1]) | (refine awp_drawT (fun _ => false) mixed (by decide +kernel) ?_; simp [rulesAV, a0, a1, a4, a5, a6, hlt, hx, m4, m5, ru_cells, ru_fold, ru_part, hs, w1]) | (refine guarded_split ?_ ?_ <;> (intro hg; simp only [hg]; simp [rulesAV, a0, a1, a4, a5, a6, hlt, hx, m4, m5, ru_cells, ru_fold, ru_part, hs, w1])) | (apply awp_cond_t; focus (simp [rulesAV, a0, a1, a4, a5, a6, hlt, hx, m4, m5, ru_cells, ru_fold, ru_part, hs, w1]; done)) | (apply awp_cond_f; focus (simp [rulesAV, a0, a1, a4, a5, a6, hlt, hx, m4, m5, ru_cells, ru_fold, ru_part, hs, w1]; done)) | (refine awp_cond ?_; simp [rulesAV, a0, a1, a4, a5, a6, hlt, hx, m4, m5, ru_cells, ru_fold, ru_part, hs, w1]; refine ⟨?_, ?_⟩ <;> intro hc))
      exact hI1 (z.length - (k + 1)) _ _ (by omega) ⟨by simp [a0], by simp [a1], by simp [a4], by simp [a5], ⟨y, m4⟩, hE, k + 1, by simp, by omega, by omega, by rw [m5, minR_step h1 hx, if_neg hs], rfl⟩
  · have : k = z.length := by omega
    subst this
    rw [List.take_length] at m5
    (try (first | (with_reducible refine dops_go ?_; simp [rulesAV, a0, a1, a4, a5, a6, m4, m5, ru_cells, ru_fold, ru_part]) | (with_reducible refine OKv_go ?_; simp [rulesAV, a0, a1, a4, a5, a6, m4, m5, ru_cells, ru_fold, ru_part]) | (with_reducible refine OKr_go ?_; simp [rulesAV, a0, a1, a4, a5, a6, m4, m5, ru_cells, ru_fold, ru_part]))); repeat' (first | refine awp_seq ?_ | refine awp_block ?_ | (refine awp_skip ?_; try simp) | (refine awp_exit ?_; try simp) | (refine awp_ret ?_; try simp) | (refine awp_reg ?_; simp [rulesAV, a0, a1, a4, a5, a6, m4, m5, ru_cells, ru_fold, ru_part]) | (refine awp_drawT (fun _ => false) mixed (by decide +kernel) ?_; simp [rulesAV, a0, a1, a4, a5, a6, m4, m5, ru_cells, ru_fold, ru_part]) | (refine guarded_split ?_ ?_ <;> (intro hg; simp only [hg]; simp [rulesAV, a0, a1, a4, a5, a6, m4, m5, ru_cells, ru_fold, ru_part])) | (apply awp_cond_t; focus (simp [rulesAV, a0, a1, a4, a5, a6, m4, m5, ru_cells, ru_fold, ru_part]; done)) | (apply awp_cond_f; focus (simp [rulesAV, a0, a1, a4, a5, a6, m4, m5, ru_cells, ru_fold, ru_part]; done)) | (refine awp_cond ?_; simp [rulesAV, a0, a1, a4, a5, a6, m4, m5, ru_cells, ru_fold, ru_part]; refine ⟨?_, ?_⟩ <;> intro hc))
    refine retP_flat (.inr rfl) rfl (hE.setF f4) ?_
    simp [a4, m4, St.set, ru_cells]
    exact ru_fold _

theorem ACalls.args {P : Program} {f : FuncId} {as_ bs : List AV} {σ : St} {K : AV → St → Prop} (hw : ∀ S vs, LRel S as_ vs → LRel S bs vs) (h : ACalls P f bs σ K) : ACalls P f as_ σ K :=
  ⟨h.1, fun S vs hS hl => h.2 S vs hS (hw S vs hl)⟩
/-- A made list of which a head counts. -/
def OwnP (σ0 τ : St) (n : Nat) (v : AV) (es : List AV) : Prop :=
  (es = [] ∧ v = .sl 0 [] true) ∨ ∃ j rest, v = .rs j 0 es.length ∧ j.sz = n ∧ τ.m j = some (.buf (es ++ rest)) ∧ σ0.m j = none
theorem OwnL.toP {σ0 τ : St} {n : Nat} {v : AV} {es : List AV} (h : OwnL σ0 τ n v es) : OwnP σ0 τ n v es := by
  rcases h with h | ⟨j, h1, h2, h3, h4⟩
  · exact .inl h
  · exact .inr ⟨j, [], h1, h2, by rw [List.append_nil]; exact h3, h4⟩
theorem OwnP.ext {σ0 τ ρ : St} {n : Nat} {v : AV} {es : List AV} (h : OwnP σ0 τ n v es) (k : Ext τ ρ) : OwnP σ0 ρ n v es := by
  rcases h with h | ⟨j, r, h1, h2, h3, h4⟩
  · exact .inl h
  · exact .inr ⟨j, r, h1, h2, k.m _ _ h3, h4⟩
theorem PCalls.useP {P : Program} {f : FuncId} {σ0 σ : St} {n : Nat} {a v r : AV} {es : List AV} {K : AV → St → Prop} (h : PCalls P f [.sl n es false, a] r) (hr : r.plain = true) (hO : OwnP σ0 σ n v es) (k : K r σ) : ACalls P f [v, a] σ K := by
  rcases hO with ⟨rfl, rfl⟩ | ⟨j, rest, rfl, hj, hm, hn⟩
  · refine ACalls.args (bs := [.sl n [] false, a]) (fun S vs hl => ?_) (h.use k)
    simp only [LRel] at hl ⊢
    obtain ⟨w, ws, e2, h2, v, us, e, h1, h3⟩ := hl
    exact ⟨w, ws, e2, weaker_sl _ _ h2, v, us, e, h1, h3⟩
  · refine RCalls.use (.inr ⟨[.sl n es false, a], ?_, h, hr⟩) k
    simp only [lentL]
    exact ⟨_, _, rfl, .inr ⟨es ++ rest, hm, by simp, by simp [hj]⟩, _, _, rfl, .inl rfl, rfl⟩

theorem delete_calls {g : FuncId} {caps : List AV} {p : Ru → Bool} (l : List Ru) {σ0 σ : St} {v : AV} {K : AV → St → Prop} (hO : OwnL σ0 σ 7 v (l.map ruAV)) (hE : Ext σ0 σ) (hl : l.length < 2 ^ 40)
    (hg : ∀ r ∈ l, PCalls Try.prog g (ruAV r :: caps) (.raw (.bool (p r)))) (h : ∀ v' τ, OwnP σ0 τ 7 v' ((l.filter fun r => !p r).map ruAV) → Ext σ0 τ → K v' τ) : ACalls Try.prog 148 [v, .fn (.func g) [] caps] σ K := by
  refine abody Try.func148 rfl (N := 42) rfl rfl (by simp) ?_
  (try (first | (with_reducible refine dops_go ?_; simp) | (with_reducible refine OKv_go ?_; simp) | (with_reducible refine OKr_go ?_; simp))); repeat' (first | refine awp_seq ?_ | refine awp_block ?_ | (refine awp_skip ?_; try simp) | (refine awp_exit ?_; try simp) | (refine awp_ret ?_; try simp) | (refine retP_same (by simp) ?_; simp) | (refine retP_flat (by simp) (by simp) (by simp (maxDischargeDepth := 30)) ?_; simp) | (refine awp_reg ?_; simp) | (refine awp_drawT (fun _ => false) mixed (by decide +kernel) ?_; simp) | (refine guarded_split ?_ ?_ <;> (intro hg; simp only [hg]; simp)) | (apply awp_cond_t; focus (simp; done)) | (apply awp_cond_f; focus (simp; done)) | (refine awp_cond ?_; simp; refine ⟨?_, ?_⟩ <;> intro hc))
  refine PCalls.useP (ruIndex_calls l false (by omega) hg) rfl hO.toP ?_
  cases ha : l.any p with
  | false =>
    have hi : idxOf p l = -1 := by unfold idxOf; rw [ha]; rfl
    have hfl : (l.filter fun r => !p r) = l := by
      rw [List.filter_eq_self]
      intro r hr
      rw [List.any_eq_false] at ha
      simpa using ha r hr
    have w1 : IntKind.i64.wrap (-1) = -1 := wrap64 (by omega) (by omega)
    rw [hfl] at h
    (try (first | (with_reducible refine dops_go ?_; simp [hi, w1]) | (with_reducible refine OKv_go ?_; simp [hi, w1]) | (with_reducible refine OKr_go ?_; simp [hi, w1]))); repeat' (first | refine awp_seq ?_ | refine awp_block ?_ | (refine awp_skip ?_; try simp) | (refine awp_exit ?_; try simp) | (refine awp_ret ?_; try simp) | (refine awp_reg ?_; simp [hi, w1]) | (refine awp_drawT (fun _ => false) mixed (by decide +kernel) ?_; simp [hi, w1]) | (refine guarded_split ?_ ?_ <;> (intro hg; simp only [hg]; simp [hi, w1])) | (apply awp_cond_t; focus (simp [hi, w1]; done)) | (apply awp_cond_f; focus (simp [hi, w1]; done)) | (refine awp_cond ?_; simp [hi, w1]; refine ⟨?_, ?_⟩ <;> intro hc))
    exact retK_of (.inr rfl) (by simp) (h _ _ hO.toP hE)
  | true =>
    have hi : idxOf p l = (l.findIdx p : Nat) := by unfold idxOf; rw [ha]; rfl
    have hlt0 : l.findIdx p < l.length := List.findIdx_lt_length.2 (by simpa using ha)
    obtain ⟨i0, hi0⟩ : ∃ i0, l.findIdx p = i0 := ⟨_, rfl⟩
    rw [hi0] at hi hlt0
    have hne : ¬ ((i0 : Int) = -1) := by omega
    have w0 : IntKind.i64.wrap ((i0 : Int) + 1) = ((i0 + 1 : Nat) : Int) := by rw [wrap64 (by omega) (by omega)]; omega
    have w1 : IntKind.i64.wrap (-1) = -1 := wrap64 (by omega) (by omega)
    rcases hO with ⟨he, _⟩ | ⟨j, hv, hj, hm, hn⟩
    · have : l = [] := by simpa using he
      subst this
      simp at ha
    rw [List.length_map] at hv
    subst hv
    (try (first | (with_reducible refine dops_go ?_; simp [hi, w1, hne, w0]) | (with_reducible refine OKv_go ?_; simp [hi, w1, hne, w0]) | (with_reducible refine OKr_go ?_; simp [hi, w1, hne, w0]))); repeat' (first | refine awp_seq ?_ | refine awp_block ?_ | (refine awp_skip ?_; try simp) | (refine awp_exit ?_; try simp) | (refine awp_ret ?_; try simp) | (refine retP_same (by simp) ?_; simp) | (refine retP_flat (by simp) (by simp) (by simp (maxDischargeDepth := 30) [hi, w1, hne, w0]) ?_; simp) | (refine awp_reg ?_; simp [hi, w1, hne, w0]) | (refine awp_drawT (fun _ => false) mixed (by decide +kernel) ?_; simp [hi, w1, hne, w0]) | (refine guarded_split ?_ ?_ <;> (intro hg; simp only [hg]; simp [hi, w1, hne, w0])) | (apply awp_cond_t; focus (simp [hi, w1, hne, w0]; done)) | (apply awp_cond_f; focus (simp [hi, w1, hne, w0]; done)) | (refine awp_cond ?_; simp [hi, w1, hne, w0]; refine ⟨?_, ?_⟩ <;> intro hc))
    have hfirst : ∀ r ∈ l.take i0, p r = false := fun r hr => by
      obtain ⟨q, hq⟩ := List.getElem?_of_mem hr
      obtain ⟨hq1, hq2⟩ := List.getElem?_eq_some_iff.1 hq
      rw [List.length_take] at hq1
      rw [List.getElem_take] at hq2
      have := List.not_of_lt_findIdx (p := p) (xs := l) (i := q) (by omega)
      rw [hq2] at this
      simpa using this
    have hp0 : p l[i0] = true := by
      have := List.findIdx_getElem (p := p) (xs := l) (w := by omega)
      simpa only [hi0] using this
    have htk : ∀ k, (hk : k < l.length) → (l.take (k + 1)).filter (fun r => !p r) = (l.take k).filter (fun r => !p r) ++ if p l[k] = true then [] else [l[k]] := fun k hk => by
      rw [List.take_add_one, List.getElem?_eq_getElem hk, List.filter_append]
      congr 1
      cases hb : p l[k] <;> simp [hb]
    refine awp_loopH (fun n A τ => A 0 = .rs j 0 l.length ∧ A 1 = .fn (.func g) [] caps ∧ Ext σ0 τ ∧ ∃ (k : Nat) (q : List Ru), A 6 = .raw (.int .i64 k) ∧ A 5 = .raw (.int .i64 (((l.take k).filter fun r => !p r).length : Nat)) ∧ k ≤ l.length ∧
      ((l.take k).filter fun r => !p r).length < k ∧ q.length = l.length ∧ q.take ((l.take k).filter fun r => !p r).length = (l.take k).filter (fun r => !p r) ∧ q.drop k = l.drop k ∧ τ.m j = some (.buf (q.map ruAV)) ∧ n = l.length - k) (l.length - (i0 + 1)) ?_ ?_
    · have e1 : (l.take (i0 + 1)).filter (fun r => !p r) = l.take i0 := by
        rw [htk i0 hlt0, if_pos hp0, List.append_nil, List.filter_eq_self]
        intro r hr; simp [hfirst r hr]
      refine ⟨by simp, by simp, hE, i0 + 1, l, by simp, ?_, by omega, ?_, rfl, ?_, rfl, hm, rfl⟩
      · rw [e1, List.length_take, Nat.min_eq_left (by omega)]; simp
      · rw [e1, List.length_take, Nat.min_eq_left (by omega)]; omega
      · rw [e1, List.length_take, Nat.min_eq_left (by omega)]
    rintro n A τ ⟨a0, a1, hE, k, q, a6, a5, hk, hik, hq, hq1, hq2, hmq, rfl⟩ I1 hI1
    obtain ⟨i, hii⟩ : ∃ i, ((l.take k).filter fun r => !p r).length = i := ⟨_, rfl⟩
    rw [hii] at a5 hik hq1
    by_cases hlt : k < l.length
    · have hx : q[k]? = some l[k] := by
        have := congrArg (·[0]?) hq2
        simpa [List.getElem?_drop, List.getElem?_eq_getElem hlt] using this
      have hxi : q[i]? = some q[i] := List.getElem?_eq_getElem (by omega)
      have w2 : IntKind.i64.wrap ((k : Int) + 1) = ((k + 1 : Nat) : Int) := by rw [wrap64 (by omega) (by omega)]; omega
      have w3 : IntKind.i64.wrap ((i : Int) + 1) = ((i + 1 : Nat) : Int) := by rw [wrap64 (by omega) (by omega)]; omega
      have hjf : j ≠ ⟨7, τ.nx 7, 7⟩ := fun e => by rw [e, fresh_none] at hmq; cases hmq
      have hil : i < l.length := by omega
      (try (first | (with_reducible refine dops_go ?_; simp [a0, a1, a6, a5, hlt, hx, hmq, hj, hjf, ru_cells, ru_fold, w2, w3]) | (with_reducible refine OKv_go ?_; simp [a0, a1, a6, a5, hlt, hx, hmq, hj, hjf, ru_cells, ru_fold, w2, w3]) | (with_reducible refine OKr_go ?_; simp [a0, a1, a6, a5, hlt, hx, hmq, hj, hjf, ru_cells, ru_fold, w2, w3]))); repeat' (first | refine awp_seq ?_ | refine awp_block ?_ | (refine awp_skip ?_; try simp) | (refine awp_exit ?_; try simp) | (refine awp_ret ?_; try simp) | (refine retP_same (by simp) ?_; simp) | (refine retP_flat (by simp) (by simp) (by simp (maxDischargeDepth := 30) [a0, a1, a6, a5, hlt, hx, hmq, hj, hjf, ru_cells, ru_fold, w2, w3]) ?_; simp) | (refine awp_reg ?_; simp [a0, a1, a6, a5, hlt, hx, hmq, hj, hjf, ru_cells, ru_fold, w2, w3]) | (refine awp_drawT (fun _ => false) mixed (by decide +kernel) ?_; simp [a0, a1, a6, a5, hlt, hx, hmq, hj, hjf, ru_cells, ru_fold, w2, w3]) | (refine guarded_split ?_ ?_ <;> (intro hg; simp only [hg]; simp [a0, a1, a6, a5, hlt, hx, hmq, hj, hjf, ru_cells, ru_fold, w2, w3])) | (apply awp_cond_t; focus (simp [a0, a1, a6, a5, hlt, hx, hmq, hj, hjf, ru_cells, ru_fold, w2, w3]; done)) | (apply awp_cond_f; focus (simp [a0, a1, a6, a5, hlt, hx, hmq, hj, hjf, ru_cells, ru_fold, w2, w3]; done)) | (refine awp_cond ?_; simp [a0, a1, a6, a5, hlt, hx, hmq, hj, hjf, ru_cells, ru_fold, w2, w3]; refine ⟨?_, ?_⟩ <;> intro hc))
      refine PCalls.use (hg l[k] (List.getElem_mem _)) ?_
      cases hpk : p l[k] with
      | true =>
        (try (first | (with_reducible refine dops_go ?_; simp [a0, a1, a6, a5, hlt, hx, hmq, hj, hjf, ru_cells, ru_fold, w2, w3]) | (with_reducible refine OKv_go ?_; simp [a0, a1, a6, a5, hlt, hx, hmq, hj, hjf, ru_cells, ru_fold, w2, w3]) | (with_reducible refine OKr_go ?_; simp [a0, a1, a6, a5, hlt, hx, hmq, hj, hjf, ru_cells, ru_fold, w2, w3]))); repeat' (first | refine awp_seq ?_ | refine awp_block ?_ | (refine awp_skip ?_; try simp) | (refine awp_exit ?_; try simp) | (refine awp_ret ?_; try simp) | (refine retP_same (by simp) ?_; simp) | (refine retP_flat (by simp) (by simp) (by simp (maxDischargeDepth := 30) [a0, a1, a6, a5, hlt, hx, hmq, hj, hjf, ru_cells, ru_fold, w2, w3]) ?_; simp) | (refine awp_reg ?_; simp [a0, a1, a6, a5, hlt, hx, hmq, hj, hjf, ru_cells, ru_fold, w2, w3]) | (refine awp_drawT (fun _ => false) mixed (by decide +kernel) ?_; simp [a0, a1, a6, a5, hlt, hx, hmq, hj, hjf, ru_cells, ru_fold, w2, w3]) | (refine guarded_split ?_ ?_ <;> (intro hg; simp only [hg]; simp [a0, a1, a6, a5, hlt, hx, hmq, hj, hjf, ru_cells, ru_fold, w2, w3])) | (apply awp_cond_t; focus (simp [a0, a1, a6, a5, hlt, hx, hmq, hj, hjf, ru_cells, ru_fold, w2, w3]; done)) | (apply awp_cond_f; focus (simp [a0, a1, a6, a5, hlt, hx, hmq, hj, hjf, ru_cells, ru_fold, w2, w3]; done)) | (refine awp_cond ?_; simp [a0, a1, a6, a5, hlt, hx, hmq, hj, hjf, ru_cells, ru_fold, w2, w3]; refine ⟨?_, ?_⟩ <;> intro hc))
        have e := htk k hlt
        rw [if_pos hpk, List.append_nil] at e
        refine hI1 (l.length - (k + 1)) _ _ (by omega) ⟨by simp [a0], by simp [a1], by simp [hE], k + 1, q, by simp, by rw [e, hii]; simp [a5], by omega, by rw [e, hii]; omega, hq, by rw [e, hii]; exact hq1, ?_, by simp [St.set, St.new, hjf, hmq], rfl⟩
        have := congrArg (List.drop 1) hq2
        simpa [List.drop_drop, Nat.add_comm] using this
      | false =>
        have hsp : setPart (ruAV q[i]) 0 (ruAV l[k]).cells = ruAV l[k] := rfl
        rw [ru_cells] at hsp
        (try (first | (with_reducible refine dops_go ?_; simp [a0, a1, a6, a5, hlt, hil, hx, hxi, hmq, hj, hjf, ru_cells, ru_fold, hsp, w2, w3]) | (with_reducible refine OKv_go ?_; simp [a0, a1, a6, a5, hlt, hil, hx, hxi, hmq, hj, hjf, ru_cells, ru_fold, hsp, w2, w3]) | (with_reducible refine OKr_go ?_; simp [a0, a1, a6, a5, hlt, hil, hx, hxi, hmq, hj, hjf, ru_cells, ru_fold, hsp, w2, w3]))); repeat' (first | refine awp_seq ?_ | refine awp_block ?_ | (refine awp_skip ?_; try simp) | (refine awp_exit ?_; try simp) | (refine awp_ret ?_; try simp) | (refine retP_same (by simp) ?_; simp) | (refine retP_flat (by simp) (by simp) (by simp (maxDischargeDepth := 30) [a0, a1, a6, a5, hlt, hil, hx, hxi, hmq, hj, hjf, ru_cells, ru_fold, hsp, w2, w3]) ?_; simp) | (refine awp_reg ?_; simp [a0, a1, a6, a5, hlt, hil, hx, hxi, hmq, hj, hjf, ru_cells, ru_fold, hsp, w2, w3]) | (refine awp_drawT (fun _ => false) mixed (by decide +kernel) ?_; simp [a0, a1, a6, a5, hlt, hil, hx, hxi, hmq, hj, hjf, ru_cells, ru_fold, hsp, w2, w3]) | (refine guarded_split ?_ ?_ <;> (intro hg; simp only [hg]; simp [a0, a1, a6, a5, hlt, hil, hx, hxi, hmq, hj, hjf, ru_cells, ru_fold, hsp, w2, w3])) | (apply awp_cond_t; focus (simp [a0, a1, a6, a5, hlt, hil, hx, hxi, hmq, hj, hjf, ru_cells, ru_fold, hsp, w2, w3]; done)) | (apply awp_cond_f; focus (simp [a0, a1, a6, a5, hlt, hil, hx, hxi, hmq, hj, hjf, ru_cells, ru_fold, hsp, w2, w3]; done)) | (refine awp_cond ?_; simp [a0, a1, a6, a5, hlt, hil, hx, hxi, hmq, hj, hjf, ru_cells, ru_fold, hsp, w2, w3]; refine ⟨?_, ?_⟩ <;> intro hc))
        have e := htk k hlt
        rw [if_neg (by simp [hpk])] at e
        have el : (((l.take k).filter fun r => !p r) ++ [l[k]]).length = i + 1 := by rw [List.length_append, hii]; rfl
        refine hI1 (l.length - (k + 1)) _ _ (by omega) ⟨by simp [a0], by simp [a1], Ext.setF (by simp [hE]) hn, k + 1, q.set i l[k], by simp, by rw [e, el]; simp, by omega, by rw [e, el]; omega, by simpa using hq, ?_, ?_, by simp [St.set, St.new, hjf, hmq, List.map_set], rfl⟩
        · rw [e, el, ← hq1, List.take_succ_eq_append_getElem (by simp; omega)]
          simp
          rw [List.take_set, List.set_eq_of_length_le (by simp; omega)]
        · have := congrArg (List.drop 1) hq2
          rw [List.drop_set_of_lt (by omega)]
          simpa [List.drop_drop, Nat.add_comm] using this
    · have : k = l.length := by omega
      subst this
      rw [List.take_length] at *
      have hil : i ≤ l.length := by omega
      obtain ⟨m, hm'⟩ : ∃ m, l.length - i = m + 1 := ⟨l.length - i - 1, by omega⟩
      have ecut : cutRs j 0 i l.length = .rs j i (m + 1) := by unfold cutRs; rw [if_pos (.inr (by omega)), hm', Nat.zero_add]
      obtain ⟨rest, hcl⟩ : ∃ rest, opClear Try.prog τ.m 26 (.rs j i (m + 1)) = some (.wrv j ((l.filter fun r => !p r).map ruAV ++ rest) (.tup [])) := by
        have hle : i + (m + 1) ≤ q.length := by omega
        refine ⟨List.replicate (m + 1) (ruAV ⟨0, 0, 0, 0, ⟨0, 0⟩, 0⟩) ++ (q.map ruAV).drop (i + (m + 1)), ?_⟩
        rw [← hq1, List.map_take]
        simp [opClear, hmq, hj, cellsOK, cellOK, hle, ruAV]
      (try (first | (with_reducible refine dops_go ?_; simp [a0, a1, a6, a5, hj, hil, ecut, hcl]) | (with_reducible refine OKv_go ?_; simp [a0, a1, a6, a5, hj, hil, ecut, hcl]) | (with_reducible refine OKr_go ?_; simp [a0, a1, a6, a5, hj, hil, ecut, hcl]))); repeat' (first | refine awp_seq ?_ | refine awp_block ?_ | (refine awp_skip ?_; try simp) | (refine awp_exit ?_; try simp) | (refine awp_ret ?_; try simp) | (refine awp_reg ?_; simp [a0, a1, a6, a5, hj, hil, ecut, hcl]) | (refine awp_drawT (fun _ => false) mixed (by decide +kernel) ?_; simp [a0, a1, a6, a5, hj, hil, ecut, hcl]) | (refine guarded_split ?_ ?_ <;> (intro hg; simp only [hg]; simp [a0, a1, a6, a5, hj, hil, ecut, hcl])) | (apply awp_cond_t; focus (simp [a0, a1, a6, a5, hj, hil, ecut, hcl]; done)) | (apply awp_cond_f; focus (simp [a0, a1, a6, a5, hj, hil, ecut, hcl]; done)) | (refine awp_cond ?_; simp [a0, a1, a6, a5, hj, hil, ecut, hcl]; refine ⟨?_, ?_⟩ <;> intro hc))
      have ec0 : cutRs j 0 0 i = .rs j 0 ((l.filter fun r => !p r).map ruAV).length := by
        unfold cutRs; rw [if_pos (.inl rfl), List.length_map, hii]; simp
      exact retK_of (.inr rfl) (x := cutRs j 0 0 i) (by simp) (by
        rw [ec0]
        exact h _ _ (.inr ⟨j, rest, rfl, hj, set_hit hmq, hn⟩) (Ext.setF hE hn))
end Go.Proofs.Ytanimmdlgmkmkaa.Av

/- Networks: which rule a device goes by. -/
namespace Go.Proofs.Ytanimmdlgmkmkaa.Av
open Go
set_option linter.unusedSimpArgs false
set_option linter.unusedVariables false
set_option maxRecDepth 100000
set_option maxHeartbeats 2000000
set_option pp.maxSteps 300

theorem firstNot_calls {g : FuncId} {caps : List AV} {p : Ru → Bool} (r : Ru) (hg : PCalls Try.prog g (ruAV r :: caps) (.raw (.bool (p r)))) : PCalls Try.prog 149 [ruAV r, .pp [.fn (.func g) [] caps] 0] (.raw (.bool (!p r))) := by
  refine pbody Try.func149 rfl (N := 8) rfl rfl (by simp) (by simp [noIds]) fun σ => ?_
  (try (first | (with_reducible refine dops_go ?_; simp [ru_cells, ru_ok]) | (with_reducible refine OKv_go ?_; simp [ru_cells, ru_ok]) | (with_reducible refine OKr_go ?_; simp [ru_cells, ru_ok]))); repeat' (first | refine awp_seq ?_ | refine awp_block ?_ | (refine awp_skip ?_; try simp) | (refine awp_exit ?_; try simp) | (refine awp_ret ?_; try simp) | (refine retP_same (by simp) ?_; simp) | (refine retP_flat (by simp) (by simp) (by simp (maxDischargeDepth := 30) [ru_cells, ru_ok]) ?_; simp) | (refine awp_reg ?_; simp [ru_cells, ru_ok]) | (refine awp_drawT (fun _ => false) mixed (by decide +kernel) ?_; simp [ru_cells, ru_ok]) | (refine guarded_split ?_ ?_ <;> (intro hg; simp only [hg]; simp [ru_cells, ru_ok])) | (apply awp_cond_t; focus (simp [ru_cells, ru_ok]; done)) | (apply awp_cond_f; focus (simp [ru_cells, ru_ok]; done)) | (refine awp_cond ?_; simp [ru_cells, ru_ok]; refine ⟨?_, ?_⟩ <;> intro hc))
  rw [ru_fold]
  refine PCalls.use hg ?_
  (try (first | (with_reducible refine dops_go ?_; simp) | (with_reducible refine OKv_go ?_; simp) | (with_reducible refine OKr_go ?_; simp))); repeat' (first | refine awp_seq ?_ | refine awp_block ?_ | (refine awp_skip ?_; try simp) | (refine awp_exit ?_; try simp) | (refine awp_ret ?_; try simp) | (refine retP_same (by simp) ?_; simp) | (refine retP_flat (by simp) (by simp) (by simp (maxDischargeDepth := 30)) ?_; simp) | (refine awp_reg ?_; simp) | (refine awp_drawT (fun _ => false) mixed (by decide +kernel) ?_; simp) | (refine guarded_split ?_ ?_ <;> (intro hg; simp only [hg]; simp)) | (apply awp_cond_t; focus (simp; done)) | (apply awp_cond_f; focus (simp; done)) | (refine awp_cond ?_; simp; refine ⟨?_, ?_⟩ <;> intro hc))

theorem first_calls {g : FuncId} {caps : List AV} {p : Ru → Bool} (l : List Ru) (f : Bool) (hl : l.length < 2 ^ 40) (hg : ∀ r ∈ l, PCalls Try.prog g (ruAV r :: caps) (.raw (.bool (p r)))) :
    PCalls Try.prog 135 [rulesAV l f, .fn (.func g) [] caps] (.tup [ruAV (minR (l.filter p)), .raw (.bool (l.any p))]) := by
  refine pbody Try.func135 rfl (N := 16) rfl rfl (by simp) (by simp [noIds, ruAV]) fun σ => ?_
  repeat (refine awp_seq ?_)
  refine awp_reg ?_
  simp
  refine awp_freeze ⟨3, σ.nx 3, 1⟩ ?_
  generalize hτ : St.del _ _ = τ
  generalize hA : (fun t => giveUp _ _ _) = A
  have a0 : A 0 = rulesAV l f := by rw [← hA]; simp [rulesAV]
  have a3 : A 3 = .pp [.fn (.func g) [] caps] 0 := by rw [← hA, ← hτ]; simp [giveUp, St.new, St.del]
  have a4 : A 4 = .rp ⟨4, σ.nx 4, 7⟩ 0 0 := by rw [← hA, ← hτ]; simp [giveUp, St.new, St.del]
  have m4 : τ.m ⟨4, σ.nx 4, 7⟩ = some (.buf [ruAV ⟨0, 0, 0, 0, ⟨0, 0⟩, 0⟩]) := by rw [← hτ]; simp [St.new, St.del, ruAV]
  have hE : Ext σ τ := by
    rw [← hτ]
    refine ⟨fun i o h => ?_, fun s => ?_⟩
    · rw [del_other (fun e => by rw [e, fresh_none] at h; cases h)]
      exact new_up _ _ (new_up _ _ h)
    · exact Nat.le_trans (St.new_le σ 3 1 (.buf [.fn (.func g) [] caps]) s) (St.new_le (σ.new 3 1 (.buf [.fn (.func g) [] caps])) 4 7 (.buf [ruAV ⟨0, 0, 0, 0, ⟨0, 0⟩, 0⟩]) s)
  clear hτ hA
  have f4 : σ.m ⟨4, σ.nx 4, 7⟩ = none := fresh_none _ _ _
  (try (first | (with_reducible refine dops_go ?_; simp [a0, a3, a4, m4]) | (with_reducible refine OKv_go ?_; simp [a0, a3, a4, m4]) | (with_reducible refine OKr_go ?_; simp [a0, a3, a4, m4]))); repeat' (first | refine awp_seq ?_ | refine awp_block ?_ | (refine awp_skip ?_; try simp) | (refine awp_exit ?_; try simp) | (refine awp_ret ?_; try simp) | (refine retP_same (by simp) ?_; simp) | (refine retP_flat (by simp) (by simp) (by simp (maxDischargeDepth := 30) [a0, a3, a4, m4]) ?_; simp) | (refine awp_reg ?_; simp [a0, a3, a4, m4]) | (refine awp_drawT (fun _ => false) mixed (by decide +kernel) ?_; simp [a0, a3, a4, m4]) | (refine guarded_split ?_ ?_ <;> (intro hg; simp only [hg]; simp [a0, a3, a4, m4])) | (apply awp_cond_t; focus (simp [a0, a3, a4, m4]; done)) | (apply awp_cond_f; focus (simp [a0, a3, a4, m4]; done)) | (refine awp_cond ?_; simp [a0, a3, a4, m4]; refine ⟨?_, ?_⟩ <;> intro hc))
  refine ruClone_calls l f hl fun v τ1 hO hE1 => ?_
  (try (first | (with_reducible refine dops_go ?_; simp [a0, a3, a4]) | (with_reducible refine OKv_go ?_; simp [a0, a3, a4]) | (with_reducible refine OKr_go ?_; simp [a0, a3, a4]))); repeat' (first | refine awp_seq ?_ | refine awp_block ?_ | (refine awp_skip ?_; try simp) | (refine awp_exit ?_; try simp) | (refine awp_ret ?_; try simp) | (refine retP_same (by simp) ?_; simp) | (refine retP_flat (by simp) (by simp) (by simp (maxDischargeDepth := 30) [a0, a3, a4]) ?_; simp) | (refine awp_reg ?_; simp [a0, a3, a4]) | (refine awp_drawT (fun _ => false) mixed (by decide +kernel) ?_; simp [a0, a3, a4]) | (refine guarded_split ?_ ?_ <;> (intro hg; simp only [hg]; simp [a0, a3, a4])) | (apply awp_cond_t; focus (simp [a0, a3, a4]; done)) | (apply awp_cond_f; focus (simp [a0, a3, a4]; done)) | (refine awp_cond ?_; simp [a0, a3, a4]; refine ⟨?_, ?_⟩ <;> intro hc))
  refine delete_calls (σ0 := τ) l hO hE1 hl (fun r hr => firstNot_calls r (hg r hr)) fun v' τ2 hP hE2 => ?_
  have hfl : (l.filter fun r => !(!p r)) = l.filter p := by simp
  rw [hfl] at hP
  have m4' : τ2.m ⟨4, σ.nx 4, 7⟩ = some (.buf [ruAV ⟨0, 0, 0, 0, ⟨0, 0⟩, 0⟩]) := hE2.m _ _ m4
  have hE3 : Ext σ τ2 := hE.trans hE2
  cases ha : l.any p with
  | false =>
    have hnil : l.filter p = [] := by
      rw [List.filter_eq_nil_iff]
      intro r hr
      rw [List.any_eq_false] at ha
      exact ha r hr
    rw [hnil] at hP ⊢
    have hlen : ∃ z, (v' = .sl 0 [] true ∨ v' = .rs z 0 0) := by
      rcases hP with ⟨_, h⟩ | ⟨z, rest, h, _⟩
      · exact ⟨⟨0, 0, 0⟩, .inl h⟩
      · exact ⟨z, .inr h⟩
    have hz : setPart (ruAV ⟨0, 0, 0, 0, ⟨0, 0⟩, 0⟩) 0 [.raw (.int .i64 0), .raw (.int .i64 0), .raw (.int .i64 0), .raw (.int .i64 0), .raw (.int .u32 0), .raw (.int .u32 0), .raw (.int .i64 0)] = ruAV ⟨0, 0, 0, 0, ⟨0, 0⟩, 0⟩ := rfl
    obtain ⟨z, rfl | rfl⟩ := hlen
    · (try (first | (with_reducible refine dops_go ?_; simp [a0, a3, a4, m4']) | (with_reducible refine OKv_go ?_; simp [a0, a3, a4, m4']) | (with_reducible refine OKr_go ?_; simp [a0, a3, a4, m4']))); repeat' (first | refine awp_seq ?_ | refine awp_block ?_ | (refine awp_skip ?_; try simp) | (refine awp_exit ?_; try simp) | (refine awp_ret ?_; try simp) | (refine awp_reg ?_; simp [a0, a3, a4, m4']) | (refine awp_drawT (fun _ => false) mixed (by decide +kernel) ?_; simp [a0, a3, a4, m4']) | (refine guarded_split ?_ ?_ <;> (intro hg; simp only [hg]; simp [a0, a3, a4, m4'])) | (apply awp_cond_t; focus (simp [a0, a3, a4, m4']; done)) | (apply awp_cond_f; focus (simp [a0, a3, a4, m4']; done)) | (refine awp_cond ?_; simp [a0, a3, a4, m4']; refine ⟨?_, ?_⟩ <;> intro hc))
      exact retP_flat (.inr rfl) rfl (hE3.setF f4) (by simp [a4, m4', St.set, minR, hz, ru_cells]; rfl)
    · (try (first | (with_reducible refine dops_go ?_; simp [a0, a3, a4, m4']) | (with_reducible refine OKv_go ?_; simp [a0, a3, a4, m4']) | (with_reducible refine OKr_go ?_; simp [a0, a3, a4, m4']))); repeat' (first | refine awp_seq ?_ | refine awp_block ?_ | (refine awp_skip ?_; try simp) | (refine awp_exit ?_; try simp) | (refine awp_ret ?_; try simp) | (refine awp_reg ?_; simp [a0, a3, a4, m4']) | (refine awp_drawT (fun _ => false) mixed (by decide +kernel) ?_; simp [a0, a3, a4, m4']) | (refine guarded_split ?_ ?_ <;> (intro hg; simp only [hg]; simp [a0, a3, a4, m4'])) | (apply awp_cond_t; focus (simp [a0, a3, a4, m4']; done)) | (apply awp_cond_f; focus (simp [a0, a3, a4, m4']; done)) | (refine awp_cond ?_; simp [a0, a3, a4, m4']; refine ⟨?_, ?_⟩ <;> intro hc))
      exact retP_flat (.inr rfl) rfl (hE3.setF f4) (by simp [a4, m4', St.set, minR, hz, ru_cells]; rfl)
  | true =>
    have hne : l.filter p ≠ [] := by
      intro e
      rw [List.filter_eq_nil_iff] at e
      obtain ⟨r, hr, h⟩ := List.any_eq_true.1 ha
      exact e r hr h
    have hlf : (l.filter p).length ≤ l.length := List.length_filter_le _ _
    have hmin := minFunc_calls (l.filter p) hne false (by omega)
    have hpos : 0 < (l.filter p).length := List.length_pos_iff.2 hne
    have hP' := hP
    rcases hP with ⟨h, _⟩ | ⟨z, rest, rfl, hz7, hz, hzn⟩
    · exact absurd (by simpa using h) hne
    rw [List.length_map] at hP' ⊢
    have hl0 : ¬ ((l.filter p).length = 0) := by omega
    (try (first | (with_reducible refine dops_go ?_; simp [a0, a3, a4, m4', hl0]) | (with_reducible refine OKv_go ?_; simp [a0, a3, a4, m4', hl0]) | (with_reducible refine OKr_go ?_; simp [a0, a3, a4, m4', hl0]))); repeat' (first | refine awp_seq ?_ | refine awp_block ?_ | (refine awp_skip ?_; try simp) | (refine awp_exit ?_; try simp) | (refine awp_ret ?_; try simp) | (refine retP_same (by simp) ?_; simp) | (refine retP_flat (by simp) (by simp) (by simp (maxDischargeDepth := 30) [a0, a3, a4, m4', hl0]) ?_; simp) | (refine awp_reg ?_; simp [a0, a3, a4, m4', hl0]) | (refine awp_drawT (fun _ => false) mixed (by decide +kernel) ?_; simp [a0, a3, a4, m4', hl0]) | (refine guarded_split ?_ ?_ <;> (intro hg; simp only [hg]; simp [a0, a3, a4, m4', hl0])) | (apply awp_cond_t; focus (simp [a0, a3, a4, m4', hl0]; done)) | (apply awp_cond_f; focus (simp [a0, a3, a4, m4', hl0]; done)) | (refine awp_cond ?_; simp [a0, a3, a4, m4', hl0]; refine ⟨?_, ?_⟩ <;> intro hc))
    refine PCalls.useP hmin rfl hP' ?_
    (try (first | (with_reducible refine dops_go ?_; simp [a0, a3, a4, m4', ru_cells, ru_part]) | (with_reducible refine OKv_go ?_; simp [a0, a3, a4, m4', ru_cells, ru_part]) | (with_reducible refine OKr_go ?_; simp [a0, a3, a4, m4', ru_cells, ru_part]))); repeat' (first | refine awp_seq ?_ | refine awp_block ?_ | (refine awp_skip ?_; try simp) | (refine awp_exit ?_; try simp) | (refine awp_ret ?_; try simp) | (refine awp_reg ?_; simp [a0, a3, a4, m4', ru_cells, ru_part]) | (refine awp_drawT (fun _ => false) mixed (by decide +kernel) ?_; simp [a0, a3, a4, m4', ru_cells, ru_part]) | (refine guarded_split ?_ ?_ <;> (intro hg; simp only [hg]; simp [a0, a3, a4, m4', ru_cells, ru_part])) | (apply awp_cond_t; focus (simp [a0, a3, a4, m4', ru_cells, ru_part]; done)) | (apply awp_cond_f; focus (simp [a0, a3, a4, m4', ru_cells, ru_part]; done)) | (refine awp_cond ?_; simp [a0, a3, a4, m4', ru_cells, ru_part]; refine ⟨?_, ?_⟩ <;> intro hc))
    exact retP_flat (.inr rfl) rfl (hE3.setF f4) (by simp [a4, m4', St.set, ru_cells]; exact ru_fold _)

def aclP (d a : Int) (r : Ru) : Bool := decide (1 < r.kind) && takesB r d a
def fwdP (d a : Int) (r : Ru) : Bool := decide (r.kind ≤ 1) && takesB r d a
theorem aclP_calls (r : Ru) (d a : Int) : PCalls Try.prog 136 [ruAV r, .pp [.raw (.int .i64 d)] 0, .pp [.raw (.int .u32 a)] 0] (.raw (.bool (aclP d a r))) := by
  refine pbody Try.func136 rfl (N := 14) rfl rfl (by simp) (by simp [noIds]) fun σ => ?_
  obtain ⟨b, hb⟩ : ∃ b, decide (1 < r.kind) = b := ⟨_, rfl⟩
  unfold aclP
  rw [hb]
  (try (first | (with_reducible refine dops_go ?_; simp [ru_cells, ru_ok, hb, ru_fold]) | (with_reducible refine OKv_go ?_; simp [ru_cells, ru_ok, hb, ru_fold]) | (with_reducible refine OKr_go ?_; simp [ru_cells, ru_ok, hb, ru_fold]))); repeat' (first | refine awp_seq ?_ | refine awp_block ?_ | (refine awp_skip ?_; try simp) | (refine awp_exit ?_; try simp) | (refine awp_ret ?_; try simp) | (refine retP_same (by simp) ?_; simp) | (refine retP_flat (by simp) (by simp) (by simp (maxDischargeDepth := 30) [ru_cells, ru_ok, hb, ru_fold]) ?_; simp) | (refine awp_reg ?_; simp [ru_cells, ru_ok, hb, ru_fold]) | (refine awp_drawT (fun _ => false) mixed (by decide +kernel) ?_; simp [ru_cells, ru_ok, hb, ru_fold]) | (refine guarded_split ?_ ?_ <;> (intro hg; simp only [hg]; simp [ru_cells, ru_ok, hb, ru_fold])) | (apply awp_cond_t; focus (simp [ru_cells, ru_ok, hb, ru_fold]; done)) | (apply awp_cond_f; focus (simp [ru_cells, ru_ok, hb, ru_fold]; done)) | (refine awp_cond ?_; simp [ru_cells, ru_ok, hb, ru_fold]; refine ⟨?_, ?_⟩ <;> intro hc))
  refine PCalls.use (takes_calls r d a) ?_
  (try (first | (with_reducible refine dops_go ?_; simp) | (with_reducible refine OKv_go ?_; simp) | (with_reducible refine OKr_go ?_; simp))); repeat' (first | refine awp_seq ?_ | refine awp_block ?_ | (refine awp_skip ?_; try simp) | (refine awp_exit ?_; try simp) | (refine awp_ret ?_; try simp) | (refine retP_same (by simp) ?_; simp) | (refine retP_flat (by simp) (by simp) (by simp (maxDischargeDepth := 30)) ?_; simp) | (refine awp_reg ?_; simp) | (refine awp_drawT (fun _ => false) mixed (by decide +kernel) ?_; simp) | (refine guarded_split ?_ ?_ <;> (intro hg; simp only [hg]; simp)) | (apply awp_cond_t; focus (simp; done)) | (apply awp_cond_f; focus (simp; done)) | (refine awp_cond ?_; simp; refine ⟨?_, ?_⟩ <;> intro hc))
theorem fwdP_calls (r : Ru) (d a : Int) : PCalls Try.prog 138 [ruAV r, .pp [.raw (.int .i64 d)] 0, .pp [.raw (.int .u32 a)] 0] (.raw (.bool (fwdP d a r))) := by
  refine pbody Try.func138 rfl (N := 14) rfl rfl (by simp) (by simp [noIds]) fun σ => ?_
  obtain ⟨b, hb⟩ : ∃ b, decide (r.kind ≤ 1) = b := ⟨_, rfl⟩
  unfold fwdP
  rw [hb]
  (try (first | (with_reducible refine dops_go ?_; simp [ru_cells, ru_ok, hb, ru_fold]) | (with_reducible refine OKv_go ?_; simp [ru_cells, ru_ok, hb, ru_fold]) | (with_reducible refine OKr_go ?_; simp [ru_cells, ru_ok, hb, ru_fold]))); repeat' (first | refine awp_seq ?_ | refine awp_block ?_ | (refine awp_skip ?_; try simp) | (refine awp_exit ?_; try simp) | (refine awp_ret ?_; try simp) | (refine retP_same (by simp) ?_; simp) | (refine retP_flat (by simp) (by simp) (by simp (maxDischargeDepth := 30) [ru_cells, ru_ok, hb, ru_fold]) ?_; simp) | (refine awp_reg ?_; simp [ru_cells, ru_ok, hb, ru_fold]) | (refine awp_drawT (fun _ => false) mixed (by decide +kernel) ?_; simp [ru_cells, ru_ok, hb, ru_fold]) | (refine guarded_split ?_ ?_ <;> (intro hg; simp only [hg]; simp [ru_cells, ru_ok, hb, ru_fold])) | (apply awp_cond_t; focus (simp [ru_cells, ru_ok, hb, ru_fold]; done)) | (apply awp_cond_f; focus (simp [ru_cells, ru_ok, hb, ru_fold]; done)) | (refine awp_cond ?_; simp [ru_cells, ru_ok, hb, ru_fold]; refine ⟨?_, ?_⟩ <;> intro hc))
  refine PCalls.use (takes_calls r d a) ?_
  (try (first | (with_reducible refine dops_go ?_; simp) | (with_reducible refine OKv_go ?_; simp) | (with_reducible refine OKr_go ?_; simp))); repeat' (first | refine awp_seq ?_ | refine awp_block ?_ | (refine awp_skip ?_; try simp) | (refine awp_exit ?_; try simp) | (refine awp_ret ?_; try simp) | (refine retP_same (by simp) ?_; simp) | (refine retP_flat (by simp) (by simp) (by simp (maxDischargeDepth := 30)) ?_; simp) | (refine awp_reg ?_; simp) | (refine awp_drawT (fun _ => false) mixed (by decide +kernel) ?_; simp) | (refine guarded_split ?_ ?_ <;> (intro hg; simp only [hg]; simp)) | (apply awp_cond_t; focus (simp; done)) | (apply awp_cond_f; focus (simp; done)) | (refine awp_cond ?_; simp; refine ⟨?_, ?_⟩ <;> intro hc))
end Go.Proofs.Ytanimmdlgmkmkaa.Av

/- Networks: rules as the document goes by them. -/
namespace Go.Proofs.Ytanimmdlgmkmkaa.Av
open Go
set_option linter.unusedSimpArgs false
set_option linter.unusedVariables false
set_option maxRecDepth 100000
set_option maxHeartbeats 4000000
set_option pp.maxSteps 300

def refP (d a : Int) (acl : Bool) (r : Ru) : Bool := decide (r.dev = d) && (!decide (a < r.r.lo) && (!decide (r.r.hi < a) && ((decide (r.kind = 2) || decide (r.kind = 3)) == acl)))
def betterB (x m : Ru) : Bool := decide (m.prio < x.prio) || (decide (x.prio = m.prio) && decide (x.id < m.id))
theorem better_iff (x m : Ru) : aheadI x m < 0 ↔ betterB x m = true := by
  unfold aheadI cmpI betterB
  simp only [Bool.or_eq_true, Bool.and_eq_true, decide_eq_true_eq]
  repeat' split
  all_goals omega
theorem minR_snoc (z : List Ru) (x : Ru) : minR (z ++ [x]) = if z = [] then x else if betterB x (minR z) = true then x else minR z := by
  cases z with
  | nil => rfl
  | cons r l =>
    simp only [reduceCtorEq, if_false, List.cons_append, minR, List.foldl_append, List.foldl_cons, List.foldl_nil]
    by_cases h : aheadI x (l.foldl (fun m x => if aheadI x m < 0 then x else m) r) < 0
    · rw [if_pos h]; exact (if_pos ((better_iff _ _).1 h)).symm
    · rw [if_neg h]; exact (if_neg (fun q => h ((better_iff _ _).2 q))).symm

theorem pb1 : ∀ b1 b2 b3 b4 b5 acl : Bool, b4 = false → ¬ b5 = acl → (b1 && (!b2 && (!b3 && ((b4 || b5) == acl)))) = false := by decide
theorem pb2 : ∀ b1 b2 b3 b4 b5 acl : Bool, b4 = !false → acl = false → (b1 && (!b2 && (!b3 && ((b4 || b5) == acl)))) = false := by decide
theorem pb3 : ∀ b1 b2 b3 b4 b5 acl : Bool, b3 = !false → (b1 && (!b2 && (!b3 && ((b4 || b5) == acl)))) = false := by decide
theorem pb4 : ∀ b1 b2 b3 b4 b5 acl : Bool, b2 = !false → (b1 && (!b2 && (!b3 && ((b4 || b5) == acl)))) = false := by decide
theorem pb5 : ∀ b1 b2 b3 b4 b5 acl : Bool, (!b1) = !false → (b1 && (!b2 && (!b3 && ((b4 || b5) == acl)))) = false := by decide
theorem pb6 : ∀ b1 b2 b3 b4 b5 acl : Bool, b4 = false → (!b1) = false → b2 = false → b3 = false → b5 = acl → (b1 && (!b2 && (!b3 && ((b4 || b5) == acl)))) = true := by decide
theorem pb7 : ∀ b1 b2 b3 b4 b5 acl : Bool, b4 = !false → (!b1) = false → b2 = false → b3 = false → acl = true → (b1 && (!b2 && (!b3 && ((b4 || b5) == acl)))) = true := by decide
theorem pc1 : ∀ b6 b7 b8 : Bool, b6 = !false → (b6 || (b7 && b8)) = true := by decide
theorem pc2 : ∀ b6 b7 b8 : Bool, b7 = true → b8 = true → (b6 || (b7 && b8)) = true := by decide
theorem pc3 : ∀ b6 b7 b8 : Bool, b6 = false → b7 = !true → (b6 || (b7 && b8)) = false := by decide
theorem pc4 : ∀ b6 b7 b8 : Bool, b6 = false → b8 = false → (b6 || (b7 && b8)) = false := by decide

theorem refFirst_calls (l : List Ru) (f : Bool) (d a : Int) (acl : Bool) (hl : l.length < 2 ^ 40) :
    PCalls Try.prog 128 [rulesAV l f, .raw (.int .i64 d), .raw (.int .u32 a), .raw (.bool acl)] (.tup [ruAV (minR (l.filter (refP d a acl))), .raw (.bool (l.any (refP d a acl)))]) := by
  refine pbody Try.func128 rfl (N := 83) rfl rfl (by simp) (by simp [noIds, ruAV]) fun σ => ?_
  have hz : setPart (ruAV ⟨0, 0, 0, 0, ⟨0, 0⟩, 0⟩) 0 [.raw (.int .i64 0), .raw (.int .i64 0), .raw (.int .i64 0), .raw (.int .i64 0), .raw (.int .u32 0), .raw (.int .u32 0), .raw (.int .i64 0)] = ruAV ⟨0, 0, 0, 0, ⟨0, 0⟩, 0⟩ := rfl
  (try (first | (with_reducible refine dops_go ?_; simp [rulesAV]) | (with_reducible refine OKv_go ?_; simp [rulesAV]) | (with_reducible refine OKr_go ?_; simp [rulesAV]))); repeat' (first | refine awp_seq ?_ | refine awp_block ?_ | (refine awp_skip ?_; try simp) | (refine awp_exit ?_; try simp) | (refine awp_ret ?_; try simp) | (refine retP_same (by simp) ?_; simp) | (refine retP_flat (by simp) (by simp) (by simp (maxDischargeDepth := 30) [rulesAV]) ?_; simp) | (refine awp_reg ?_; simp [rulesAV]) | (refine awp_drawT (fun _ => false) mixed (by decide +kernel) ?_; simp [rulesAV]) | (refine guarded_split ?_ ?_ <;> (intro hg; simp only [hg]; simp [rulesAV])) | (apply awp_cond_t; focus (simp [rulesAV]; done)) | (apply awp_cond_f; focus (simp [rulesAV]; done)) | (refine awp_cond ?_; simp [rulesAV]; refine ⟨?_, ?_⟩ <;> intro hc))
  refine awp_loopH (fun n A τ => Ext σ τ ∧ A 0 = rulesAV l f ∧ A 1 = .raw (.int .i64 d) ∧ A 2 = .raw (.int .u32 a) ∧ A 3 = .raw (.bool acl) ∧ A 8 = .rp ⟨8, σ.nx 8, 7⟩ 0 0 ∧ A 10 = .rp ⟨10, σ.nx 10, 7⟩ 0 0 ∧
    τ.m ⟨8, σ.nx 8, 7⟩ = some (.buf [ruAV ⟨0, 0, 0, 0, ⟨0, 0⟩, 0⟩]) ∧ ∃ (i : Nat) (q : List Ru), q = (l.take i).filter (refP d a acl) ∧ τ.m ⟨10, σ.nx 10, 7⟩ = some (.buf [ruAV (minR q)]) ∧
      A 12 = .raw (.int .i64 i) ∧ A 11 = .raw (.bool (!q.isEmpty)) ∧ i ≤ l.length ∧ n = l.length - i) l.length ?_ ?_
  · refine ⟨by simp (maxDischargeDepth := 30), by simp [rulesAV], by simp, by simp, by simp, by simp, by simp [St.new], by simp [St.new, ruAV], 0, [], by simp, by simp [St.new, ruAV, minR], by simp, by simp, by omega, by omega⟩
  rintro n A τ ⟨hE, a0, a1, a2, a3, a8, a10, m8, i, q, hq, m10, a12, a11, hi, rfl⟩ I1 hI1
  have f8 : σ.m ⟨8, σ.nx 8, 7⟩ = none := fresh_none _ _ _
  have f10 : σ.m ⟨10, σ.nx 10, 7⟩ = none := fresh_none _ _ _
  by_cases hlt : i < l.length
  · have hx : l[i]? = some l[i] := List.getElem?_eq_getElem hlt
    have w1 : IntKind.i64.wrap ((i : Int) + 1) = ((i + 1 : Nat) : Int) := by rw [wrap64 (by omega) (by omega)]; omega
    have htk : (l.take (i + 1)).filter (refP d a acl) = q ++ if refP d a acl l[i] = true then [l[i]] else [] := by
      rw [List.take_add_one, hx, List.filter_append, hq]
      congr 1
      cases hb : refP d a acl l[i] <;> simp [hb]
    obtain ⟨m, hmm⟩ : ∃ m, minR q = m := ⟨_, rfl⟩
    rw [hmm] at m10
    obtain ⟨e', he⟩ : ∃ e', q.isEmpty = e' := ⟨_, rfl⟩
    rw [he] at a11
    have n8 : (⟨8, σ.nx 8, 7⟩ : Id) ≠ ⟨13, τ.nx 13, 7⟩ := by simp
    obtain ⟨b1, h1⟩ : ∃ b, decide (l[i].dev = d) = b := ⟨_, rfl⟩
    obtain ⟨b2, h2⟩ : ∃ b, decide (a < l[i].r.lo) = b := ⟨_, rfl⟩
    obtain ⟨b3, h3⟩ : ∃ b, decide (l[i].r.hi < a) = b := ⟨_, rfl⟩
    obtain ⟨b4, h4⟩ : ∃ b, decide (l[i].kind = 2) = b := ⟨_, rfl⟩
    obtain ⟨b5, h5⟩ : ∃ b, decide (l[i].kind = 3) = b := ⟨_, rfl⟩
    obtain ⟨b6, h6⟩ : ∃ b, decide (m.prio < l[i].prio) = b := ⟨_, rfl⟩
    obtain ⟨b7, h7⟩ : ∃ b, decide (l[i].prio = m.prio) = b := ⟨_, rfl⟩
    obtain ⟨b8, h8⟩ : ∃ b, decide (l[i].id < m.id) = b := ⟨_, rfl⟩
    have hp : refP d a acl l[i] = (b1 && (!b2 && (!b3 && ((b4 || b5) == acl)))) := by unfold refP; rw [h1, h2, h3, h4, h5]
    have hbt : betterB l[i] m = (b6 || (b7 && b8)) := by unfold betterB; rw [h6, h7, h8]
    have h1' : decide (¬ l[i].dev = d) = !b1 := by rw [← h1]; simp
    have fin : ∀ (q' : List Ru) (A' : Env) (τ' : St), Ext σ τ' → A' 0 = rulesAV l f → A' 1 = .raw (.int .i64 d) → A' 2 = .raw (.int .u32 a) → A' 3 = .raw (.bool acl) → A' 8 = .rp ⟨8, σ.nx 8, 7⟩ 0 0 → A' 10 = .rp ⟨10, σ.nx 10, 7⟩ 0 0 →
        τ'.m ⟨8, σ.nx 8, 7⟩ = some (.buf [ruAV ⟨0, 0, 0, 0, ⟨0, 0⟩, 0⟩]) → q' = (l.take (i + 1)).filter (refP d a acl) → τ'.m ⟨10, σ.nx 10, 7⟩ = some (.buf [ruAV (minR q')]) →
        A' 12 = .raw (.int .i64 ((i : Int) + 1)) → A' 11 = .raw (.bool (!q'.isEmpty)) → I1 A' τ' := fun q' A' τ' x1 x2 x3 x4 x5 x6 x7 x8 x9 x10 x11 x12 =>
      hI1 (l.length - (i + 1)) _ _ (by omega) ⟨x1, x2, x3, x4, x5, x6, x7, x8, i + 1, q', x9, x10, by simpa using x11, x12, by omega, rfl⟩
    (try (first | (with_reducible refine dops_go ?_; simp [rulesAV, a0, a1, a2, a3, a8, a10, a11, a12, hlt, hx, m8, m10, ru_cells, ru_ok, ru_fold, ru_part, w1, h1, h2, h3, h4, h5, h6, h7, h8, h1']) | (with_reducible refine OKv_go ?_; simp [rulesAV, a0, a1, a2, a3, a8, a10, a11, a12, hlt, hx, m8, m10, ru_cells, ru_ok, ru_fold, ru_part, w1, h1, h2, h3, h4, h5, h6, h7, h8, h1']) | (with_reducible refine OKr_go ?_; simp [rulesAV, a0, a1, a2, a3, a8, a10, a11, a12, hlt, hx, m8, m10, ru_cells, ru_ok, ru_fold, ru_part, w1, h1, h2, h3, h4, h5, h6, h7, h8, h1']))); repeat' (first | refine awp_seq ?_ | refine awp_block ?_ | (refine awp_skip ?_; try simp) | (refine awp_exit ?_; try simp) | (refine awp_ret ?_; try simp) | (refine retP_same (by simp) ?_; simp) | (refine retP_flat (by simp) (by simp) (by simp (maxDischargeDepth := 30) [rulesAV, a0, a1, a2, a3, a8, a10, a11, a12, hlt, hx, m8, m10, ru_cells, ru_ok, ru_fold, ru_part, w1, h1, h2, h3, h4, h5, h6, h7, h8, h1']) ?_; simp) | (refine awp_reg ?_; simp [rulesAV, a0, a1, a2, a3, a8, a10, a11, a12, hlt, hx, m8, m10, ru_cells, ru_ok, ru_fold, ru_part, w1, h1, h2, h3, h4, h5, h6, h7, h8, h1']) | (refine awp_drawT (fun _ => false) mixed (by decide +kernel) ?_; simp [rulesAV, a0, a1, a2, a3, a8, a10, a11, a12, hlt, hx, m8, m10, ru_cells, ru_ok, ru_fold, ru_part, w1, h1, h2, h3, h4, h5, h6, h7, h8, h1']) | (refine guarded_split ?_ ?_ <;> (intro hg; simp only [hg]; simp [rulesAV, a0, a1, a2, a3, a8, a10, a11, a12, hlt, hx, m8, m10, ru_cells, ru_ok, ru_fold, ru_part, w1, h1, h2, h3, h4, h5, h6, h7, h8, h1'])) | (apply awp_cond_t; focus (simp [rulesAV, a0, a1, a2, a3, a8, a10, a11, a12, hlt, hx, m8, m10, ru_cells, ru_ok, ru_fold, ru_part, w1, h1, h2, h3, h4, h5, h6, h7, h8, h1']; done)) | (apply awp_cond_f; focus (simp [rulesAV, a0, a1, a2, a3, a8, a10, a11, a12, hlt, hx, m8, m10, ru_cells, ru_ok, ru_fold, ru_part, w1, h1, h2, h3, h4, h5, h6, h7, h8, h1']; done)) | (refine awp_cond ?_; simp [rulesAV, a0, a1, a2, a3, a8, a10, a11, a12, hlt, hx, m8, m10, ru_cells, ru_ok, ru_fold, ru_part, w1, h1, h2, h3, h4, h5, h6, h7, h8, h1']; refine ⟨?_, ?_⟩ <;> intro hc))
    all_goals first
      | (have e : refP d a acl l[i] = false := by
           rw [hp]; first | exact pb1 _ _ _ _ _ _ ‹_› ‹_› | exact pb2 _ _ _ _ _ _ ‹_› ‹_› | exact pb3 _ _ _ _ _ _ ‹_› | exact pb4 _ _ _ _ _ _ ‹_› | exact pb5 _ _ _ _ _ _ ‹_›
         exact fin q _ _ (by simp [hE]) (by simp [a0]) (by simp [a1]) (by simp [a2]) (by simp [a3]) (by simp [a8]) (by simp [a10]) (by simp [St.new, m8]) (by rw [htk, e]; simp) (by simp [St.new, m10, hmm]) (by simp) (by simp [a11, he]))
      | (have e : refP d a acl l[i] = true := by
           rw [hp]; first | exact pb6 _ _ _ _ _ _ ‹_› ‹_› ‹_› ‹_› ‹_› | exact pb7 _ _ _ _ _ _ ‹_› ‹_› ‹_› ‹_› ‹_›
         first
         | (have hm' : minR (q ++ [l[i]]) = l[i] := by
              rw [minR_snoc, hmm]
              first
              | rw [if_pos (by rw [← List.isEmpty_iff, he]; assumption)]
              | (rw [if_pos (c := betterB l[i] m = true) (by rw [hbt]; first | exact pc1 _ _ _ ‹_› | exact pc2 _ _ _ ‹_› ‹_›)]; split <;> rfl)
            exact fin (q ++ [l[i]]) _ _ (Ext.setF (by simp [hE]) f10) (by simp [a0]) (by simp [a1]) (by simp [a2]) (by simp [a3]) (by simp [a8]) (by simp [a10]) (by simp [St.set, St.new, m8]) (by rw [htk, e]; simp) (by simp [St.set, St.new, m10, hm']) (by simp) (by simp))
         | (have e0 : e' = false := ‹_›
            have hq0 : q ≠ [] := fun h => by rw [← List.isEmpty_iff, he, e0] at h; cases h
            have hm' : minR (q ++ [l[i]]) = m := by
              rw [minR_snoc, hmm, if_neg hq0, if_neg]
              rw [hbt]; first | (rw [pc3 _ _ _ ‹_› ‹_›]; simp) | (rw [pc4 _ _ _ ‹_› ‹_›]; simp)
            exact fin (q ++ [l[i]]) _ _ (by simp [hE]) (by simp [a0]) (by simp [a1]) (by simp [a2]) (by simp [a3]) (by simp [a8]) (by simp [a10]) (by simp [St.new, m8]) (by rw [htk, e]; simp) (by simp [St.new, m10, hm']) (by simp) (by simp [a11, e0])))
  · have : i = l.length := by omega
    subst this
    rw [List.take_length] at hq
    subst hq
    have hem : (!(l.filter (refP d a acl)).isEmpty) = l.any (refP d a acl) := by
      rw [Bool.eq_iff_iff]; simp [List.isEmpty_iff, List.filter_eq_nil_iff]
    rw [hem] at a11
    (try (first | (with_reducible refine dops_go ?_; simp [rulesAV, a0, a8, a10, a11, a12, m8, m10, ru_cells, ru_ok, ru_fold, ru_part]) | (with_reducible refine OKv_go ?_; simp [rulesAV, a0, a8, a10, a11, a12, m8, m10, ru_cells, ru_ok, ru_fold, ru_part]) | (with_reducible refine OKr_go ?_; simp [rulesAV, a0, a8, a10, a11, a12, m8, m10, ru_cells, ru_ok, ru_fold, ru_part]))); repeat' (first | refine awp_seq ?_ | refine awp_block ?_ | (refine awp_skip ?_; try simp) | (refine awp_exit ?_; try simp) | (refine awp_ret ?_; try simp) | (refine awp_reg ?_; simp [rulesAV, a0, a8, a10, a11, a12, m8, m10, ru_cells, ru_ok, ru_fold, ru_part]) | (refine awp_drawT (fun _ => false) mixed (by decide +kernel) ?_; simp [rulesAV, a0, a8, a10, a11, a12, m8, m10, ru_cells, ru_ok, ru_fold, ru_part]) | (refine guarded_split ?_ ?_ <;> (intro hg; simp only [hg]; simp [rulesAV, a0, a8, a10, a11, a12, m8, m10, ru_cells, ru_ok, ru_fold, ru_part])) | (apply awp_cond_t; focus (simp [rulesAV, a0, a8, a10, a11, a12, m8, m10, ru_cells, ru_ok, ru_fold, ru_part]; done)) | (apply awp_cond_f; focus (simp [rulesAV, a0, a8, a10, a11, a12, m8, m10, ru_cells, ru_ok, ru_fold, ru_part]; done)) | (refine awp_cond ?_; simp [rulesAV, a0, a8, a10, a11, a12, m8, m10, ru_cells, ru_ok, ru_fold, ru_part]; refine ⟨?_, ?_⟩ <;> intro hc))
    exact retP_flat (.inr rfl) rfl (hE.setF f8) (by simp [a8, m8, St.set, ru_cells]; exact ru_fold _)
end Go.Proofs.Ytanimmdlgmkmkaa.Av

/- Networks: rules as the document goes by them, part 2; searching numbers. -/
namespace Go.Proofs.Ytanimmdlgmkmkaa.Av
open Go
set_option linter.unusedSimpArgs false
set_option linter.unusedVariables false
set_option maxRecDepth 100000
set_option maxHeartbeats 2000000
set_option pp.maxSteps 300

def refDeniesB (l : List Ru) (d a : Int) : Bool := l.any (refP d a true) && decide ((minR (l.filter (refP d a true))).kind = 3)
theorem refDenies_calls (l : List Ru) (f : Bool) (d a : Int) (hl : l.length < 2 ^ 40) : PCalls Try.prog 95 [rulesAV l f, .raw (.int .i64 d), .raw (.int .u32 a)] (.raw (.bool (refDeniesB l d a))) := by
  have hf := refFirst_calls l f d a true hl
  unfold refDeniesB
  obtain ⟨b, hb⟩ : ∃ b, l.any (refP d a true) = b := ⟨_, rfl⟩
  obtain ⟨m, hmm⟩ : ∃ m, minR (l.filter (refP d a true)) = m := ⟨_, rfl⟩
  rw [hb, hmm] at hf ⊢
  refine pbody Try.func95 rfl (N := 22) rfl rfl (by simp) (by simp [noIds]) fun σ => ?_
  (try (first | (with_reducible refine dops_go ?_; simp) | (with_reducible refine OKv_go ?_; simp) | (with_reducible refine OKr_go ?_; simp))); repeat' (first | refine awp_seq ?_ | refine awp_block ?_ | (refine awp_skip ?_; try simp) | (refine awp_exit ?_; try simp) | (refine awp_ret ?_; try simp) | (refine retP_same (by simp) ?_; simp) | (refine retP_flat (by simp) (by simp) (by simp (maxDischargeDepth := 30)) ?_; simp) | (refine awp_reg ?_; simp) | (refine awp_drawT (fun _ => false) mixed (by decide +kernel) ?_; simp) | (refine guarded_split ?_ ?_ <;> (intro hg; simp only [hg]; simp)) | (apply awp_cond_t; focus (simp; done)) | (apply awp_cond_f; focus (simp; done)) | (refine awp_cond ?_; simp; refine ⟨?_, ?_⟩ <;> intro hc))
  refine PCalls.use hf ?_
  (try (first | (with_reducible refine dops_go ?_; simp [ru_cells, ru_ok, ru_fold]) | (with_reducible refine OKv_go ?_; simp [ru_cells, ru_ok, ru_fold]) | (with_reducible refine OKr_go ?_; simp [ru_cells, ru_ok, ru_fold]))); repeat' (first | refine awp_seq ?_ | refine awp_block ?_ | (refine awp_skip ?_; try simp) | (refine awp_exit ?_; try simp) | (refine awp_ret ?_; try simp) | (refine retP_same (by simp) ?_; simp) | (refine retP_flat (by simp) (by simp) (by simp (maxDischargeDepth := 30) [ru_cells, ru_ok, ru_fold]) ?_; simp) | (refine awp_reg ?_; simp [ru_cells, ru_ok, ru_fold]) | (refine awp_drawT (fun _ => false) mixed (by decide +kernel) ?_; simp [ru_cells, ru_ok, ru_fold]) | (refine guarded_split ?_ ?_ <;> (intro hg; simp only [hg]; simp [ru_cells, ru_ok, ru_fold])) | (apply awp_cond_t; focus (simp [ru_cells, ru_ok, ru_fold]; done)) | (apply awp_cond_f; focus (simp [ru_cells, ru_ok, ru_fold]; done)) | (refine awp_cond ?_; simp [ru_cells, ru_ok, ru_fold]; refine ⟨?_, ?_⟩ <;> intro hc))
theorem refMatch_calls (l : List Ru) (f : Bool) (d a : Int) (hl : l.length < 2 ^ 40) : PCalls Try.prog 96 [rulesAV l f, .raw (.int .i64 d), .raw (.int .u32 a)] (.tup [ruAV (minR (l.filter (refP d a false))), .raw (.bool (l.any (refP d a false)))]) := by
  have hf := refFirst_calls l f d a false hl
  obtain ⟨b, hb⟩ : ∃ b, l.any (refP d a false) = b := ⟨_, rfl⟩
  obtain ⟨m, hmm⟩ : ∃ m, minR (l.filter (refP d a false)) = m := ⟨_, rfl⟩
  rw [hb, hmm] at hf ⊢
  refine pbody Try.func96 rfl (N := 14) rfl rfl (by simp) (by simp [noIds, ruAV]) fun σ => ?_
  have hps : ∀ (q : Ru) (m : Ru), setPart (ruAV q) 0 [.raw (.int .i64 m.id), .raw (.int .i64 m.dev), .raw (.int .i64 m.prio), .raw (.int .i64 m.kind), .raw (.int .u32 m.r.lo), .raw (.int .u32 m.r.hi), .raw (.int .i64 m.port)] = ruAV m := fun _ _ => rfl
  (try (first | (with_reducible refine dops_go ?_; simp) | (with_reducible refine OKv_go ?_; simp) | (with_reducible refine OKr_go ?_; simp))); repeat' (first | refine awp_seq ?_ | refine awp_block ?_ | (refine awp_skip ?_; try simp) | (refine awp_exit ?_; try simp) | (refine awp_ret ?_; try simp) | (refine retP_same (by simp) ?_; simp) | (refine retP_flat (by simp) (by simp) (by simp (maxDischargeDepth := 30)) ?_; simp) | (refine awp_reg ?_; simp) | (refine awp_drawT (fun _ => false) mixed (by decide +kernel) ?_; simp) | (refine guarded_split ?_ ?_ <;> (intro hg; simp only [hg]; simp)) | (apply awp_cond_t; focus (simp; done)) | (apply awp_cond_f; focus (simp; done)) | (refine awp_cond ?_; simp; refine ⟨?_, ?_⟩ <;> intro hc))
  refine PCalls.use hf ?_
  (try (first | (with_reducible refine dops_go ?_; simp [ru_cells, ru_ok, ru_fold, hps]) | (with_reducible refine OKv_go ?_; simp [ru_cells, ru_ok, ru_fold, hps]) | (with_reducible refine OKr_go ?_; simp [ru_cells, ru_ok, ru_fold, hps]))); repeat' (first | refine awp_seq ?_ | refine awp_block ?_ | (refine awp_skip ?_; try simp) | (refine awp_exit ?_; try simp) | (refine awp_ret ?_; try simp) | (refine awp_reg ?_; simp [ru_cells, ru_ok, ru_fold, hps]) | (refine awp_drawT (fun _ => false) mixed (by decide +kernel) ?_; simp [ru_cells, ru_ok, ru_fold, hps]) | (refine guarded_split ?_ ?_ <;> (intro hg; simp only [hg]; simp [ru_cells, ru_ok, ru_fold, hps])) | (apply awp_cond_t; focus (simp [ru_cells, ru_ok, ru_fold, hps]; done)) | (apply awp_cond_f; focus (simp [ru_cells, ru_ok, ru_fold, hps]; done)) | (refine awp_cond ?_; simp [ru_cells, ru_ok, ru_fold, hps]; refine ⟨?_, ?_⟩ <;> intro hc))
  refine retP_flat (.inr rfl) rfl (by repeat (first | exact Ext.refl _ | refine ext_new' ?_ | refine Ext.setF ?_ (by simp [St.set, fresh_none]))) ?_
  simp [St.set, St.new, ru_cells]
  exact ru_fold _

/-- On right rules the document's tables are the program's. -/
theorem refP_acl {r : Ru} (h : 0 ≤ r.kind ∧ r.kind ≤ 3) (d a : Int) : refP d a true r = aclP d a r := by
  unfold refP aclP takesB
  rw [Bool.eq_iff_iff]
  simp
  omega
theorem refP_fwd {r : Ru} (h : 0 ≤ r.kind ∧ r.kind ≤ 3) (d a : Int) : refP d a false r = fwdP d a r := by
  unfold refP fwdP takesB
  rw [Bool.eq_iff_iff]
  simp
  omega

theorem index_calls (z : List Int) (fz : Bool) (v : Int) (hl : z.length < 2 ^ 60) : PCalls Try.prog 72 [intsAV z fz, .raw (.int .i64 v)] (.raw (.int .i64 (idxOf (fun x => decide (v = x)) z))) := by
  refine pbody Try.func72 rfl (N := 19) rfl rfl (by simp) (by simp [noIds]) fun σ => ?_
  (try (first | (with_reducible refine dops_go ?_; simp [intsAV]) | (with_reducible refine OKv_go ?_; simp [intsAV]) | (with_reducible refine OKr_go ?_; simp [intsAV]))); repeat' (first | refine awp_seq ?_ | refine awp_block ?_ | (refine awp_skip ?_; try simp) | (refine awp_exit ?_; try simp) | (refine awp_ret ?_; try simp) | (refine retP_same (by simp) ?_; simp) | (refine retP_flat (by simp) (by simp) (by simp (maxDischargeDepth := 30) [intsAV]) ?_; simp) | (refine awp_reg ?_; simp [intsAV]) | (refine awp_drawT (fun _ => false) mixed (by decide +kernel) ?_; simp [intsAV]) | (refine guarded_split ?_ ?_ <;> (intro hg; simp only [hg]; simp [intsAV])) | (apply awp_cond_t; focus (simp [intsAV]; done)) | (apply awp_cond_f; focus (simp [intsAV]; done)) | (refine awp_cond ?_; simp [intsAV]; refine ⟨?_, ?_⟩ <;> intro hc))
  refine awp_loopH (fun n A τ => τ = σ ∧ A 0 = intsAV z fz ∧ A 1 = .raw (.int .i64 v) ∧ A 7 = .raw (.int .i64 z.length) ∧ ∃ i : Nat, A 8 = .raw (.int .i64 i) ∧ i ≤ z.length ∧ n = z.length - i ∧ ∀ j, j < i → ∀ y, z[j]? = some y → decide (v = y) = false) z.length ?_ ?_
  · exact ⟨rfl, by simp [intsAV], by simp, by simp, 0, by simp, by omega, by omega, fun j h => by omega⟩
  rintro n A τ ⟨rfl, a0, a1, a7, i, a8, hi, rfl, hn⟩ I1 hI1
  by_cases hlt : i < z.length
  · have hx : z[i]? = some z[i] := List.getElem?_eq_getElem hlt
    have w1 : IntKind.i64.wrap ((i : Int) + 1) = ((i + 1 : Nat) : Int) := by rw [wrap64 (by omega) (by omega)]; omega
    by_cases hp : v = z[i]
    · (try (first | (with_reducible refine dops_go ?_; simp [intsAV, iAV, a0, a1, a7, a8, hlt, hx, hp]) | (with_reducible refine OKv_go ?_; simp [intsAV, iAV, a0, a1, a7, a8, hlt, hx, hp]) | (with_reducible refine OKr_go ?_; simp [intsAV, iAV, a0, a1, a7, a8, hlt, hx, hp]))); repeat' (first | refine awp_seq ?_ | refine awp_block ?_ | (refine awp_skip ?_; try simp) | (refine awp_exit ?_; try simp) | (refine awp_ret ?_; try simp) | (refine retP_same (by simp) ?_; simp) | (refine retP_flat (by simp) (by simp) (by simp (maxDischargeDepth := 30) [intsAV, iAV, a0, a1, a7, a8, hlt, hx, hp]) ?_; simp) | (refine awp_reg ?_; simp [intsAV, iAV, a0, a1, a7, a8, hlt, hx, hp]) | (refine awp_drawT (fun _ => false) mixed (by decide +kernel) ?_; simp [intsAV, iAV, a0, a1, a7, a8, hlt, hx, hp]) | (refine guarded_split ?_ ?_ <;> (intro hg; simp only [hg]; simp [intsAV, iAV, a0, a1, a7, a8, hlt, hx, hp])) | (apply awp_cond_t; focus (simp [intsAV, iAV, a0, a1, a7, a8, hlt, hx, hp]; done)) | (apply awp_cond_f; focus (simp [intsAV, iAV, a0, a1, a7, a8, hlt, hx, hp]; done)) | (refine awp_cond ?_; simp [intsAV, iAV, a0, a1, a7, a8, hlt, hx, hp]; refine ⟨?_, ?_⟩ <;> intro hc))
      exact (idxOf_here hx (by simpa using hp) hn).symm
    · (try (first | (with_reducible refine dops_go ?_; simp [intsAV, iAV, a0, a1, a7, a8, hlt, hx, hp]) | (with_reducible refine OKv_go ?_; simp [intsAV, iAV, a0, a1, a7, a8, hlt, hx, hp]) | (with_reducible refine OKr_go ?_; simp [intsAV, iAV, a0, a1, a7, a8, hlt, hx, hp]))); repeat' (first | refine awp_seq ?_ | refine awp_block ?_ | (refine awp_skip ?_; try simp) | (refine awp_exit ?_; try simp) | (refine awp_ret ?_; try simp) | (refine retP_same (by simp) ?_; simp) | (refine retP_flat (by simp) (by simp) (by simp (maxDischargeDepth := 30) [intsAV, iAV, a0, a1, a7, a8, hlt, hx, hp]) ?_; simp) | (refine awp_reg ?_; simp [intsAV, iAV, a0, a1, a7, a8, hlt, hx, hp]) | (refine awp_drawT (fun _ => false) mixed (by decide +kernel) ?_; simp [intsAV, iAV, a0, a1, a7, a8, hlt, hx, hp]) | (refine guarded_split ?_ ?_ <;> (intro hg; simp only [hg]; simp [intsAV, iAV, a0, a1, a7, a8, hlt, hx, hp])) | (apply awp_cond_t; focus (simp [intsAV, iAV, a0, a1, a7, a8, hlt, hx, hp]; done)) | (apply awp_cond_f; focus (simp [intsAV, iAV, a0, a1, a7, a8, hlt, hx, hp]; done)) | (refine awp_cond ?_; simp [intsAV, iAV, a0, a1, a7, a8, hlt, hx, hp]; refine ⟨?_, ?_⟩ <;> intro hc))
      refine hI1 (z.length - (i + 1)) _ _ (by omega) ⟨rfl, by simp [a0, intsAV], by simp [a1], by simp [a7], i + 1, by simp [w1], by omega, rfl, fun j hj y hy => ?_⟩
      by_cases e : j = i
      · subst e; rw [hx] at hy; injection hy with hy; subst hy; simpa using hp
      · exact hn j (by omega) y hy
  · have hi' : i = z.length := by omega
    subst hi'
    have w1 : IntKind.i64.wrap (-1) = -1 := wrap64 (by omega) (by omega)
    (try (first | (with_reducible refine dops_go ?_; simp [intsAV, a0, a1, a7, a8, w1]) | (with_reducible refine OKv_go ?_; simp [intsAV, a0, a1, a7, a8, w1]) | (with_reducible refine OKr_go ?_; simp [intsAV, a0, a1, a7, a8, w1]))); repeat' (first | refine awp_seq ?_ | refine awp_block ?_ | (refine awp_skip ?_; try simp) | (refine awp_exit ?_; try simp) | (refine awp_ret ?_; try simp) | (refine retP_same (by simp) ?_; simp) | (refine retP_flat (by simp) (by simp) (by simp (maxDischargeDepth := 30) [intsAV, a0, a1, a7, a8, w1]) ?_; simp) | (refine awp_reg ?_; simp [intsAV, a0, a1, a7, a8, w1]) | (refine awp_drawT (fun _ => false) mixed (by decide +kernel) ?_; simp [intsAV, a0, a1, a7, a8, w1]) | (refine guarded_split ?_ ?_ <;> (intro hg; simp only [hg]; simp [intsAV, a0, a1, a7, a8, w1])) | (apply awp_cond_t; focus (simp [intsAV, a0, a1, a7, a8, w1]; done)) | (apply awp_cond_f; focus (simp [intsAV, a0, a1, a7, a8, w1]; done)) | (refine awp_cond ?_; simp [intsAV, a0, a1, a7, a8, w1]; refine ⟨?_, ?_⟩ <;> intro hc))
    exact (idxOf_none hn).1.symm
theorem contains_calls (z : List Int) (fz : Bool) (v : Int) (hl : z.length < 2 ^ 60) : PCalls Try.prog 42 [intsAV z fz, .raw (.int .i64 v)] (.raw (.bool (z.any fun x => decide (v = x)))) := by
  refine pbody Try.func42 rfl (N := 9) rfl rfl (by simp) (by simp [noIds]) fun σ => ?_
  (try (first | (with_reducible refine dops_go ?_; simp) | (with_reducible refine OKv_go ?_; simp) | (with_reducible refine OKr_go ?_; simp))); repeat' (first | refine awp_seq ?_ | refine awp_block ?_ | (refine awp_skip ?_; try simp) | (refine awp_exit ?_; try simp) | (refine awp_ret ?_; try simp) | (refine retP_same (by simp) ?_; simp) | (refine retP_flat (by simp) (by simp) (by simp (maxDischargeDepth := 30)) ?_; simp) | (refine awp_reg ?_; simp) | (refine awp_drawT (fun _ => false) mixed (by decide +kernel) ?_; simp) | (refine guarded_split ?_ ?_ <;> (intro hg; simp only [hg]; simp)) | (apply awp_cond_t; focus (simp; done)) | (apply awp_cond_f; focus (simp; done)) | (refine awp_cond ?_; simp; refine ⟨?_, ?_⟩ <;> intro hc))
  refine PCalls.use (index_calls z fz v hl) ?_
  have := idxOf_any (fun x => decide (v = x)) z
  (try (first | (with_reducible refine dops_go ?_; simp) | (with_reducible refine OKv_go ?_; simp) | (with_reducible refine OKr_go ?_; simp))); repeat' (first | refine awp_seq ?_ | refine awp_block ?_ | (refine awp_skip ?_; try simp) | (refine awp_exit ?_; try simp) | (refine awp_ret ?_; try simp) | (refine retP_same (by simp) ?_; simp) | (refine retP_flat (by simp) (by simp) (by simp (maxDischargeDepth := 30)) ?_; simp) | (refine awp_reg ?_; simp) | (refine awp_drawT (fun _ => false) mixed (by decide +kernel) ?_; simp) | (refine guarded_split ?_ ?_ <;> (intro hg; simp only [hg]; simp)) | (apply awp_cond_t; focus (simp; done)) | (apply awp_cond_f; focus (simp; done)) | (refine awp_cond ?_; simp; refine ⟨?_, ?_⟩ <;> intro hc))
  simpa using this
end Go.Proofs.Ytanimmdlgmkmkaa.Av

/- Trees, the plain law: what is held behind each change. -/
namespace Go.Proofs.Ytanimmdlgmkmkaa.Av

inductive Tr where
  | nil
  | node (l : Tr) (k v : Int) (r : Tr)
namespace Tr
def ht : Tr → Int
  | nil => 0
  | node l _ _ r => 1 + max l.ht r.ht
def sz : Tr → Int
  | nil => 0
  | node l _ _ r => 1 + l.sz + r.sz
def toL : Tr → List (Int × Int)
  | nil => []
  | node l k v r => l.toL ++ (k, v) :: r.toL
theorem ht_nn : ∀ t : Tr, 0 ≤ t.ht
  | nil => by simp [ht]
  | node l k v r => by have := ht_nn l; have := ht_nn r; simp only [ht]; omega
theorem sz_nn : ∀ t : Tr, 0 ≤ t.sz
  | nil => by simp [sz]
  | node l k v r => by have := sz_nn l; have := sz_nn r; simp only [sz]; omega
theorem ht_le : ∀ t : Tr, t.ht ≤ t.sz
  | nil => by simp [ht, sz]
  | node l k v r => by have := ht_le l; have := ht_le r; have := sz_nn l; have := sz_nn r; simp only [ht, sz]; omega
theorem sz_toL : ∀ t : Tr, t.sz = t.toL.length
  | nil => by simp [sz, toL]
  | node l k v r => by have := sz_toL l; have := sz_toL r; simp only [sz, toL, List.length_append, List.length_cons]; omega

def left : Tr → Tr
  | nil => nil
  | node l _ _ _ => l
def right : Tr → Tr
  | nil => nil
  | node _ _ _ r => r
/-- A node of three parts, turned if one is too high. -/
def even (l : Tr) (k v : Int) (r : Tr) : Tr :=
  if r.ht + 1 < l.ht then
    match l with
    | nil => nil
    | node ll lk lv lr => if lr.ht ≤ ll.ht then node ll lk lv (node lr k v r) else match lr with
      | nil => nil
      | node a mk mv b => node (node ll lk lv a) mk mv (node b k v r)
  else if l.ht + 1 < r.ht then
    match r with
    | nil => nil
    | node rl rk rv rr => if rl.ht ≤ rr.ht then node (node l k v rl) rk rv rr else match rl with
      | nil => nil
      | node a mk mv b => node (node l k v a) mk mv (node b rk rv rr)
  else node l k v r
theorem even_toL (l : Tr) (k v : Int) (r : Tr) : (even l k v r).toL = l.toL ++ (k, v) :: r.toL := by
  unfold even
  split
  · rename_i h
    cases l with
    | nil => have := ht_nn r; simp only [ht] at h; omega
    | node ll lk lv lr =>
      simp only []
      split
      · simp [toL]
      · rename_i h2
        cases lr with
        | nil => have := ht_nn ll; simp only [ht] at h2; omega
        | node a mk mv b => simp [toL]
  · split
    · rename_i h
      cases r with
      | nil => have := ht_nn l; simp only [ht] at h; omega
      | node rl rk rv rr =>
        simp only []
        split
        · simp [toL]
        · rename_i h2
          cases rl with
          | nil => have := ht_nn rr; simp only [ht] at h2; omega
          | node a mk mv b => simp [toL]
    · simp [toL]
theorem even_sz (l : Tr) (k v : Int) (r : Tr) : (even l k v r).sz = 1 + l.sz + r.sz := by
  rw [sz_toL, even_toL, sz_toL l, sz_toL r]
  simp only [List.length_append, List.length_cons]
  omega
/-- A node with a pair. -/
def with_ : Tr → Int → Int → Tr
  | nil, k, v => node nil k v nil
  | node l k' v' r, k, v => if k < k' then even (l.with_ k v) k' v' r else if k' < k then even l k' v' (r.with_ k v) else node l k v r
/-- The value at a key. -/
def get : Tr → Int → Option Int
  | nil, _ => none
  | node l k' v' r, k => if k < k' then l.get k else if k' < k then r.get k else some v'
/-- The least pair, and what is left. -/
def least : Tr → (Int × Int) × Tr
  | nil => ((0, 0), nil)
  | node nil k v r => ((k, v), r)
  | node (node a b c d) k v r => ((node a b c d).least.1, even (node a b c d).least.2 k v r)
def without : Tr → Int → Tr
  | nil, _ => nil
  | node l k' v' r, k => if k < k' then even (l.without k) k' v' r else if k' < k then even l k' v' (r.without k) else match r with
    | nil => l
    | node a b c d => even l (node a b c d).least.1.1 (node a b c d).least.1.2 (node a b c d).least.2
/-- How many keys are below one. -/
def under : Tr → Int → Int
  | nil, _ => 0
  | node l k' _ r, k => if k' < k then 1 + l.sz + r.under k else l.under k
/-- The i-th pair. -/
def at_ : Tr → Int → Option (Int × Int)
  | nil, _ => none
  | node l k v r, i => if i < l.sz then l.at_ i else if l.sz < i then r.at_ (i - (1 + l.sz)) else some (k, v)
def join (l : Tr) (k v : Int) (r : Tr) : Tr :=
  if r.ht + 1 < l.ht then
    match l with
    | nil => nil
    | node ll lk lv lr => even ll lk lv (join lr k v r)
  else if l.ht + 1 < r.ht then
    match r with
    | nil => nil
    | node rl rk rv rr => even (join l k v rl) rk rv rr
  else node l k v r
termination_by SizeOf.sizeOf l + SizeOf.sizeOf r
def cut : Tr → Int → Tr × Tr
  | nil, _ => (nil, nil)
  | node l k v r, b => if k < b then (join l k v (r.cut b).1, (r.cut b).2) else ((l.cut b).1, join (l.cut b).2 k v r)
theorem join_toL (l : Tr) (k v : Int) (r : Tr) : (join l k v r).toL = l.toL ++ (k, v) :: r.toL := by
  fun_induction join l k v r with
  | case1 r h => have := ht_nn r; simp only [ht] at h; omega
  | case2 r ll lk lv lr h ih => rw [even_toL, ih]; simp [toL]
  | case3 l h1 h => have := ht_nn l; simp only [ht] at h; omega
  | case4 l rl rk rv rr h1 h ih => rw [even_toL, ih]; simp [toL]
  | case5 l r h1 h2 => simp [toL]

/-! ### Sorted -/
def Srt (l : List (Int × Int)) : Prop := l.Pairwise fun a b => a.1 < b.1
def Lt (b : Int) (l : List (Int × Int)) : Prop := ∀ e ∈ l, e.1 < b
def Gt (b : Int) (l : List (Int × Int)) : Prop := ∀ e ∈ l, b < e.1
theorem srt_node {l : Tr} {k v : Int} {r : Tr} : Srt (node l k v r).toL ↔ Srt l.toL ∧ Srt r.toL ∧ Lt k l.toL ∧ Gt k r.toL := by
  simp only [Srt, toL, Lt, Gt]
  rw [List.pairwise_append, List.pairwise_cons]
  constructor
  · rintro ⟨h1, ⟨h2, h3⟩, h4⟩
    exact ⟨h1, h3, fun e he => h4 e he (k, v) (by simp), fun e he => h2 e he⟩
  · rintro ⟨h1, h2, h3, h4⟩
    refine ⟨h1, ⟨fun e he => h4 e he, h2⟩, fun a ha b hb => ?_⟩
    rcases List.mem_cons.1 hb with rfl | hb
    · exact h3 a ha
    · have := h3 a ha; have := h4 b hb; omega

/-- A sorted list with a value at a key. -/
def put (l : List (Int × Int)) (k v : Int) : List (Int × Int) := l.filter (fun e => decide (e.1 < k)) ++ (k, v) :: l.filter (fun e => decide (k < e.1))
theorem filter_all {p : Int × Int → Bool} {l : List (Int × Int)} (h : ∀ e ∈ l, p e = true) : l.filter p = l := List.filter_eq_self.2 h
theorem filter_no {p : Int × Int → Bool} {l : List (Int × Int)} (h : ∀ e ∈ l, p e = false) : l.filter p = [] := List.filter_eq_nil_iff.2 fun e he => by simp [h e he]
theorem with_toL : ∀ (t : Tr) (k v : Int), Srt t.toL → (t.with_ k v).toL = put t.toL k v
  | nil, k, v, _ => by simp [with_, toL, put]
  | node l k' v' r, k, v, h => by
    obtain ⟨h1, h2, h3, h4⟩ := srt_node.1 h
    simp only [with_]
    split
    · rename_i hk
      rw [even_toL, with_toL l k v h1]
      simp only [put, toL, List.filter_append, List.filter_cons]
      have e1 : r.toL.filter (fun e => decide (e.1 < k)) = [] := filter_no fun e he => by have := h4 e he; simp; omega
      have e2 : r.toL.filter (fun e => decide (k < e.1)) = r.toL := filter_all fun e he => by have := h4 e he; simp; omega
      have e3 : ¬ k' < k := by omega
      simp [e1, e2, hk, e3]
    · split
      · rename_i hk0 hk
        rw [even_toL, with_toL r k v h2]
        simp only [put, toL, List.filter_append, List.filter_cons]
        have e1 : l.toL.filter (fun e => decide (k < e.1)) = [] := filter_no fun e he => by have := h3 e he; simp; omega
        have e2 : l.toL.filter (fun e => decide (e.1 < k)) = l.toL := filter_all fun e he => by have := h3 e he; simp; omega
        simp [e1, e2, hk, hk0]
      · have : k = k' := by omega
        subst this
        simp only [put, toL, List.filter_append, List.filter_cons]
        have e1 : l.toL.filter (fun e => decide (k < e.1)) = [] := filter_no fun e he => by have := h3 e he; simp; omega
        have e2 : l.toL.filter (fun e => decide (e.1 < k)) = l.toL := filter_all fun e he => by have := h3 e he; simp; omega
        have e3 : r.toL.filter (fun e => decide (e.1 < k)) = [] := filter_no fun e he => by have := h4 e he; simp; omega
        have e4 : r.toL.filter (fun e => decide (k < e.1)) = r.toL := filter_all fun e he => by have := h4 e he; simp; omega
        simp [e1, e2, e3, e4]
theorem put_srt {l : List (Int × Int)} (h : Srt l) (k v : Int) : Srt (put l k v) := by
  unfold Srt put
  rw [List.pairwise_append, List.pairwise_cons]
  refine ⟨h.filter _, ⟨fun e he => by simpa using (List.mem_filter.1 he).2, h.filter _⟩, fun a ha b hb => ?_⟩
  have h1 := (List.mem_filter.1 ha).2
  simp only [decide_eq_true_eq] at h1
  rcases List.mem_cons.1 hb with rfl | hb
  · exact h1
  · have h2 := (List.mem_filter.1 hb).2
    simp only [decide_eq_true_eq] at h2
    omega
theorem put_mem {l : List (Int × Int)} {k v : Int} {x : Int} : x ∈ (put l k v).map (·.1) ↔ x = k ∨ x ∈ l.map (·.1) := by
  simp only [put, List.map_append, List.map_cons, List.mem_append, List.mem_cons, List.mem_map, List.mem_filter, decide_eq_true_eq]
  constructor
  · rintro (⟨e, ⟨h1, h2⟩, rfl⟩ | rfl | ⟨e, ⟨h1, h2⟩, rfl⟩)
    · exact .inr ⟨e, h1, rfl⟩
    · exact .inl rfl
    · exact .inr ⟨e, h1, rfl⟩
  · rintro (rfl | ⟨e, h1, rfl⟩)
    · exact .inr (.inl rfl)
    · by_cases h : e.1 < k
      · exact .inl ⟨e, ⟨h1, h⟩, rfl⟩
      · by_cases h2 : k < e.1
        · exact .inr (.inr ⟨e, ⟨h1, h2⟩, rfl⟩)
        · exact .inr (.inl (by omega))
theorem get_eq : ∀ (t : Tr) (k : Int), Srt t.toL → t.get k = (t.toL.find? fun e => decide (e.1 = k)).map (·.2)
  | nil, k, _ => by simp [get, toL]
  | node l k' v' r, k, h => by
    obtain ⟨h1, h2, h3, h4⟩ := srt_node.1 h
    simp only [get, toL, List.find?_append, List.find?_cons]
    split
    · rename_i hk
      have e1 : r.toL.find? (fun e => decide (e.1 = k)) = none := List.find?_eq_none.2 fun e he => by have := h4 e he; simp; omega
      have e2 : decide (k' = k) = false := by simp; omega
      rw [get_eq l k h1, e1, e2]; simp
    · split
      · rename_i hk0 hk
        have e1 : l.toL.find? (fun e => decide (e.1 = k)) = none := List.find?_eq_none.2 fun e he => by have := h3 e he; simp; omega
        have e2 : decide (k' = k) = false := by simp; omega
        rw [get_eq r k h2, e1, e2]; simp
      · have : k' = k := by omega
        subst this
        have e1 : l.toL.find? (fun e => decide (e.1 = k')) = none := List.find?_eq_none.2 fun e he => by have := h3 e he; simp; omega
        rw [e1]; simp
theorem get_none {t : Tr} (h : Srt t.toL) (k : Int) : t.get k = none ↔ k ∉ t.toL.map (·.1) := by
  rw [get_eq t k h]
  simp only [Option.map_eq_none_iff, List.find?_eq_none, decide_eq_true_eq, List.mem_map, not_exists, not_and]
theorem get_with {t : Tr} (h : Srt t.toL) (k v k2 : Int) : (t.with_ k v).get k2 = if k2 = k then some v else t.get k2 := by
  have hs : Srt (t.with_ k v).toL := by rw [with_toL t k v h]; exact put_srt h k v
  rw [get_eq _ _ hs, with_toL t k v h, get_eq _ _ h]
  simp only [put, List.find?_append, List.find?_cons]
  by_cases e : k2 = k
  · subst e
    have e1 : (t.toL.filter fun e => decide (e.1 < k2)).find? (fun e => decide (e.1 = k2)) = none := List.find?_eq_none.2 fun e he => by have := (List.mem_filter.1 he).2; simp at this ⊢; omega
    rw [e1]; simp
  · rw [if_neg e]
    have e2 : decide (k = k2) = false := by simp; omega
    rw [e2]
    simp only [Bool.false_eq_true, if_false, List.find?_filter]
    congr 1
    have : ∀ l : List (Int × Int), Srt l → (l.find? fun a => decide (a.1 < k) && decide (a.1 = k2)).or (l.find? fun a => decide (k < a.1) && decide (a.1 = k2)) = l.find? fun a => decide (a.1 = k2) := by
      intro l hl
      induction l with
      | nil => rfl
      | cons a l ih =>
        have hl' := List.pairwise_cons.1 hl
        simp only [List.find?_cons]
        by_cases q : a.1 = k2
        · by_cases q2 : a.1 < k
          · simp [q, q2]; rw [q] at q2; simp [q2]
          · have q3 : k < a.1 := by omega
            have q4 : l.find? (fun a => decide (a.1 < k) && decide (a.1 = k2)) = none := List.find?_eq_none.2 fun e he => by have := hl'.1 e he; simp; omega
            rw [q4]
            simp [q, q2]
            rw [q] at q2 q3; simp [q2, q3]
        · simp [q]; exact ih hl'.2
    simp only [Bool.decide_and, Bool.decide_eq_true]
    exact this _ h
theorem under_eq : ∀ (t : Tr) (k : Int), Srt t.toL → t.under k = (t.toL.countP fun e => decide (e.1 < k) : Nat)
  | nil, k, _ => by simp [under, toL]
  | node l k' v' r, k, h => by
    obtain ⟨h1, h2, h3, h4⟩ := srt_node.1 h
    simp only [under, toL, List.countP_append, List.countP_cons]
    split
    · rename_i hk
      rw [under_eq r k h2, sz_toL l]
      have e1 : l.toL.countP (fun e => decide (e.1 < k)) = l.toL.length := List.countP_eq_length.2 fun e he => by have := h3 e he; simp; omega
      rw [e1]; simp [hk]; omega
    · rename_i hk
      rw [under_eq l k h1]
      have e1 : r.toL.countP (fun e => decide (e.1 < k)) = 0 := List.countP_eq_zero.2 fun e he => by have := h4 e he; simp; omega
      rw [e1]; simp [hk]
theorem at_eq : ∀ (t : Tr) (i : Int), 0 ≤ i → t.at_ i = t.toL[i.toNat]?
  | nil, i, _ => by simp [at_, toL]
  | node l k v r, i, hi => by
    simp only [at_, toL]
    have hz := sz_toL l
    split
    · rename_i h
      rw [at_eq l i hi, List.getElem?_append_left (by omega)]
    · split
      · rename_i h0 h
        rw [at_eq r _ (by omega), List.getElem?_append_right (by omega)]
        have : i.toNat - l.toL.length = (i - (1 + l.sz)).toNat + 1 := by omega
        rw [this, List.getElem?_cons_succ]
      · have : i.toNat = l.toL.length := by omega
        rw [this, List.getElem?_append_right (by omega)]
        simp
theorem cut_toL : ∀ (t : Tr) (b : Int), Srt t.toL → (t.cut b).1.toL = t.toL.filter (fun e => decide (e.1 < b)) ∧ (t.cut b).2.toL = t.toL.filter (fun e => decide (b ≤ e.1))
  | nil, b, _ => by simp [cut, toL]
  | node l k v r, b, h => by
    obtain ⟨h1, h2, h3, h4⟩ := srt_node.1 h
    simp only [cut, toL, List.filter_append, List.filter_cons]
    split
    · rename_i hk
      obtain ⟨i1, i2⟩ := cut_toL r b h2
      simp only [join_toL, i1, i2]
      have e1 : l.toL.filter (fun e => decide (e.1 < b)) = l.toL := filter_all fun e he => by have := h3 e he; simp; omega
      have e2 : l.toL.filter (fun e => decide (b ≤ e.1)) = [] := filter_no fun e he => by have := h3 e he; simp; omega
      have e3 : ¬ b ≤ k := by omega
      simp [e1, e2, e3, hk]
    · rename_i hk
      obtain ⟨i1, i2⟩ := cut_toL l b h1
      simp only [join_toL, i1, i2]
      have e1 : r.toL.filter (fun e => decide (b ≤ e.1)) = r.toL := filter_all fun e he => by have := h4 e he; simp; omega
      have e2 : r.toL.filter (fun e => decide (e.1 < b)) = [] := filter_no fun e he => by have := h4 e he; simp; omega
      have e3 : b ≤ k := by omega
      simp [e1, e2, e3, hk]
theorem cut_len (t : Tr) (b : Int) (h : Srt t.toL) : (t.cut b).1.sz = (t.toL.countP fun e => decide (e.1 < b) : Nat) := by
  rw [sz_toL, (cut_toL t b h).1, List.countP_eq_length_filter]
theorem least_toL : ∀ (t : Tr), t ≠ nil → t.toL = t.least.1 :: t.least.2.toL
  | nil, h => absurd rfl h
  | node nil k v r, _ => by simp [least, toL]
  | node (node a b c d) k v r, _ => by
    have := least_toL (node a b c d) (by simp)
    simp only [least, even_toL]
    rw [toL, this]; simp
theorem without_toL : ∀ (t : Tr) (k : Int), Srt t.toL → (t.without k).toL = t.toL.filter fun e => !decide (e.1 = k)
  | nil, k, _ => by simp [without, toL]
  | node l k' v' r, k, h => by
    obtain ⟨h1, h2, h3, h4⟩ := srt_node.1 h
    simp only [without]
    split
    · rename_i hk
      rw [even_toL, without_toL l k h1]
      simp only [toL, List.filter_append, List.filter_cons]
      have e1 : r.toL.filter (fun e => !decide (e.1 = k)) = r.toL := filter_all fun e he => by have := h4 e he; simp; omega
      have e2 : ¬ k' = k := by omega
      simp [e1, e2]
    · split
      · rename_i hk0 hk
        rw [even_toL, without_toL r k h2]
        simp only [toL, List.filter_append, List.filter_cons]
        have e1 : l.toL.filter (fun e => !decide (e.1 = k)) = l.toL := filter_all fun e he => by have := h3 e he; simp; omega
        have e2 : ¬ k' = k := by omega
        simp [e1, e2]
      · have : k' = k := by omega
        subst this
        have e1 : l.toL.filter (fun e => !decide (e.1 = k')) = l.toL := filter_all fun e he => by have := h3 e he; simp; omega
        have e2 : r.toL.filter (fun e => !decide (e.1 = k')) = r.toL := filter_all fun e he => by have := h4 e he; simp; omega
        cases r with
        | nil =>
          simp only [toL, List.filter_append, List.filter_cons]
          simp [e1]
        | node a b c d =>
          simp only [even_toL]
          have h5 := least_toL (node a b c d) (by simp)
          rw [toL, List.filter_append, List.filter_cons, e1, e2]
          simp only [decide_true, Bool.not_true, Bool.false_eq_true, if_false]
          rw [h5]
end Tr
end Go.Proofs.Ytanimmdlgmkmkaa.Av

/- Networks: rules as the program goes by them. -/
namespace Go.Proofs.Ytanimmdlgmkmkaa.Av
open Go
set_option linter.unusedSimpArgs false
set_option linter.unusedVariables false
set_option maxRecDepth 100000
set_option maxHeartbeats 2000000
set_option pp.maxSteps 300

def deniesB (l : List Ru) (d a : Int) : Bool := l.any (aclP d a) && decide ((minR (l.filter (aclP d a))).kind = 3)
theorem denies_calls (l : List Ru) (f : Bool) (d a : Int) (hl : l.length < 2 ^ 40) : PCalls Try.prog 109 [rulesAV l f, .raw (.int .i64 d), .raw (.int .u32 a)] (.raw (.bool (deniesB l d a))) := by
  have hf := first_calls (g := 136) (caps := [.pp [.raw (.int .i64 d)] 0, .pp [.raw (.int .u32 a)] 0]) l f hl (fun r _ => aclP_calls r d a)
  obtain ⟨b, hb⟩ : ∃ b, l.any (aclP d a) = b := ⟨_, rfl⟩
  obtain ⟨m, hmm⟩ : ∃ m, minR (l.filter (aclP d a)) = m := ⟨_, rfl⟩
  unfold deniesB
  rw [hb, hmm] at hf ⊢
  refine pbody Try.func109 rfl (N := 21) rfl rfl (by simp) (by simp [noIds]) fun σ => ?_
  repeat (refine awp_seq ?_)
  refine awp_reg ?_
  simp
  refine awp_freeze ⟨4, σ.nx 4, 1⟩ ?_
  refine awp_freeze ⟨5, σ.nx 5, 1⟩ ?_
  generalize hτ : St.del _ _ = τ
  generalize hA : (fun t => giveUp _ _ _) = A
  have a0 : A 0 = rulesAV l f := by rw [← hA]; simp [rulesAV]
  have a4 : A 4 = .pp [.raw (.int .i64 d)] 0 := by rw [← hA, ← hτ]; simp [giveUp, St.new, St.del]
  have a5 : A 5 = .pp [.raw (.int .u32 a)] 0 := by rw [← hA, ← hτ]; simp [giveUp, St.new, St.del]
  have hE : Ext σ τ := by
    rw [← hτ]
    refine ⟨fun i o h => ?_, fun s => ?_⟩
    · rw [del_other (fun e => by rw [e, fresh_none] at h; cases h), del_other (fun e => by rw [e, fresh_none] at h; cases h)]
      exact new_up _ _ (new_up _ _ h)
    · exact Nat.le_trans (St.new_le σ 4 1 (.buf [.raw (.int .i64 d)]) s) (St.new_le (σ.new 4 1 (.buf [.raw (.int .i64 d)])) 5 1 (.buf [.raw (.int .u32 a)]) s)
  clear hτ hA
  (try (first | (with_reducible refine dops_go ?_; simp [a0, a4, a5]) | (with_reducible refine OKv_go ?_; simp [a0, a4, a5]) | (with_reducible refine OKr_go ?_; simp [a0, a4, a5]))); repeat' (first | refine awp_seq ?_ | refine awp_block ?_ | (refine awp_skip ?_; try simp) | (refine awp_exit ?_; try simp) | (refine awp_ret ?_; try simp) | (refine retP_same (by simp) ?_; simp) | (refine retP_flat (by simp) (by simp) (by simp (maxDischargeDepth := 30) [a0, a4, a5]) ?_; simp) | (refine awp_reg ?_; simp [a0, a4, a5]) | (refine awp_drawT (fun _ => false) mixed (by decide +kernel) ?_; simp [a0, a4, a5]) | (refine guarded_split ?_ ?_ <;> (intro hg; simp only [hg]; simp [a0, a4, a5])) | (apply awp_cond_t; focus (simp [a0, a4, a5]; done)) | (apply awp_cond_f; focus (simp [a0, a4, a5]; done)) | (refine awp_cond ?_; simp [a0, a4, a5]; refine ⟨?_, ?_⟩ <;> intro hc))
  refine PCalls.use hf ?_
  (try (first | (with_reducible refine dops_go ?_; simp [a0, a4, a5, ru_cells, ru_ok, hE]) | (with_reducible refine OKv_go ?_; simp [a0, a4, a5, ru_cells, ru_ok, hE]) | (with_reducible refine OKr_go ?_; simp [a0, a4, a5, ru_cells, ru_ok, hE]))); repeat' (first | refine awp_seq ?_ | refine awp_block ?_ | (refine awp_skip ?_; try simp) | (refine awp_exit ?_; try simp) | (refine awp_ret ?_; try simp) | (refine retP_same (by simp) ?_; simp) | (refine retP_flat (by simp) (by simp) (by simp (maxDischargeDepth := 30) [a0, a4, a5, ru_cells, ru_ok, hE]) ?_; simp) | (refine awp_reg ?_; simp [a0, a4, a5, ru_cells, ru_ok, hE]) | (refine awp_drawT (fun _ => false) mixed (by decide +kernel) ?_; simp [a0, a4, a5, ru_cells, ru_ok, hE]) | (refine guarded_split ?_ ?_ <;> (intro hg; simp only [hg]; simp [a0, a4, a5, ru_cells, ru_ok, hE])) | (apply awp_cond_t; focus (simp [a0, a4, a5, ru_cells, ru_ok, hE]; done)) | (apply awp_cond_f; focus (simp [a0, a4, a5, ru_cells, ru_ok, hE]; done)) | (refine awp_cond ?_; simp [a0, a4, a5, ru_cells, ru_ok, hE]; refine ⟨?_, ?_⟩ <;> intro hc))

def matchR (l : List Ru) (d a : Int) : Ru := minR (l.filter (fwdP d a))
def matchB (l : List Ru) (d a : Int) : Bool := l.any (fwdP d a)
theorem match_calls (l : List Ru) (f : Bool) (d a : Int) (hl : l.length < 2 ^ 40) : PCalls Try.prog 110 [rulesAV l f, .raw (.int .i64 d), .raw (.int .u32 a)] (.tup [ruAV (matchR l d a), .raw (.bool (matchB l d a))]) := by
  have hf := first_calls (g := 138) (caps := [.pp [.raw (.int .i64 d)] 0, .pp [.raw (.int .u32 a)] 0]) l f hl (fun r _ => fwdP_calls r d a)
  unfold matchR matchB
  obtain ⟨b, hb⟩ : ∃ b, l.any (fwdP d a) = b := ⟨_, rfl⟩
  obtain ⟨m, hmm⟩ : ∃ m, minR (l.filter (fwdP d a)) = m := ⟨_, rfl⟩
  rw [hb, hmm] at hf ⊢
  refine pbody Try.func110 rfl (N := 13) rfl rfl (by simp) (by simp [noIds, ruAV]) fun σ => ?_
  repeat (refine awp_seq ?_)
  refine awp_reg ?_
  simp
  refine awp_freeze ⟨4, σ.nx 4, 1⟩ ?_
  refine awp_freeze ⟨5, σ.nx 5, 1⟩ ?_
  generalize hτ : St.del _ _ = τ
  generalize hA : (fun t => giveUp _ _ _) = A
  have a0 : A 0 = rulesAV l f := by rw [← hA]; simp [rulesAV]
  have a4 : A 4 = .pp [.raw (.int .i64 d)] 0 := by rw [← hA, ← hτ]; simp [giveUp, St.new, St.del]
  have a5 : A 5 = .pp [.raw (.int .u32 a)] 0 := by rw [← hA, ← hτ]; simp [giveUp, St.new, St.del]
  have a6 : A 6 = .rp ⟨6, σ.nx 6, 7⟩ 0 0 := by rw [← hA, ← hτ]; simp [giveUp, St.new, St.del]
  have m6 : τ.m ⟨6, σ.nx 6, 7⟩ = some (.buf [ruAV ⟨0, 0, 0, 0, ⟨0, 0⟩, 0⟩]) := by rw [← hτ]; simp [St.new, St.del, ruAV]
  have hE : Ext σ τ := by
    rw [← hτ]
    refine ⟨fun i o h => ?_, fun s => ?_⟩
    · rw [del_other (fun e => by rw [e, fresh_none] at h; cases h), del_other (fun e => by rw [e, fresh_none] at h; cases h)]
      exact new_up _ _ (new_up _ _ (new_up _ _ h))
    · exact Nat.le_trans (Nat.le_trans (St.new_le σ 4 1 (.buf [.raw (.int .i64 d)]) s) (St.new_le (σ.new 4 1 (.buf [.raw (.int .i64 d)])) 5 1 (.buf [.raw (.int .u32 a)]) s)) (St.new_le ((σ.new 4 1 (.buf [.raw (.int .i64 d)])).new 5 1 (.buf [.raw (.int .u32 a)])) 6 7 (.buf [ruAV ⟨0, 0, 0, 0, ⟨0, 0⟩, 0⟩]) s)
  clear hτ hA
  have f6 : σ.m ⟨6, σ.nx 6, 7⟩ = none := fresh_none _ _ _
  (try (first | (with_reducible refine dops_go ?_; simp [a0, a4, a5, a6, m6]) | (with_reducible refine OKv_go ?_; simp [a0, a4, a5, a6, m6]) | (with_reducible refine OKr_go ?_; simp [a0, a4, a5, a6, m6]))); repeat' (first | refine awp_seq ?_ | refine awp_block ?_ | (refine awp_skip ?_; try simp) | (refine awp_exit ?_; try simp) | (refine awp_ret ?_; try simp) | (refine retP_same (by simp) ?_; simp) | (refine retP_flat (by simp) (by simp) (by simp (maxDischargeDepth := 30) [a0, a4, a5, a6, m6]) ?_; simp) | (refine awp_reg ?_; simp [a0, a4, a5, a6, m6]) | (refine awp_drawT (fun _ => false) mixed (by decide +kernel) ?_; simp [a0, a4, a5, a6, m6]) | (refine guarded_split ?_ ?_ <;> (intro hg; simp only [hg]; simp [a0, a4, a5, a6, m6])) | (apply awp_cond_t; focus (simp [a0, a4, a5, a6, m6]; done)) | (apply awp_cond_f; focus (simp [a0, a4, a5, a6, m6]; done)) | (refine awp_cond ?_; simp [a0, a4, a5, a6, m6]; refine ⟨?_, ?_⟩ <;> intro hc))
  refine PCalls.use hf ?_
  (try (first | (with_reducible refine dops_go ?_; simp [a0, a4, a5, a6, m6, ru_cells, ru_part]) | (with_reducible refine OKv_go ?_; simp [a0, a4, a5, a6, m6, ru_cells, ru_part]) | (with_reducible refine OKr_go ?_; simp [a0, a4, a5, a6, m6, ru_cells, ru_part]))); repeat' (first | refine awp_seq ?_ | refine awp_block ?_ | (refine awp_skip ?_; try simp) | (refine awp_exit ?_; try simp) | (refine awp_ret ?_; try simp) | (refine awp_reg ?_; simp [a0, a4, a5, a6, m6, ru_cells, ru_part]) | (refine awp_drawT (fun _ => false) mixed (by decide +kernel) ?_; simp [a0, a4, a5, a6, m6, ru_cells, ru_part]) | (refine guarded_split ?_ ?_ <;> (intro hg; simp only [hg]; simp [a0, a4, a5, a6, m6, ru_cells, ru_part])) | (apply awp_cond_t; focus (simp [a0, a4, a5, a6, m6, ru_cells, ru_part]; done)) | (apply awp_cond_f; focus (simp [a0, a4, a5, a6, m6, ru_cells, ru_part]; done)) | (refine awp_cond ?_; simp [a0, a4, a5, a6, m6, ru_cells, ru_part]; refine ⟨?_, ?_⟩ <;> intro hc))
  exact retP_flat (.inr rfl) rfl (hE.setF f6) (by simp [a6, m6, St.set, ru_cells]; exact ru_fold _)

/-- Rules that are right, in the order of their IDs, as the program says it: from the last ID on. -/
def allFrom (last : Int) : List Ru → Bool
  | [] => true
  | r :: l => ruleB r && decide (last < r.id) && allFrom r.id l
def allB (l : List Ru) : Bool := allFrom 0 l && decide (l.length ≤ 40)
theorem all_calls (l : List Ru) (f : Bool) (hl : l.length < 2 ^ 40) : PCalls Try.prog 84 [rulesAV l f] (.raw (.bool (allB l))) := by
  refine pbody Try.func84 rfl (N := 27) rfl rfl (by simp) (by simp [noIds]) fun σ => ?_
  (try (first | (with_reducible refine dops_go ?_; simp [rulesAV]) | (with_reducible refine OKv_go ?_; simp [rulesAV]) | (with_reducible refine OKr_go ?_; simp [rulesAV]))); repeat' (first | refine awp_seq ?_ | refine awp_block ?_ | (refine awp_skip ?_; try simp) | (refine awp_exit ?_; try simp) | (refine awp_ret ?_; try simp) | (refine retP_same (by simp) ?_; simp) | (refine retP_flat (by simp) (by simp) (by simp (maxDischargeDepth := 30) [rulesAV]) ?_; simp) | (refine awp_reg ?_; simp [rulesAV]) | (refine awp_drawT (fun _ => false) mixed (by decide +kernel) ?_; simp [rulesAV]) | (refine guarded_split ?_ ?_ <;> (intro hg; simp only [hg]; simp [rulesAV])) | (apply awp_cond_t; focus (simp [rulesAV]; done)) | (apply awp_cond_f; focus (simp [rulesAV]; done)) | (refine awp_cond ?_; simp [rulesAV]; refine ⟨?_, ?_⟩ <;> intro hc))
  refine awp_loopH (fun n A τ => Ext σ τ ∧ A 0 = rulesAV l f ∧ A 6 = rulesAV l f ∧ A 7 = .raw (.int .i64 l.length) ∧ ∃ (i : Nat) (last : Int), A 8 = .raw (.int .i64 i) ∧ A 3 = .raw (.int .i64 last) ∧ i ≤ l.length ∧ n = l.length - i ∧ allFrom 0 l = allFrom last (l.drop i)) l.length ?_ ?_
  · exact ⟨by simp, by simp [rulesAV], by simp [rulesAV], by simp [rulesAV], 0, 0, by simp, by simp, by omega, by omega, by simp⟩
  rintro n A τ ⟨hE, a0, a6, a7, i, last, a8, a3, hi, rfl, hall⟩ I1 hI1
  by_cases hlt : i < l.length
  · have hx : l[i]? = some l[i] := List.getElem?_eq_getElem hlt
    have w1 : IntKind.i64.wrap ((i : Int) + 1) = ((i + 1 : Nat) : Int) := by rw [wrap64 (by omega) (by omega)]; omega
    have hd : l.drop i = l[i] :: l.drop (i + 1) := List.drop_eq_getElem_cons hlt
    rw [hd] at hall
    simp only [allFrom] at hall
    obtain ⟨b, hb⟩ : ∃ b, ruleB l[i] = b := ⟨_, rfl⟩
    have hr := hb ▸ ruleRight_calls l[i]
    rw [hb] at hall
    (try (first | (with_reducible refine dops_go ?_; simp [rulesAV, a0, a6, a7, a8, a3, hlt, hx, ru_cells, ru_ok, ru_fold, w1]) | (with_reducible refine OKv_go ?_; simp [rulesAV, a0, a6, a7, a8, a3, hlt, hx, ru_cells, ru_ok, ru_fold, w1]) | (with_reducible refine OKr_go ?_; simp [rulesAV, a0, a6, a7, a8, a3, hlt, hx, ru_cells, ru_ok, ru_fold, w1]))); repeat' (first | refine awp_seq ?_ | refine awp_block ?_ | (refine awp_skip ?_; try simp) | (refine awp_exit ?_; try simp) | (refine awp_ret ?_; try simp) | (refine retP_same (by simp) ?_; simp) | (refine retP_flat (by simp) (by simp) (by simp (maxDischargeDepth := 30) [rulesAV, a0, a6, a7, a8, a3, hlt, hx, ru_cells, ru_ok, ru_fold, w1]) ?_; simp) | (refine awp_reg ?_; simp [rulesAV, a0, a6, a7, a8, a3, hlt, hx, ru_cells, ru_ok, ru_fold, w1]) | (refine awp_drawT (fun _ => false) mixed (by decide +kernel) ?_; simp [rulesAV, a0, a6, a7, a8, a3, hlt, hx, ru_cells, ru_ok, ru_fold, w1]) | (refine guarded_split ?_ ?_ <;> (intro hg; simp only [hg]; simp [rulesAV, a0, a6, a7, a8, a3, hlt, hx, ru_cells, ru_ok, ru_fold, w1])) | (apply awp_cond_t; focus (simp [rulesAV, a0, a6, a7, a8, a3, hlt, hx, ru_cells, ru_ok, ru_fold, w1]; done)) | (apply awp_cond_f; focus (simp [rulesAV, a0, a6, a7, a8, a3, hlt, hx, ru_cells, ru_ok, ru_fold, w1]; done)) | (refine awp_cond ?_; simp [rulesAV, a0, a6, a7, a8, a3, hlt, hx, ru_cells, ru_ok, ru_fold, w1]; refine ⟨?_, ?_⟩ <;> intro hc))
    refine PCalls.use hr ?_
    cases b with
    | false =>
      (try (first | (with_reducible refine dops_go ?_; simp [rulesAV, a0, a6, a7, a8, a3, hlt, hx, ru_cells, ru_ok, ru_fold, w1, hE]) | (with_reducible refine OKv_go ?_; simp [rulesAV, a0, a6, a7, a8, a3, hlt, hx, ru_cells, ru_ok, ru_fold, w1, hE]) | (with_reducible refine OKr_go ?_; simp [rulesAV, a0, a6, a7, a8, a3, hlt, hx, ru_cells, ru_ok, ru_fold, w1, hE]))); repeat' (first | refine awp_seq ?_ | refine awp_block ?_ | (refine awp_skip ?_; try simp) | (refine awp_exit ?_; try simp) | (refine awp_ret ?_; try simp) | (refine retP_same (by simp) ?_; simp) | (refine retP_flat (by simp) (by simp) (by simp (maxDischargeDepth := 30) [rulesAV, a0, a6, a7, a8, a3, hlt, hx, ru_cells, ru_ok, ru_fold, w1, hE]) ?_; simp) | (refine awp_reg ?_; simp [rulesAV, a0, a6, a7, a8, a3, hlt, hx, ru_cells, ru_ok, ru_fold, w1, hE]) | (refine awp_drawT (fun _ => false) mixed (by decide +kernel) ?_; simp [rulesAV, a0, a6, a7, a8, a3, hlt, hx, ru_cells, ru_ok, ru_fold, w1, hE]) | (refine guarded_split ?_ ?_ <;> (intro hg; simp only [hg]; simp [rulesAV, a0, a6, a7, a8, a3, hlt, hx, ru_cells, ru_ok, ru_fold, w1, hE])) | (apply awp_cond_t; focus (simp [rulesAV, a0, a6, a7, a8, a3, hlt, hx, ru_cells, ru_ok, ru_fold, w1, hE]; done)) | (apply awp_cond_f; focus (simp [rulesAV, a0, a6, a7, a8, a3, hlt, hx, ru_cells, ru_ok, ru_fold, w1, hE]; done)) | (refine awp_cond ?_; simp [rulesAV, a0, a6, a7, a8, a3, hlt, hx, ru_cells, ru_ok, ru_fold, w1, hE]; refine ⟨?_, ?_⟩ <;> intro hc))
      simp [allB, hall]
    | true =>
      by_cases hlast : l[i].id ≤ last
      · (try (first | (with_reducible refine dops_go ?_; simp [rulesAV, a0, a6, a7, a8, a3, hlt, hx, ru_cells, ru_ok, ru_fold, w1, hE, hlast]) | (with_reducible refine OKv_go ?_; simp [rulesAV, a0, a6, a7, a8, a3, hlt, hx, ru_cells, ru_ok, ru_fold, w1, hE, hlast]) | (with_reducible refine OKr_go ?_; simp [rulesAV, a0, a6, a7, a8, a3, hlt, hx, ru_cells, ru_ok, ru_fold, w1, hE, hlast]))); repeat' (first | refine awp_seq ?_ | refine awp_block ?_ | (refine awp_skip ?_; try simp) | (refine awp_exit ?_; try simp) | (refine awp_ret ?_; try simp) | (refine retP_same (by simp) ?_; simp) | (refine retP_flat (by simp) (by simp) (by simp (maxDischargeDepth := 30) [rulesAV, a0, a6, a7, a8, a3, hlt, hx, ru_cells, ru_ok, ru_fold, w1, hE, hlast]) ?_; simp) | (refine awp_reg ?_; simp [rulesAV, a0, a6, a7, a8, a3, hlt, hx, ru_cells, ru_ok, ru_fold, w1, hE, hlast]) | (refine awp_drawT (fun _ => false) mixed (by decide +kernel) ?_; simp [rulesAV, a0, a6, a7, a8, a3, hlt, hx, ru_cells, ru_ok, ru_fold, w1, hE, hlast]) | (refine guarded_split ?_ ?_ <;> (intro hg; simp only [hg]; simp [rulesAV, a0, a6, a7, a8, a3, hlt, hx, ru_cells, ru_ok, ru_fold, w1, hE, hlast])) | (apply awp_cond_t; focus (simp [rulesAV, a0, a6, a7, a8, a3, hlt, hx, ru_cells, ru_ok, ru_fold, w1, hE, hlast]; done)) | (apply awp_cond_f; focus (simp [rulesAV, a0, a6, a7, a8, a3, hlt, hx, ru_cells, ru_ok, ru_fold, w1, hE, hlast]; done)) | (refine awp_cond ?_; simp [rulesAV, a0, a6, a7, a8, a3, hlt, hx, ru_cells, ru_ok, ru_fold, w1, hE, hlast]; refine ⟨?_, ?_⟩ <;> intro hc))
        have : ¬ last < l[i].id := by omega
        simp [allB, hall, this]
      · (try (first | (with_reducible refine dops_go ?_; simp [rulesAV, a0, a6, a7, a8, a3, hlt, hx, ru_cells, ru_ok, ru_fold, w1, hlast]) | (with_reducible refine OKv_go ?_; simp [rulesAV, a0, a6, a7, a8, a3, hlt, hx, ru_cells, ru_ok, ru_fold, w1, hlast]) | (with_reducible refine OKr_go ?_; simp [rulesAV, a0, a6, a7, a8, a3, hlt, hx, ru_cells, ru_ok, ru_fold, w1, hlast]))); repeat' (first | refine awp_seq ?_ | refine awp_block ?_ | (refine awp_skip ?_; try simp) | (refine awp_exit ?_; try simp) | (refine awp_ret ?_; try simp) | (refine retP_same (by simp) ?_; simp) | (refine retP_flat (by simp) (by simp) (by simp (maxDischargeDepth := 30) [rulesAV, a0, a6, a7, a8, a3, hlt, hx, ru_cells, ru_ok, ru_fold, w1, hlast]) ?_; simp) | (refine awp_reg ?_; simp [rulesAV, a0, a6, a7, a8, a3, hlt, hx, ru_cells, ru_ok, ru_fold, w1, hlast]) | (refine awp_drawT (fun _ => false) mixed (by decide +kernel) ?_; simp [rulesAV, a0, a6, a7, a8, a3, hlt, hx, ru_cells, ru_ok, ru_fold, w1, hlast]) | (refine guarded_split ?_ ?_ <;> (intro hg; simp only [hg]; simp [rulesAV, a0, a6, a7, a8, a3, hlt, hx, ru_cells, ru_ok, ru_fold, w1, hlast])) | (apply awp_cond_t; focus (simp [rulesAV, a0, a6, a7, a8, a3, hlt, hx, ru_cells, ru_ok, ru_fold, w1, hlast]; done)) | (apply awp_cond_f; focus (simp [rulesAV, a0, a6, a7, a8, a3, hlt, hx, ru_cells, ru_ok, ru_fold, w1, hlast]; done)) | (refine awp_cond ?_; simp [rulesAV, a0, a6, a7, a8, a3, hlt, hx, ru_cells, ru_ok, ru_fold, w1, hlast]; refine ⟨?_, ?_⟩ <;> intro hc))
        have hg : last < l[i].id := by omega
        exact hI1 (l.length - (i + 1)) _ _ (by omega) ⟨by simp [hE], by simp [a0], by simp [a6, rulesAV], by simp [a7], i + 1, l[i].id, by simp, by simp, by omega, rfl, by simpa [hg] using hall⟩
  · have : i = l.length := by omega
    subst this
    (try (first | (with_reducible refine dops_go ?_; simp [rulesAV, a0, a6, a7, a8, a3, hE]) | (with_reducible refine OKv_go ?_; simp [rulesAV, a0, a6, a7, a8, a3, hE]) | (with_reducible refine OKr_go ?_; simp [rulesAV, a0, a6, a7, a8, a3, hE]))); repeat' (first | refine awp_seq ?_ | refine awp_block ?_ | (refine awp_skip ?_; try simp) | (refine awp_exit ?_; try simp) | (refine awp_ret ?_; try simp) | (refine retP_same (by simp) ?_; simp) | (refine retP_flat (by simp) (by simp) (by simp (maxDischargeDepth := 30) [rulesAV, a0, a6, a7, a8, a3, hE]) ?_; simp) | (refine awp_reg ?_; simp [rulesAV, a0, a6, a7, a8, a3, hE]) | (refine awp_drawT (fun _ => false) mixed (by decide +kernel) ?_; simp [rulesAV, a0, a6, a7, a8, a3, hE]) | (refine guarded_split ?_ ?_ <;> (intro hg; simp only [hg]; simp [rulesAV, a0, a6, a7, a8, a3, hE])) | (apply awp_cond_t; focus (simp [rulesAV, a0, a6, a7, a8, a3, hE]; done)) | (apply awp_cond_f; focus (simp [rulesAV, a0, a6, a7, a8, a3, hE]; done)) | (refine awp_cond ?_; simp [rulesAV, a0, a6, a7, a8, a3, hE]; refine ⟨?_, ?_⟩ <;> intro hc))
    rw [List.drop_length] at hall
    simp only [allFrom] at hall
    simp [allB, hall]
    omega
end Go.Proofs.Ytanimmdlgmkmkaa.Av

/- Networks: one step of a packet. -/
namespace Go.Proofs.Ytanimmdlgmkmkaa.Av
open Go
set_option linter.unusedSimpArgs false
set_option linter.unusedVariables false
set_option maxRecDepth 100000
set_option maxHeartbeats 2000000
set_option pp.maxSteps 300

def stepF (n : Nw) (d a : Int) : Int × Pt :=
  if deniesB n.rules d a = true then (2, ⟨0, 0⟩) else if matchB n.rules d a = false then (0, ⟨0, 0⟩) else if (matchR n.rules d a).kind = 1 then (1, ⟨0, 0⟩)
  else if (nextM n.t ⟨d, (matchR n.rules d a).port⟩).isSome = true then (4, ⟨d, (matchR n.rules d a).port⟩) else (3, ⟨d, (matchR n.rules d a).port⟩)
theorem nw_cells (n : Nw) (f : Fl) : (nwAV n f).cells = [intsAV n.t.ports f.p, linksAV n.t.links f.l, rulesAV n.rules f.r] := rfl
theorem new_m {σ : St} {slot sz : Nat} {o : Ob} {j : Id} : (σ.new slot sz o).m j = if j = ⟨slot, σ.nx slot, sz⟩ then some o else σ.m j := rfl
theorem set_m {σ : St} {i j : Id} {o : Ob} : (σ.set i o).m j = if j = i ∧ (σ.m i).isSome = true then some o else σ.m j := rfl
theorem new_nx' {σ : St} {slot sz s : Nat} {o : Ob} : (σ.new slot sz o).nx s = if s = slot then σ.nx s + 1 else σ.nx s := rfl
theorem step_calls (n : Nw) (f : Fl) (d a : Int) (hl : n.t.links.length < 2 ^ 40) (hl2 : n.rules.length < 2 ^ 40) :
    PCalls Try.prog 70 [nwAV n f, .raw (.int .i64 d), .raw (.int .u32 a)] (.tup [.raw (.int .i64 (stepF n d a).1), ptAV (stepF n d a).2]) := by
  have hd := denies_calls n.rules f.r d a hl2
  have hm := match_calls n.rules f.r d a hl2
  have hn := fun p => next_calls n.t f p hl
  unfold stepF
  obtain ⟨b1, h1⟩ : ∃ b, deniesB n.rules d a = b := ⟨_, rfl⟩
  obtain ⟨b2, h2⟩ : ∃ b, matchB n.rules d a = b := ⟨_, rfl⟩
  obtain ⟨r, hr⟩ : ∃ r, matchR n.rules d a = r := ⟨_, rfl⟩
  rw [h1] at hd
  rw [h2, hr] at hm
  rw [h1, h2, hr]
  clear h1 h2 hr
  have hn := hn ⟨d, r.port⟩
  obtain ⟨b3, h3⟩ : ∃ b, (nextM n.t ⟨d, r.port⟩).isSome = b := ⟨_, rfl⟩
  obtain ⟨q, hq⟩ : ∃ q, (nextM n.t ⟨d, r.port⟩).getD ⟨0, 0⟩ = q := ⟨_, rfl⟩
  rw [h3, hq] at hn
  rw [h3]
  refine pbody Try.func70 rfl (N := 50) rfl rfl (by simp) (by simp [noIds, ptAV]) fun σ => ?_
  have ho1 : cellOK (intsAV n.t.ports f.p) = true := rfl
  have ho2 : cellOK (linksAV n.t.links f.l) = true := rfl
  have ho3 : cellOK (rulesAV n.rules f.r) = true := rfl
  simp only [cellOK] at ho1 ho2 ho3
  have hpf : ∀ x y : Int, AV.agg [.raw (.int .i64 x), .raw (.int .i64 y)] = ptAV ⟨x, y⟩ := fun _ _ => rfl
  have hpc : ∀ q : Pt, (ptAV q).cells = [.raw (.int .i64 q.dev), .raw (.int .i64 q.port)] := fun q => rfl
  have hps : ∀ (q : Pt) (x y : Int), setPart (ptAV q) 0 [.raw (.int .i64 x), .raw (.int .i64 y)] = ptAV ⟨x, y⟩ := fun _ _ _ => rfl
  have f7 : σ.m ⟨7, σ.nx 7, 2⟩ = none := fresh_none _ _ _
  have hnf : AV.agg [intsAV n.t.ports f.p, linksAV n.t.links f.l] = tpAV n.t f := rfl
  (try (first | (with_reducible refine dops_go ?_; simp [nw_cells, ho1, ho2, ho3, hpf, hpc, hps]) | (with_reducible refine OKv_go ?_; simp [nw_cells, ho1, ho2, ho3, hpf, hpc, hps]) | (with_reducible refine OKr_go ?_; simp [nw_cells, ho1, ho2, ho3, hpf, hpc, hps]))); repeat' (first | refine awp_seq ?_ | refine awp_block ?_ | (refine awp_skip ?_; try simp) | (refine awp_exit ?_; try simp) | (refine awp_ret ?_; try simp) | (refine retP_same (by simp) ?_; simp) | (refine retP_flat (by simp) (by simp) (by simp (maxDischargeDepth := 30) [nw_cells, ho1, ho2, ho3, hpf, hpc, hps]) ?_; simp) | (refine awp_reg ?_; simp [nw_cells, ho1, ho2, ho3, hpf, hpc, hps]) | (refine awp_drawT (fun _ => false) mixed (by decide +kernel) ?_; simp [nw_cells, ho1, ho2, ho3, hpf, hpc, hps]) | (refine guarded_split ?_ ?_ <;> (intro hg; simp only [hg]; simp [nw_cells, ho1, ho2, ho3, hpf, hpc, hps])) | (apply awp_cond_t; focus (simp [nw_cells, ho1, ho2, ho3, hpf, hpc, hps]; done)) | (apply awp_cond_f; focus (simp [nw_cells, ho1, ho2, ho3, hpf, hpc, hps]; done)) | (refine awp_cond ?_; simp [nw_cells, ho1, ho2, ho3, hpf, hpc, hps]; refine ⟨?_, ?_⟩ <;> intro hc))
  refine PCalls.use hd ?_
  cases b1 with
  | true =>
    (try (first | (with_reducible refine dops_go ?_; simp [nw_cells, ho1, ho2, ho3, hpf, hpc, hps]) | (with_reducible refine OKv_go ?_; simp [nw_cells, ho1, ho2, ho3, hpf, hpc, hps]) | (with_reducible refine OKr_go ?_; simp [nw_cells, ho1, ho2, ho3, hpf, hpc, hps]))); repeat' (first | refine awp_seq ?_ | refine awp_block ?_ | (refine awp_skip ?_; try simp) | (refine awp_exit ?_; try simp) | (refine awp_ret ?_; try simp) | (refine awp_reg ?_; simp [nw_cells, ho1, ho2, ho3, hpf, hpc, hps]) | (refine awp_drawT (fun _ => false) mixed (by decide +kernel) ?_; simp [nw_cells, ho1, ho2, ho3, hpf, hpc, hps]) | (refine guarded_split ?_ ?_ <;> (intro hg; simp only [hg]; simp [nw_cells, ho1, ho2, ho3, hpf, hpc, hps])) | (apply awp_cond_t; focus (simp [nw_cells, ho1, ho2, ho3, hpf, hpc, hps]; done)) | (apply awp_cond_f; focus (simp [nw_cells, ho1, ho2, ho3, hpf, hpc, hps]; done)) | (refine awp_cond ?_; simp [nw_cells, ho1, ho2, ho3, hpf, hpc, hps]; refine ⟨?_, ?_⟩ <;> intro hc))
    refine retP_flat (.inr rfl) rfl (by repeat (first | exact Ext.refl _ | refine ext_new' ?_ | refine Ext.setF ?_ (by simp [new_nx', St.set, fresh_none]))) ?_
    simp [St.set, St.new, hpc, hpf, hps]
  | false =>
    (try (first | (with_reducible refine dops_go ?_; simp [nw_cells, ho1, ho2, ho3, hpf, hpc, hps]) | (with_reducible refine OKv_go ?_; simp [nw_cells, ho1, ho2, ho3, hpf, hpc, hps]) | (with_reducible refine OKr_go ?_; simp [nw_cells, ho1, ho2, ho3, hpf, hpc, hps]))); repeat' (first | refine awp_seq ?_ | refine awp_block ?_ | (refine awp_skip ?_; try simp) | (refine awp_exit ?_; try simp) | (refine awp_ret ?_; try simp) | (refine retP_same (by simp) ?_; simp) | (refine retP_flat (by simp) (by simp) (by simp (maxDischargeDepth := 30) [nw_cells, ho1, ho2, ho3, hpf, hpc, hps]) ?_; simp) | (refine awp_reg ?_; simp [nw_cells, ho1, ho2, ho3, hpf, hpc, hps]) | (refine awp_drawT (fun _ => false) mixed (by decide +kernel) ?_; simp [nw_cells, ho1, ho2, ho3, hpf, hpc, hps]) | (refine guarded_split ?_ ?_ <;> (intro hg; simp only [hg]; simp [nw_cells, ho1, ho2, ho3, hpf, hpc, hps])) | (apply awp_cond_t; focus (simp [nw_cells, ho1, ho2, ho3, hpf, hpc, hps]; done)) | (apply awp_cond_f; focus (simp [nw_cells, ho1, ho2, ho3, hpf, hpc, hps]; done)) | (refine awp_cond ?_; simp [nw_cells, ho1, ho2, ho3, hpf, hpc, hps]; refine ⟨?_, ?_⟩ <;> intro hc))
    refine PCalls.use hm ?_
    cases b2 with
    | false =>
      (try (first | (with_reducible refine dops_go ?_; simp [nw_cells, ho1, ho2, ho3, hpf, hpc, hps, ru_cells, ru_ok, ru_fold]) | (with_reducible refine OKv_go ?_; simp [nw_cells, ho1, ho2, ho3, hpf, hpc, hps, ru_cells, ru_ok, ru_fold]) | (with_reducible refine OKr_go ?_; simp [nw_cells, ho1, ho2, ho3, hpf, hpc, hps, ru_cells, ru_ok, ru_fold]))); repeat' (first | refine awp_seq ?_ | refine awp_block ?_ | (refine awp_skip ?_; try simp) | (refine awp_exit ?_; try simp) | (refine awp_ret ?_; try simp) | (refine awp_reg ?_; simp [nw_cells, ho1, ho2, ho3, hpf, hpc, hps, ru_cells, ru_ok, ru_fold]) | (refine awp_drawT (fun _ => false) mixed (by decide +kernel) ?_; simp [nw_cells, ho1, ho2, ho3, hpf, hpc, hps, ru_cells, ru_ok, ru_fold]) | (refine guarded_split ?_ ?_ <;> (intro hg; simp only [hg]; simp [nw_cells, ho1, ho2, ho3, hpf, hpc, hps, ru_cells, ru_ok, ru_fold])) | (apply awp_cond_t; focus (simp [nw_cells, ho1, ho2, ho3, hpf, hpc, hps, ru_cells, ru_ok, ru_fold]; done)) | (apply awp_cond_f; focus (simp [nw_cells, ho1, ho2, ho3, hpf, hpc, hps, ru_cells, ru_ok, ru_fold]; done)) | (refine awp_cond ?_; simp [nw_cells, ho1, ho2, ho3, hpf, hpc, hps, ru_cells, ru_ok, ru_fold]; refine ⟨?_, ?_⟩ <;> intro hc))
      refine retP_flat (.inr rfl) rfl (by repeat (first | exact Ext.refl _ | refine ext_new' ?_ | refine Ext.setF ?_ (by simp [new_nx', St.set, fresh_none]))) ?_
      simp [St.set, St.new, hpc, hpf, hps]
    | true =>
      by_cases hk : r.kind = 1
      · (try (first | (with_reducible refine dops_go ?_; simp [nw_cells, ho1, ho2, ho3, hpf, hpc, hps, ru_cells, ru_ok, ru_fold, hk]) | (with_reducible refine OKv_go ?_; simp [nw_cells, ho1, ho2, ho3, hpf, hpc, hps, ru_cells, ru_ok, ru_fold, hk]) | (with_reducible refine OKr_go ?_; simp [nw_cells, ho1, ho2, ho3, hpf, hpc, hps, ru_cells, ru_ok, ru_fold, hk]))); repeat' (first | refine awp_seq ?_ | refine awp_block ?_ | (refine awp_skip ?_; try simp) | (refine awp_exit ?_; try simp) | (refine awp_ret ?_; try simp) | (refine awp_reg ?_; simp [nw_cells, ho1, ho2, ho3, hpf, hpc, hps, ru_cells, ru_ok, ru_fold, hk]) | (refine awp_drawT (fun _ => false) mixed (by decide +kernel) ?_; simp [nw_cells, ho1, ho2, ho3, hpf, hpc, hps, ru_cells, ru_ok, ru_fold, hk]) | (refine guarded_split ?_ ?_ <;> (intro hg; simp only [hg]; simp [nw_cells, ho1, ho2, ho3, hpf, hpc, hps, ru_cells, ru_ok, ru_fold, hk])) | (apply awp_cond_t; focus (simp [nw_cells, ho1, ho2, ho3, hpf, hpc, hps, ru_cells, ru_ok, ru_fold, hk]; done)) | (apply awp_cond_f; focus (simp [nw_cells, ho1, ho2, ho3, hpf, hpc, hps, ru_cells, ru_ok, ru_fold, hk]; done)) | (refine awp_cond ?_; simp [nw_cells, ho1, ho2, ho3, hpf, hpc, hps, ru_cells, ru_ok, ru_fold, hk]; refine ⟨?_, ?_⟩ <;> intro hc))
        refine retP_flat (.inr rfl) rfl (by repeat (first | exact Ext.refl _ | refine ext_new' ?_ | refine Ext.setF ?_ (by simp [new_nx', St.set, fresh_none]))) ?_
        simp [St.set, St.new, hpc, hpf, hps, hk]
      · (try (first | (with_reducible refine dops_go ?_; simp [nw_cells, ho1, ho2, ho3, hpf, hpc, hps, ru_cells, ru_ok, ru_fold, hk, hnf, new_m, set_m, new_nx']) | (with_reducible refine OKv_go ?_; simp [nw_cells, ho1, ho2, ho3, hpf, hpc, hps, ru_cells, ru_ok, ru_fold, hk, hnf, new_m, set_m, new_nx']) | (with_reducible refine OKr_go ?_; simp [nw_cells, ho1, ho2, ho3, hpf, hpc, hps, ru_cells, ru_ok, ru_fold, hk, hnf, new_m, set_m, new_nx']))); repeat' (first | refine awp_seq ?_ | refine awp_block ?_ | (refine awp_skip ?_; try simp) | (refine awp_exit ?_; try simp) | (refine awp_ret ?_; try simp) | (refine retP_same (by simp) ?_; simp) | (refine retP_flat (by simp) (by simp) (by simp (maxDischargeDepth := 30) [nw_cells, ho1, ho2, ho3, hpf, hpc, hps, ru_cells, ru_ok, ru_fold, hk, hnf, new_m, set_m, new_nx']) ?_; simp) | (refine awp_reg ?_; simp [nw_cells, ho1, ho2, ho3, hpf, hpc, hps, ru_cells, ru_ok, ru_fold, hk, hnf, new_m, set_m, new_nx']) | (refine awp_drawT (fun _ => false) mixed (by decide +kernel) ?_; simp [nw_cells, ho1, ho2, ho3, hpf, hpc, hps, ru_cells, ru_ok, ru_fold, hk, hnf, new_m, set_m, new_nx']) | (refine guarded_split ?_ ?_ <;> (intro hg; simp only [hg]; simp [nw_cells, ho1, ho2, ho3, hpf, hpc, hps, ru_cells, ru_ok, ru_fold, hk, hnf, new_m, set_m, new_nx'])) | (apply awp_cond_t; focus (simp [nw_cells, ho1, ho2, ho3, hpf, hpc, hps, ru_cells, ru_ok, ru_fold, hk, hnf, new_m, set_m, new_nx']; done)) | (apply awp_cond_f; focus (simp [nw_cells, ho1, ho2, ho3, hpf, hpc, hps, ru_cells, ru_ok, ru_fold, hk, hnf, new_m, set_m, new_nx']; done)) | (refine awp_cond ?_; simp [nw_cells, ho1, ho2, ho3, hpf, hpc, hps, ru_cells, ru_ok, ru_fold, hk, hnf, new_m, set_m, new_nx']; refine ⟨?_, ?_⟩ <;> intro hc))
        refine PCalls.use hn ?_
        cases b3 with
        | true =>
          (try (first | (with_reducible refine dops_go ?_; simp [nw_cells, ho1, ho2, ho3, hpf, hpc, hps, ru_cells, ru_ok, ru_fold, hk, hnf, new_m, set_m, new_nx']) | (with_reducible refine OKv_go ?_; simp [nw_cells, ho1, ho2, ho3, hpf, hpc, hps, ru_cells, ru_ok, ru_fold, hk, hnf, new_m, set_m, new_nx']) | (with_reducible refine OKr_go ?_; simp [nw_cells, ho1, ho2, ho3, hpf, hpc, hps, ru_cells, ru_ok, ru_fold, hk, hnf, new_m, set_m, new_nx']))); repeat' (first | refine awp_seq ?_ | refine awp_block ?_ | (refine awp_skip ?_; try simp) | (refine awp_exit ?_; try simp) | (refine awp_ret ?_; try simp) | (refine awp_reg ?_; simp [nw_cells, ho1, ho2, ho3, hpf, hpc, hps, ru_cells, ru_ok, ru_fold, hk, hnf, new_m, set_m, new_nx']) | (refine awp_drawT (fun _ => false) mixed (by decide +kernel) ?_; simp [nw_cells, ho1, ho2, ho3, hpf, hpc, hps, ru_cells, ru_ok, ru_fold, hk, hnf, new_m, set_m, new_nx']) | (refine guarded_split ?_ ?_ <;> (intro hg; simp only [hg]; simp [nw_cells, ho1, ho2, ho3, hpf, hpc, hps, ru_cells, ru_ok, ru_fold, hk, hnf, new_m, set_m, new_nx'])) | (apply awp_cond_t; focus (simp [nw_cells, ho1, ho2, ho3, hpf, hpc, hps, ru_cells, ru_ok, ru_fold, hk, hnf, new_m, set_m, new_nx']; done)) | (apply awp_cond_f; focus (simp [nw_cells, ho1, ho2, ho3, hpf, hpc, hps, ru_cells, ru_ok, ru_fold, hk, hnf, new_m, set_m, new_nx']; done)) | (refine awp_cond ?_; simp [nw_cells, ho1, ho2, ho3, hpf, hpc, hps, ru_cells, ru_ok, ru_fold, hk, hnf, new_m, set_m, new_nx']; refine ⟨?_, ?_⟩ <;> intro hc))
          refine retP_flat (.inr rfl) rfl (by repeat (first | exact Ext.refl _ | refine ext_new' ?_ | refine Ext.setF ?_ (by simp [new_nx', St.set, fresh_none]))) ?_
          simp [St.set, St.new, hpc, hpf, hps, hk]
        | false =>
          (try (first | (with_reducible refine dops_go ?_; simp [nw_cells, ho1, ho2, ho3, hpf, hpc, hps, ru_cells, ru_ok, ru_fold, hk, hnf, new_m, set_m, new_nx']) | (with_reducible refine OKv_go ?_; simp [nw_cells, ho1, ho2, ho3, hpf, hpc, hps, ru_cells, ru_ok, ru_fold, hk, hnf, new_m, set_m, new_nx']) | (with_reducible refine OKr_go ?_; simp [nw_cells, ho1, ho2, ho3, hpf, hpc, hps, ru_cells, ru_ok, ru_fold, hk, hnf, new_m, set_m, new_nx']))); repeat' (first | refine awp_seq ?_ | refine awp_block ?_ | (refine awp_skip ?_; try simp) | (refine awp_exit ?_; try simp) | (refine awp_ret ?_; try simp) | (refine awp_reg ?_; simp [nw_cells, ho1, ho2, ho3, hpf, hpc, hps, ru_cells, ru_ok, ru_fold, hk, hnf, new_m, set_m, new_nx']) | (refine awp_drawT (fun _ => false) mixed (by decide +kernel) ?_; simp [nw_cells, ho1, ho2, ho3, hpf, hpc, hps, ru_cells, ru_ok, ru_fold, hk, hnf, new_m, set_m, new_nx']) | (refine guarded_split ?_ ?_ <;> (intro hg; simp only [hg]; simp [nw_cells, ho1, ho2, ho3, hpf, hpc, hps, ru_cells, ru_ok, ru_fold, hk, hnf, new_m, set_m, new_nx'])) | (apply awp_cond_t; focus (simp [nw_cells, ho1, ho2, ho3, hpf, hpc, hps, ru_cells, ru_ok, ru_fold, hk, hnf, new_m, set_m, new_nx']; done)) | (apply awp_cond_f; focus (simp [nw_cells, ho1, ho2, ho3, hpf, hpc, hps, ru_cells, ru_ok, ru_fold, hk, hnf, new_m, set_m, new_nx']; done)) | (refine awp_cond ?_; simp [nw_cells, ho1, ho2, ho3, hpf, hpc, hps, ru_cells, ru_ok, ru_fold, hk, hnf, new_m, set_m, new_nx']; refine ⟨?_, ?_⟩ <;> intro hc))
          refine retP_flat (.inr rfl) rfl (by repeat (first | exact Ext.refl _ | refine ext_new' ?_ | refine Ext.setF ?_ (by simp [new_nx', St.set, fresh_none]))) ?_
          simp [St.set, St.new, hpc, hpf, hps, hk]
end Go.Proofs.Ytanimmdlgmkmkaa.Av

/- Trees: how they lie; heights, sizes, nodes; the turning of a node. -/
namespace Go.Proofs.Ytanimmdlgmkmkaa.Av
open Go
set_option linter.unusedSimpArgs false
set_option linter.unusedVariables false
set_option maxRecDepth 100000
set_option maxHeartbeats 2000000
set_option pp.maxSteps 600

def Tr.av : Tr → AV
  | .nil => .raw (.pointer none)
  | .node l k v r => .pp [.raw (.int .u64 k), .raw (.int .i64 v), l.av, r.av, .raw (.int .i64 (Tr.node l k v r).ht), .raw (.int .i64 (Tr.node l k v r).sz)] 0
def prAV (k v : Int) : AV := .agg [.raw (.int .u64 k), .raw (.int .i64 v)]
@[simp] theorem av_nil : Tr.nil.av = .raw (.pointer none) := rfl
theorem av_node (l : Tr) (k v : Int) (r : Tr) : (Tr.node l k v r).av = .pp [.raw (.int .u64 k), .raw (.int .i64 v), l.av, r.av, .raw (.int .i64 (Tr.node l k v r).ht), .raw (.int .i64 (Tr.node l k v r).sz)] 0 := rfl
@[simp] theorem av_ids (K : Id → Prop) : ∀ t : Tr, t.av.ids K
  | .nil => by simp [Tr.av, AV.ids]
  | .node l k v r => by simp only [Tr.av, AV.ids, idsL, av_ids K l, av_ids K r, and_self]
@[simp] theorem av_cells (t : Tr) : t.av.cells = [t.av] := by cases t <;> rfl
@[simp] theorem av_oneOk (t : Tr) : cellOK t.av = true := by cases t <;> rfl
@[simp] theorem av_flat1 (t : Tr) : t.av.flat1 = true := by cases t <;> rfl
@[simp] theorem av_giveUp (m m' : Mem) (t : Tr) : giveUp m' m t.av = t.av := by cases t <;> rfl
theorem av_setPart (t : Tr) (off : Nat) (x : AV) : setPart t.av off [x] = x := by cases t <;> rfl

theorem high_calls (t : Tr) : PCalls Try.prog 152 [t.av] (.raw (.int .i64 t.ht)) := by
  refine pbody Try.func152 rfl (N := 9) rfl rfl (by simp) (by simp [noIds]) fun σ => ?_
  cases t with
  | nil => (try (first | (with_reducible refine dops_go ?_; simp [-cellOK, Tr.ht]) | (with_reducible refine OKv_go ?_; simp [-cellOK, Tr.ht]) | (with_reducible refine OKr_go ?_; simp [-cellOK, Tr.ht]))); repeat' (first | refine awp_seq ?_ | refine awp_block ?_ | (refine awp_skip ?_; try simp) | (refine awp_exit ?_; try simp) | (refine awp_ret ?_; try simp) | (refine retP_same (by simp) ?_; simp) | (refine retP_no (by simp) (by simp [noIds]) (by repeat (first | assumption | exact Ext.refl _ | refine ext_new' ?_ | refine Ext.setF ?_ (by first | assumption | (simp [new_nx', St.set, fresh_none]; done) | exact ext_fresh (by assumption)))) ?_; simp [-cellOK, Tr.ht, new_m, set_m, new_nx']) | (refine awp_reg ?_; simp [-cellOK, Tr.ht]) | (refine awp_drawT (fun _ => false) mixed (by decide +kernel) ?_; simp [-cellOK, Tr.ht]) | (refine guarded_split ?_ ?_ <;> (intro hg; simp only [hg]; simp [-cellOK, Tr.ht])) | (apply awp_cond_t; focus (simp [-cellOK, Tr.ht]; done)) | (apply awp_cond_f; focus (simp [-cellOK, Tr.ht]; done)) | (refine awp_cond ?_; simp [-cellOK, Tr.ht]; refine ⟨?_, ?_⟩ <;> intro hc) | (refine awp_drawT isCallO mixed (by decide +kernel) ?_; simp [-cellOK, Tr.ht]) | fail)
  | node l k v r =>
    obtain ⟨h, hh⟩ : ∃ h, (Tr.node l k v r).ht = h := ⟨_, rfl⟩
    rw [hh]
    (try (first | (with_reducible refine dops_go ?_; simp [-cellOK, av_node, hh]) | (with_reducible refine OKv_go ?_; simp [-cellOK, av_node, hh]) | (with_reducible refine OKr_go ?_; simp [-cellOK, av_node, hh]))); repeat' (first | refine awp_seq ?_ | refine awp_block ?_ | (refine awp_skip ?_; try simp) | (refine awp_exit ?_; try simp) | (refine awp_ret ?_; try simp) | (refine retP_same (by simp) ?_; simp) | (refine retP_no (by simp) (by simp [noIds]) (by repeat (first | assumption | exact Ext.refl _ | refine ext_new' ?_ | refine Ext.setF ?_ (by first | assumption | (simp [new_nx', St.set, fresh_none]; done) | exact ext_fresh (by assumption)))) ?_; simp [-cellOK, av_node, hh, new_m, set_m, new_nx']) | (refine awp_reg ?_; simp [-cellOK, av_node, hh]) | (refine awp_drawT (fun _ => false) mixed (by decide +kernel) ?_; simp [-cellOK, av_node, hh]) | (refine guarded_split ?_ ?_ <;> (intro hg; simp only [hg]; simp [-cellOK, av_node, hh])) | (apply awp_cond_t; focus (simp [-cellOK, av_node, hh]; done)) | (apply awp_cond_f; focus (simp [-cellOK, av_node, hh]; done)) | (refine awp_cond ?_; simp [-cellOK, av_node, hh]; refine ⟨?_, ?_⟩ <;> intro hc) | (refine awp_drawT isCallO mixed (by decide +kernel) ?_; simp [-cellOK, av_node, hh]) | fail)
theorem size_calls (t : Tr) : PCalls Try.prog 127 [t.av] (.raw (.int .i64 t.sz)) := by
  refine pbody Try.func127 rfl (N := 9) rfl rfl (by simp) (by simp [noIds]) fun σ => ?_
  cases t with
  | nil => (try (first | (with_reducible refine dops_go ?_; simp [-cellOK, Tr.sz]) | (with_reducible refine OKv_go ?_; simp [-cellOK, Tr.sz]) | (with_reducible refine OKr_go ?_; simp [-cellOK, Tr.sz]))); repeat' (first | refine awp_seq ?_ | refine awp_block ?_ | (refine awp_skip ?_; try simp) | (refine awp_exit ?_; try simp) | (refine awp_ret ?_; try simp) | (refine retP_same (by simp) ?_; simp) | (refine retP_no (by simp) (by simp [noIds]) (by repeat (first | assumption | exact Ext.refl _ | refine ext_new' ?_ | refine Ext.setF ?_ (by first | assumption | (simp [new_nx', St.set, fresh_none]; done) | exact ext_fresh (by assumption)))) ?_; simp [-cellOK, Tr.sz, new_m, set_m, new_nx']) | (refine awp_reg ?_; simp [-cellOK, Tr.sz]) | (refine awp_drawT (fun _ => false) mixed (by decide +kernel) ?_; simp [-cellOK, Tr.sz]) | (refine guarded_split ?_ ?_ <;> (intro hg; simp only [hg]; simp [-cellOK, Tr.sz])) | (apply awp_cond_t; focus (simp [-cellOK, Tr.sz]; done)) | (apply awp_cond_f; focus (simp [-cellOK, Tr.sz]; done)) | (refine awp_cond ?_; simp [-cellOK, Tr.sz]; refine ⟨?_, ?_⟩ <;> intro hc) | (refine awp_drawT isCallO mixed (by decide +kernel) ?_; simp [-cellOK, Tr.sz]) | fail)
  | node l k v r =>
    obtain ⟨h, hh⟩ : ∃ h, (Tr.node l k v r).sz = h := ⟨_, rfl⟩
    rw [hh]
    (try (first | (with_reducible refine dops_go ?_; simp [-cellOK, av_node, hh]) | (with_reducible refine OKv_go ?_; simp [-cellOK, av_node, hh]) | (with_reducible refine OKr_go ?_; simp [-cellOK, av_node, hh]))); repeat' (first | refine awp_seq ?_ | refine awp_block ?_ | (refine awp_skip ?_; try simp) | (refine awp_exit ?_; try simp) | (refine awp_ret ?_; try simp) | (refine retP_same (by simp) ?_; simp) | (refine retP_no (by simp) (by simp [noIds]) (by repeat (first | assumption | exact Ext.refl _ | refine ext_new' ?_ | refine Ext.setF ?_ (by first | assumption | (simp [new_nx', St.set, fresh_none]; done) | exact ext_fresh (by assumption)))) ?_; simp [-cellOK, av_node, hh, new_m, set_m, new_nx']) | (refine awp_reg ?_; simp [-cellOK, av_node, hh]) | (refine awp_drawT (fun _ => false) mixed (by decide +kernel) ?_; simp [-cellOK, av_node, hh]) | (refine guarded_split ?_ ?_ <;> (intro hg; simp only [hg]; simp [-cellOK, av_node, hh])) | (apply awp_cond_t; focus (simp [-cellOK, av_node, hh]; done)) | (apply awp_cond_f; focus (simp [-cellOK, av_node, hh]; done)) | (refine awp_cond ?_; simp [-cellOK, av_node, hh]; refine ⟨?_, ?_⟩ <;> intro hc) | (refine awp_drawT isCallO mixed (by decide +kernel) ?_; simp [-cellOK, av_node, hh]) | fail)
@[simp] theorem pr_cells (k v : Int) : (prAV k v).cells = [.raw (.int .u64 k), .raw (.int .i64 v)] := rfl
@[simp] theorem pr_ids (K : Id → Prop) (k v : Int) : (prAV k v).ids K := by simp [prAV]
theorem idsL_map {α : Type} {K : Id → Prop} {f : α → AV} (h : ∀ x, (f x).ids K) : ∀ l : List α, idsL K (l.map f)
  | [] => by simp
  | a :: l => by simp only [List.map_cons, idsL]; exact ⟨h a, idsL_map h l⟩
@[simp] theorem i_ids (K : Id → Prop) (n : Int) : (iAV n).ids K := by simp [iAV]
@[simp] theorem pt_ids (K : Id → Prop) (p : Pt) : (ptAV p).ids K := by simp [ptAV]
@[simp] theorem lk_ids (K : Id → Prop) (p : Lk) : (lkAV p).ids K := by simp [lkAV]
@[simp] theorem rg_ids (K : Id → Prop) (p : Rg) : (rgAV p).ids K := by simp [rgAV]
@[simp] theorem ru_ids (K : Id → Prop) (p : Ru) : (ruAV p).ids K := by simp [ruAV]
@[simp] theorem ints_ids (K : Id → Prop) (l : List Int) (f : Bool) : (intsAV l f).ids K := by simp only [intsAV, AV.ids]; exact idsL_map (i_ids K) l
@[simp] theorem links_ids (K : Id → Prop) (l : List Lk) (f : Bool) : (linksAV l f).ids K := by simp only [linksAV, AV.ids]; exact idsL_map (lk_ids K) l
@[simp] theorem rules_ids (K : Id → Prop) (l : List Ru) (f : Bool) : (rulesAV l f).ids K := by simp only [rulesAV, AV.ids]; exact idsL_map (ru_ids K) l
@[simp] theorem tp_ids (K : Id → Prop) (t : Tp) (f : Fl) : (tpAV t f).ids K := by simp [tpAV]
@[simp] theorem nw_ids (K : Id → Prop) (n : Nw) (f : Fl) : (nwAV n f).ids K := by simp [nwAV]
@[simp] theorem ints_ok (l : List Int) (f : Bool) : cellOK (intsAV l f) = true := rfl
@[simp] theorem links_ok (l : List Lk) (f : Bool) : cellOK (linksAV l f) = true := rfl
@[simp] theorem rules_ok (l : List Ru) (f : Bool) : cellOK (rulesAV l f) = true := rfl
theorem pr_fold (k v : Int) : AV.agg [.raw (.int .u64 k), .raw (.int .i64 v)] = prAV k v := rfl
theorem pr_put (k v : Int) : Av.setPart (prAV 0 0) 0 [.raw (.int .u64 k), .raw (.int .i64 v)] = prAV k v := rfl

theorem made_calls (l : Tr) (k v : Int) (r : Tr) (h : l.sz + r.sz < 2 ^ 60) : PCalls Try.prog 143 [l.av, prAV k v, r.av] (Tr.node l k v r).av := by
  have z1 := l.ht_nn
  have z2 := r.ht_nn
  have z3 := l.sz_nn
  have z4 := r.sz_nn
  have z5 := l.ht_le
  have z6 := r.ht_le
  have e1 : IntKind.i64.wrap (1 + (if l.ht < r.ht then r.ht else l.ht)) = (Tr.node l k v r).ht := by
    rw [wrap64 (by split <;> omega) (by split <;> omega)]; simp only [Tr.ht]; split <;> omega
  have e2 : IntKind.i64.wrap (1 + l.sz) = 1 + l.sz := wrap64 (by omega) (by omega)
  have e3 : IntKind.i64.wrap (1 + l.sz + r.sz) = (Tr.node l k v r).sz := by
    rw [wrap64 (by omega) (by omega)]; rfl
  obtain ⟨H, hH⟩ : ∃ h, (Tr.node l k v r).ht = h := ⟨_, rfl⟩
  obtain ⟨Z, hZ⟩ : ∃ h, (Tr.node l k v r).sz = h := ⟨_, rfl⟩
  have hh1 := high_calls l
  have hh2 := high_calls r
  have hs1 := size_calls l
  have hs2 := size_calls r
  rw [av_node, hH, hZ]
  rw [hH] at e1
  rw [hZ] at e3
  refine pbody Try.func143 rfl (N := 24) rfl rfl (by simp) (by simp [noIds]) fun σ => ?_
  (try (first | (with_reducible refine dops_go ?_; simp [-cellOK, pr_cells, pr_fold, av_setPart, e1, e2, e3]) | (with_reducible refine OKv_go ?_; simp [-cellOK, pr_cells, pr_fold, av_setPart, e1, e2, e3]) | (with_reducible refine OKr_go ?_; simp [-cellOK, pr_cells, pr_fold, av_setPart, e1, e2, e3]))); repeat' (first | refine awp_seq ?_ | refine awp_block ?_ | (refine awp_skip ?_; try simp) | (refine awp_exit ?_; try simp) | (refine awp_ret ?_; try simp) | (refine awp_reg ?_; simp [-cellOK, pr_cells, pr_fold, av_setPart, e1, e2, e3]) | (refine awp_drawT (fun _ => false) mixed (by decide +kernel) ?_; simp [-cellOK, pr_cells, pr_fold, av_setPart, e1, e2, e3]) | (refine guarded_split ?_ ?_ <;> (intro hg; simp only [hg]; simp [-cellOK, pr_cells, pr_fold, av_setPart, e1, e2, e3])) | (apply awp_cond_t; focus (simp [-cellOK, pr_cells, pr_fold, av_setPart, e1, e2, e3]; done)) | (apply awp_cond_f; focus (simp [-cellOK, pr_cells, pr_fold, av_setPart, e1, e2, e3]; done)) | (refine awp_cond ?_; simp [-cellOK, pr_cells, pr_fold, av_setPart, e1, e2, e3]; refine ⟨?_, ?_⟩ <;> intro hc) | (refine awp_drawT isCallO mixed (by decide +kernel) ?_; simp [-cellOK, pr_cells, pr_fold, av_setPart, e1, e2, e3]) | (refine PCalls.use (hh1) ?_; simp [-cellOK, pr_cells, pr_fold, av_setPart, e1, e2, e3]) | (refine Or.inl ⟨_, Or.inl (hh1), ?_⟩; simp [-cellOK, pr_cells, pr_fold, av_setPart, e1, e2, e3]) | (refine PCalls.use (hh2) ?_; simp [-cellOK, pr_cells, pr_fold, av_setPart, e1, e2, e3]) | (refine Or.inl ⟨_, Or.inl (hh2), ?_⟩; simp [-cellOK, pr_cells, pr_fold, av_setPart, e1, e2, e3]) | (refine PCalls.use (hs1) ?_; simp [-cellOK, pr_cells, pr_fold, av_setPart, e1, e2, e3]) | (refine Or.inl ⟨_, Or.inl (hs1), ?_⟩; simp [-cellOK, pr_cells, pr_fold, av_setPart, e1, e2, e3]) | (refine PCalls.use (hs2) ?_; simp [-cellOK, pr_cells, pr_fold, av_setPart, e1, e2, e3]) | (refine Or.inl ⟨_, Or.inl (hs2), ?_⟩; simp [-cellOK, pr_cells, pr_fold, av_setPart, e1, e2, e3]) | fail)
  refine retP_give (x := .rp ⟨23, σ.nx 23, 6⟩ 0 0) (.inr rfl) (by repeat (first | assumption | exact Ext.refl _ | refine ext_new' ?_ | refine Ext.setF ?_ (by first | assumption | (simp [new_nx', St.set, fresh_none]; done) | exact ext_fresh (by assumption)))) ?_ ?_
  · simp [new_nx']
  · simp [giveUps, giveUp, fresh_none, new_m, new_nx']
end Go.Proofs.Ytanimmdlgmkmkaa.Av

/- Trees: the turning of a node; a tree's top, length, values. -/
namespace Go.Proofs.Ytanimmdlgmkmkaa.Av
open Go
set_option linter.unusedSimpArgs false
set_option linter.unusedVariables false
set_option maxRecDepth 100000
set_option maxHeartbeats 4000000
set_option pp.maxSteps 600

theorem even_calls (l : Tr) (k v : Int) (r : Tr) (h : l.sz + r.sz < 2 ^ 50) : PCalls Try.prog 144 [l.av, prAV k v, r.av] (Tr.even l k v r).av := by
  have z1 := l.ht_nn
  have z2 := r.ht_nn
  have z3 := l.sz_nn
  have z4 := r.sz_nn
  have z5 := l.ht_le
  have z6 := r.ht_le
  have w1 : IntKind.i64.wrap (r.ht + 1) = r.ht + 1 := wrap64 (by omega) (by omega)
  have w2 : IntKind.i64.wrap (l.ht + 1) = l.ht + 1 := wrap64 (by omega) (by omega)
  have hl := high_calls l
  have hr := high_calls r
  by_cases h1 : r.ht + 1 < l.ht
  · cases l with
    | nil => simp only [Tr.ht] at h1; omega
    | node ll lk lv lr =>
      have y1 := ll.sz_nn
      have y2 := lr.sz_nn
      have y3 := ll.ht_nn
      have y4 := lr.ht_nn
      have hz : (Tr.node ll lk lv lr).sz = 1 + ll.sz + lr.sz := rfl
      have g1 := high_calls ll
      have g2 := high_calls lr
      rw [av_node] at hl ⊢
      obtain ⟨H, hH⟩ : ∃ H, (Tr.node ll lk lv lr).ht = H := ⟨_, rfl⟩
      obtain ⟨Z, hZ⟩ : ∃ Z, (Tr.node ll lk lv lr).sz = Z := ⟨_, rfl⟩
      by_cases h2 : lr.ht ≤ ll.ht
      · have m1 := made_calls lr k v r (by omega)
        have m2 := made_calls ll lk lv (.node lr k v r) (by simp only [Tr.sz]; omega)
        have e : Tr.even (.node ll lk lv lr) k v r = .node ll lk lv (.node lr k v r) := by simp only [Tr.even, if_pos h1, if_pos h2]
        rw [e]
        rw [hH] at h1 hl w2 ⊢
        rw [hZ] at hl
        refine pbody Try.func144 rfl (N := 139) rfl rfl (by simp) (by simp [noIds]) fun σ => ?_
        rw [hZ]
        generalize Tr.node ll lk lv (.node lr k v r) = T at m2 ⊢
        generalize Tr.node lr k v r = U at m1 m2
        (try (first | (with_reducible refine dops_go ?_; simp [-cellOK, pr_cells, pr_fold, h1, h2, w1, w2]) | (with_reducible refine OKv_go ?_; simp [-cellOK, pr_cells, pr_fold, h1, h2, w1, w2]) | (with_reducible refine OKr_go ?_; simp [-cellOK, pr_cells, pr_fold, h1, h2, w1, w2]))); repeat' (first | refine awp_seq ?_ | refine awp_block ?_ | (refine awp_skip ?_; try simp) | (refine awp_exit ?_; try simp) | (refine awp_ret ?_; try simp) | (refine retP_same (by simp) ?_; simp) | (refine retP_no (by simp) (by simp [noIds]) (by repeat (first | assumption | exact Ext.refl _ | refine ext_new' ?_ | refine Ext.setF ?_ (by first | assumption | (simp [new_nx', St.set, fresh_none]; done) | exact ext_fresh (by assumption)))) ?_; simp [-cellOK, pr_cells, pr_fold, h1, h2, w1, w2, new_m, set_m, new_nx']) | (refine awp_reg ?_; simp [-cellOK, pr_cells, pr_fold, h1, h2, w1, w2]) | (refine awp_drawT (fun _ => false) mixed (by decide +kernel) ?_; simp [-cellOK, pr_cells, pr_fold, h1, h2, w1, w2]) | (refine guarded_split ?_ ?_ <;> (intro hg; simp only [hg]; simp [-cellOK, pr_cells, pr_fold, h1, h2, w1, w2])) | (apply awp_cond_t; focus (simp [-cellOK, pr_cells, pr_fold, h1, h2, w1, w2]; done)) | (apply awp_cond_f; focus (simp [-cellOK, pr_cells, pr_fold, h1, h2, w1, w2]; done)) | (refine awp_cond ?_; simp [-cellOK, pr_cells, pr_fold, h1, h2, w1, w2]; refine ⟨?_, ?_⟩ <;> intro hc) | (refine awp_drawT isCallO mixed (by decide +kernel) ?_; simp [-cellOK, pr_cells, pr_fold, h1, h2, w1, w2]) | (refine PCalls.use (hl) ?_; simp [-cellOK, pr_cells, pr_fold, h1, h2, w1, w2]) | (refine Or.inl ⟨_, Or.inl (hl), ?_⟩; simp [-cellOK, pr_cells, pr_fold, h1, h2, w1, w2]) | (refine PCalls.use (hr) ?_; simp [-cellOK, pr_cells, pr_fold, h1, h2, w1, w2]) | (refine Or.inl ⟨_, Or.inl (hr), ?_⟩; simp [-cellOK, pr_cells, pr_fold, h1, h2, w1, w2]) | (refine PCalls.use (g1) ?_; simp [-cellOK, pr_cells, pr_fold, h1, h2, w1, w2]) | (refine Or.inl ⟨_, Or.inl (g1), ?_⟩; simp [-cellOK, pr_cells, pr_fold, h1, h2, w1, w2]) | (refine PCalls.use (g2) ?_; simp [-cellOK, pr_cells, pr_fold, h1, h2, w1, w2]) | (refine Or.inl ⟨_, Or.inl (g2), ?_⟩; simp [-cellOK, pr_cells, pr_fold, h1, h2, w1, w2]) | (refine PCalls.use (m1) ?_; simp [-cellOK, pr_cells, pr_fold, h1, h2, w1, w2]) | (refine Or.inl ⟨_, Or.inl (m1), ?_⟩; simp [-cellOK, pr_cells, pr_fold, h1, h2, w1, w2]) | (refine PCalls.use (m2) ?_; simp [-cellOK, pr_cells, pr_fold, h1, h2, w1, w2]) | (refine Or.inl ⟨_, Or.inl (m2), ?_⟩; simp [-cellOK, pr_cells, pr_fold, h1, h2, w1, w2]) | fail)
      · cases lr with
        | nil => simp only [Tr.ht] at h2; omega
        | node a mk mv b =>
          have x1 := a.sz_nn
          have x2 := b.sz_nn
          have hz2 : (Tr.node a mk mv b).sz = 1 + a.sz + b.sz := rfl
          have m1 := made_calls ll lk lv a (by omega)
          have m2 := made_calls b k v r (by omega)
          have m3 := made_calls (.node ll lk lv a) mk mv (.node b k v r) (by simp only [Tr.sz]; omega)
          have e : Tr.even (.node ll lk lv (.node a mk mv b)) k v r = .node (.node ll lk lv a) mk mv (.node b k v r) := by simp only [Tr.even, if_pos h1, if_neg h2]
          rw [e]
          have hm := av_node a mk mv b
          obtain ⟨H2, hH2⟩ : ∃ H, (Tr.node a mk mv b).ht = H := ⟨_, rfl⟩
          obtain ⟨Z2, hZ2⟩ : ∃ Z, (Tr.node a mk mv b).sz = Z := ⟨_, rfl⟩
          rw [hH, hZ] at hl ⊢
          rw [hH] at h1 w2
          rw [hH2] at h2
          rw [hH2, hZ2] at hm
          rw [hH2, hm] at g2
          rw [hm] at hl ⊢
          refine pbody Try.func144 rfl (N := 139) rfl rfl (by simp) (by simp [noIds]) fun σ => ?_
          generalize Tr.node (.node ll lk lv a) mk mv (.node b k v r) = T at m3 ⊢
          generalize Tr.node ll lk lv a = U at m1 m3
          generalize Tr.node b k v r = V at m2 m3
          (try (first | (with_reducible refine dops_go ?_; simp [-cellOK, pr_cells, pr_fold, h1, h2, w1, w2]) | (with_reducible refine OKv_go ?_; simp [-cellOK, pr_cells, pr_fold, h1, h2, w1, w2]) | (with_reducible refine OKr_go ?_; simp [-cellOK, pr_cells, pr_fold, h1, h2, w1, w2]))); repeat' (first | refine awp_seq ?_ | refine awp_block ?_ | (refine awp_skip ?_; try simp) | (refine awp_exit ?_; try simp) | (refine awp_ret ?_; try simp) | (refine retP_same (by simp) ?_; simp) | (refine retP_no (by simp) (by simp [noIds]) (by repeat (first | assumption | exact Ext.refl _ | refine ext_new' ?_ | refine Ext.setF ?_ (by first | assumption | (simp [new_nx', St.set, fresh_none]; done) | exact ext_fresh (by assumption)))) ?_; simp [-cellOK, pr_cells, pr_fold, h1, h2, w1, w2, new_m, set_m, new_nx']) | (refine awp_reg ?_; simp [-cellOK, pr_cells, pr_fold, h1, h2, w1, w2]) | (refine awp_drawT (fun _ => false) mixed (by decide +kernel) ?_; simp [-cellOK, pr_cells, pr_fold, h1, h2, w1, w2]) | (refine guarded_split ?_ ?_ <;> (intro hg; simp only [hg]; simp [-cellOK, pr_cells, pr_fold, h1, h2, w1, w2])) | (apply awp_cond_t; focus (simp [-cellOK, pr_cells, pr_fold, h1, h2, w1, w2]; done)) | (apply awp_cond_f; focus (simp [-cellOK, pr_cells, pr_fold, h1, h2, w1, w2]; done)) | (refine awp_cond ?_; simp [-cellOK, pr_cells, pr_fold, h1, h2, w1, w2]; refine ⟨?_, ?_⟩ <;> intro hc) | (refine awp_drawT isCallO mixed (by decide +kernel) ?_; simp [-cellOK, pr_cells, pr_fold, h1, h2, w1, w2]) | (refine PCalls.use (hl) ?_; simp [-cellOK, pr_cells, pr_fold, h1, h2, w1, w2]) | (refine Or.inl ⟨_, Or.inl (hl), ?_⟩; simp [-cellOK, pr_cells, pr_fold, h1, h2, w1, w2]) | (refine PCalls.use (hr) ?_; simp [-cellOK, pr_cells, pr_fold, h1, h2, w1, w2]) | (refine Or.inl ⟨_, Or.inl (hr), ?_⟩; simp [-cellOK, pr_cells, pr_fold, h1, h2, w1, w2]) | (refine PCalls.use (g1) ?_; simp [-cellOK, pr_cells, pr_fold, h1, h2, w1, w2]) | (refine Or.inl ⟨_, Or.inl (g1), ?_⟩; simp [-cellOK, pr_cells, pr_fold, h1, h2, w1, w2]) | (refine PCalls.use (g2) ?_; simp [-cellOK, pr_cells, pr_fold, h1, h2, w1, w2]) | (refine Or.inl ⟨_, Or.inl (g2), ?_⟩; simp [-cellOK, pr_cells, pr_fold, h1, h2, w1, w2]) | (refine PCalls.use (m1) ?_; simp [-cellOK, pr_cells, pr_fold, h1, h2, w1, w2]) | (refine Or.inl ⟨_, Or.inl (m1), ?_⟩; simp [-cellOK, pr_cells, pr_fold, h1, h2, w1, w2]) | (refine PCalls.use (m2) ?_; simp [-cellOK, pr_cells, pr_fold, h1, h2, w1, w2]) | (refine Or.inl ⟨_, Or.inl (m2), ?_⟩; simp [-cellOK, pr_cells, pr_fold, h1, h2, w1, w2]) | (refine PCalls.use (m3) ?_; simp [-cellOK, pr_cells, pr_fold, h1, h2, w1, w2]) | (refine Or.inl ⟨_, Or.inl (m3), ?_⟩; simp [-cellOK, pr_cells, pr_fold, h1, h2, w1, w2]) | fail)
  · by_cases h3 : l.ht + 1 < r.ht
    · cases r with
      | nil => simp only [Tr.ht] at h3; omega
      | node rl rk rv rr =>
        have y1 := rl.sz_nn
        have y2 := rr.sz_nn
        have y3 := rl.ht_nn
        have y4 := rr.ht_nn
        have hz : (Tr.node rl rk rv rr).sz = 1 + rl.sz + rr.sz := rfl
        have g1 := high_calls rl
        have g2 := high_calls rr
        rw [av_node] at hr ⊢
        obtain ⟨H, hH⟩ : ∃ H, (Tr.node rl rk rv rr).ht = H := ⟨_, rfl⟩
        obtain ⟨Z, hZ⟩ : ∃ Z, (Tr.node rl rk rv rr).sz = Z := ⟨_, rfl⟩
        by_cases h2 : rl.ht ≤ rr.ht
        · have m1 := made_calls l k v rl (by omega)
          have m2 := made_calls (.node l k v rl) rk rv rr (by simp only [Tr.sz]; omega)
          have e : Tr.even l k v (.node rl rk rv rr) = .node (.node l k v rl) rk rv rr := by simp only [Tr.even, if_neg h1, if_pos h3, if_pos h2]
          rw [e]
          rw [hH] at h1 h3 w1
          rw [hH, hZ] at hr ⊢
          refine pbody Try.func144 rfl (N := 139) rfl rfl (by simp) (by simp [noIds]) fun σ => ?_
          generalize Tr.node (.node l k v rl) rk rv rr = T at m2 ⊢
          generalize Tr.node l k v rl = U at m1 m2
          (try (first | (with_reducible refine dops_go ?_; simp [-cellOK, pr_cells, pr_fold, h1, h2, h3, w1, w2]) | (with_reducible refine OKv_go ?_; simp [-cellOK, pr_cells, pr_fold, h1, h2, h3, w1, w2]) | (with_reducible refine OKr_go ?_; simp [-cellOK, pr_cells, pr_fold, h1, h2, h3, w1, w2]))); repeat' (first | refine awp_seq ?_ | refine awp_block ?_ | (refine awp_skip ?_; try simp) | (refine awp_exit ?_; try simp) | (refine awp_ret ?_; try simp) | (refine retP_same (by simp) ?_; simp) | (refine retP_no (by simp) (by simp [noIds]) (by repeat (first | assumption | exact Ext.refl _ | refine ext_new' ?_ | refine Ext.setF ?_ (by first | assumption | (simp [new_nx', St.set, fresh_none]; done) | exact ext_fresh (by assumption)))) ?_; simp [-cellOK, pr_cells, pr_fold, h1, h2, h3, w1, w2, new_m, set_m, new_nx']) | (refine awp_reg ?_; simp [-cellOK, pr_cells, pr_fold, h1, h2, h3, w1, w2]) | (refine awp_drawT (fun _ => false) mixed (by decide +kernel) ?_; simp [-cellOK, pr_cells, pr_fold, h1, h2, h3, w1, w2]) | (refine guarded_split ?_ ?_ <;> (intro hg; simp only [hg]; simp [-cellOK, pr_cells, pr_fold, h1, h2, h3, w1, w2])) | (apply awp_cond_t; focus (simp [-cellOK, pr_cells, pr_fold, h1, h2, h3, w1, w2]; done)) | (apply awp_cond_f; focus (simp [-cellOK, pr_cells, pr_fold, h1, h2, h3, w1, w2]; done)) | (refine awp_cond ?_; simp [-cellOK, pr_cells, pr_fold, h1, h2, h3, w1, w2]; refine ⟨?_, ?_⟩ <;> intro hc) | (refine awp_drawT isCallO mixed (by decide +kernel) ?_; simp [-cellOK, pr_cells, pr_fold, h1, h2, h3, w1, w2]) | (refine PCalls.use (hl) ?_; simp [-cellOK, pr_cells, pr_fold, h1, h2, h3, w1, w2]) | (refine Or.inl ⟨_, Or.inl (hl), ?_⟩; simp [-cellOK, pr_cells, pr_fold, h1, h2, h3, w1, w2]) | (refine PCalls.use (hr) ?_; simp [-cellOK, pr_cells, pr_fold, h1, h2, h3, w1, w2]) | (refine Or.inl ⟨_, Or.inl (hr), ?_⟩; simp [-cellOK, pr_cells, pr_fold, h1, h2, h3, w1, w2]) | (refine PCalls.use (g1) ?_; simp [-cellOK, pr_cells, pr_fold, h1, h2, h3, w1, w2]) | (refine Or.inl ⟨_, Or.inl (g1), ?_⟩; simp [-cellOK, pr_cells, pr_fold, h1, h2, h3, w1, w2]) | (refine PCalls.use (g2) ?_; simp [-cellOK, pr_cells, pr_fold, h1, h2, h3, w1, w2]) | (refine Or.inl ⟨_, Or.inl (g2), ?_⟩; simp [-cellOK, pr_cells, pr_fold, h1, h2, h3, w1, w2]) | (refine PCalls.use (m1) ?_; simp [-cellOK, pr_cells, pr_fold, h1, h2, h3, w1, w2]) | (refine Or.inl ⟨_, Or.inl (m1), ?_⟩; simp [-cellOK, pr_cells, pr_fold, h1, h2, h3, w1, w2]) | (refine PCalls.use (m2) ?_; simp [-cellOK, pr_cells, pr_fold, h1, h2, h3, w1, w2]) | (refine Or.inl ⟨_, Or.inl (m2), ?_⟩; simp [-cellOK, pr_cells, pr_fold, h1, h2, h3, w1, w2]) | fail)
        · cases rl with
          | nil => simp only [Tr.ht] at h2; omega
          | node a mk mv b =>
            have x1 := a.sz_nn
            have x2 := b.sz_nn
            have hz2 : (Tr.node a mk mv b).sz = 1 + a.sz + b.sz := rfl
            have m1 := made_calls l k v a (by omega)
            have m2 := made_calls b rk rv rr (by omega)
            have m3 := made_calls (.node l k v a) mk mv (.node b rk rv rr) (by simp only [Tr.sz]; omega)
            have e : Tr.even l k v (.node (.node a mk mv b) rk rv rr) = .node (.node l k v a) mk mv (.node b rk rv rr) := by simp only [Tr.even, if_neg h1, if_pos h3, if_neg h2]
            rw [e]
            have hm := av_node a mk mv b
            obtain ⟨H2, hH2⟩ : ∃ H, (Tr.node a mk mv b).ht = H := ⟨_, rfl⟩
            obtain ⟨Z2, hZ2⟩ : ∃ Z, (Tr.node a mk mv b).sz = Z := ⟨_, rfl⟩
            rw [hH, hZ] at hr ⊢
            rw [hH] at h1 h3 w1
            rw [hH2] at h2
            rw [hH2, hZ2] at hm
            rw [hH2, hm] at g1
            rw [hm] at hr ⊢
            refine pbody Try.func144 rfl (N := 139) rfl rfl (by simp) (by simp [noIds]) fun σ => ?_
            generalize Tr.node (.node l k v a) mk mv (.node b rk rv rr) = T at m3 ⊢
            generalize Tr.node l k v a = U at m1 m3
            generalize Tr.node b rk rv rr = V at m2 m3
            (try (first | (with_reducible refine dops_go ?_; simp [-cellOK, pr_cells, pr_fold, h1, h2, h3, w1, w2]) | (with_reducible refine OKv_go ?_; simp [-cellOK, pr_cells, pr_fold, h1, h2, h3, w1, w2]) | (with_reducible refine OKr_go ?_; simp [-cellOK, pr_cells, pr_fold, h1, h2, h3, w1, w2]))); repeat' (first | refine awp_seq ?_ | refine awp_block ?_ | (refine awp_skip ?_; try simp) | (refine awp_exit ?_; try simp) | (refine awp_ret ?_; try simp) | (refine retP_same (by simp) ?_; simp) | (refine retP_no (by simp) (by simp [noIds]) (by repeat (first | assumption | exact Ext.refl _ | refine ext_new' ?_ | refine Ext.setF ?_ (by first | assumption | (simp [new_nx', St.set, fresh_none]; done) | exact ext_fresh (by assumption)))) ?_; simp [-cellOK, pr_cells, pr_fold, h1, h2, h3, w1, w2, new_m, set_m, new_nx']) | (refine awp_reg ?_; simp [-cellOK, pr_cells, pr_fold, h1, h2, h3, w1, w2]) | (refine awp_drawT (fun _ => false) mixed (by decide +kernel) ?_; simp [-cellOK, pr_cells, pr_fold, h1, h2, h3, w1, w2]) | (refine guarded_split ?_ ?_ <;> (intro hg; simp only [hg]; simp [-cellOK, pr_cells, pr_fold, h1, h2, h3, w1, w2])) | (apply awp_cond_t; focus (simp [-cellOK, pr_cells, pr_fold, h1, h2, h3, w1, w2]; done)) | (apply awp_cond_f; focus (simp [-cellOK, pr_cells, pr_fold, h1, h2, h3, w1, w2]; done)) | (refine awp_cond ?_; simp [-cellOK, pr_cells, pr_fold, h1, h2, h3, w1, w2]; refine ⟨?_, ?_⟩ <;> intro hc) | (refine awp_drawT isCallO mixed (by decide +kernel) ?_; simp [-cellOK, pr_cells, pr_fold, h1, h2, h3, w1, w2]) | (refine PCalls.use (hl) ?_; simp [-cellOK, pr_cells, pr_fold, h1, h2, h3, w1, w2]) | (refine Or.inl ⟨_, Or.inl (hl), ?_⟩; simp [-cellOK, pr_cells, pr_fold, h1, h2, h3, w1, w2]) | (refine PCalls.use (hr) ?_; simp [-cellOK, pr_cells, pr_fold, h1, h2, h3, w1, w2]) | (refine Or.inl ⟨_, Or.inl (hr), ?_⟩; simp [-cellOK, pr_cells, pr_fold, h1, h2, h3, w1, w2]) | (refine PCalls.use (g1) ?_; simp [-cellOK, pr_cells, pr_fold, h1, h2, h3, w1, w2]) | (refine Or.inl ⟨_, Or.inl (g1), ?_⟩; simp [-cellOK, pr_cells, pr_fold, h1, h2, h3, w1, w2]) | (refine PCalls.use (g2) ?_; simp [-cellOK, pr_cells, pr_fold, h1, h2, h3, w1, w2]) | (refine Or.inl ⟨_, Or.inl (g2), ?_⟩; simp [-cellOK, pr_cells, pr_fold, h1, h2, h3, w1, w2]) | (refine PCalls.use (m1) ?_; simp [-cellOK, pr_cells, pr_fold, h1, h2, h3, w1, w2]) | (refine Or.inl ⟨_, Or.inl (m1), ?_⟩; simp [-cellOK, pr_cells, pr_fold, h1, h2, h3, w1, w2]) | (refine PCalls.use (m2) ?_; simp [-cellOK, pr_cells, pr_fold, h1, h2, h3, w1, w2]) | (refine Or.inl ⟨_, Or.inl (m2), ?_⟩; simp [-cellOK, pr_cells, pr_fold, h1, h2, h3, w1, w2]) | (refine PCalls.use (m3) ?_; simp [-cellOK, pr_cells, pr_fold, h1, h2, h3, w1, w2]) | (refine Or.inl ⟨_, Or.inl (m3), ?_⟩; simp [-cellOK, pr_cells, pr_fold, h1, h2, h3, w1, w2]) | fail)
    · have m1 := made_calls l k v r (by omega)
      have e : Tr.even l k v r = .node l k v r := by simp only [Tr.even, if_neg h1, if_neg h3]
      rw [e]
      refine pbody Try.func144 rfl (N := 139) rfl rfl (by simp) (by simp [noIds]) fun σ => ?_
      generalize Tr.node l k v r = T at m1 ⊢
      (try (first | (with_reducible refine dops_go ?_; simp [-cellOK, pr_cells, pr_fold, h1, h3, w1, w2]) | (with_reducible refine OKv_go ?_; simp [-cellOK, pr_cells, pr_fold, h1, h3, w1, w2]) | (with_reducible refine OKr_go ?_; simp [-cellOK, pr_cells, pr_fold, h1, h3, w1, w2]))); repeat' (first | refine awp_seq ?_ | refine awp_block ?_ | (refine awp_skip ?_; try simp) | (refine awp_exit ?_; try simp) | (refine awp_ret ?_; try simp) | (refine retP_same (by simp) ?_; simp) | (refine retP_no (by simp) (by simp [noIds]) (by repeat (first | assumption | exact Ext.refl _ | refine ext_new' ?_ | refine Ext.setF ?_ (by first | assumption | (simp [new_nx', St.set, fresh_none]; done) | exact ext_fresh (by assumption)))) ?_; simp [-cellOK, pr_cells, pr_fold, h1, h3, w1, w2, new_m, set_m, new_nx']) | (refine awp_reg ?_; simp [-cellOK, pr_cells, pr_fold, h1, h3, w1, w2]) | (refine awp_drawT (fun _ => false) mixed (by decide +kernel) ?_; simp [-cellOK, pr_cells, pr_fold, h1, h3, w1, w2]) | (refine guarded_split ?_ ?_ <;> (intro hg; simp only [hg]; simp [-cellOK, pr_cells, pr_fold, h1, h3, w1, w2])) | (apply awp_cond_t; focus (simp [-cellOK, pr_cells, pr_fold, h1, h3, w1, w2]; done)) | (apply awp_cond_f; focus (simp [-cellOK, pr_cells, pr_fold, h1, h3, w1, w2]; done)) | (refine awp_cond ?_; simp [-cellOK, pr_cells, pr_fold, h1, h3, w1, w2]; refine ⟨?_, ?_⟩ <;> intro hc) | (refine awp_drawT isCallO mixed (by decide +kernel) ?_; simp [-cellOK, pr_cells, pr_fold, h1, h3, w1, w2]) | (refine PCalls.use (hl) ?_; simp [-cellOK, pr_cells, pr_fold, h1, h3, w1, w2]) | (refine Or.inl ⟨_, Or.inl (hl), ?_⟩; simp [-cellOK, pr_cells, pr_fold, h1, h3, w1, w2]) | (refine PCalls.use (hr) ?_; simp [-cellOK, pr_cells, pr_fold, h1, h3, w1, w2]) | (refine Or.inl ⟨_, Or.inl (hr), ?_⟩; simp [-cellOK, pr_cells, pr_fold, h1, h3, w1, w2]) | (refine PCalls.use (m1) ?_; simp [-cellOK, pr_cells, pr_fold, h1, h3, w1, w2]) | (refine Or.inl ⟨_, Or.inl (m1), ?_⟩; simp [-cellOK, pr_cells, pr_fold, h1, h3, w1, w2]) | fail)

/-- A tree's pointer. -/
def trP (t : Tr) : AV := .pp [t.av] 0
@[simp] theorem trP_ids (K : Id → Prop) (t : Tr) : (trP t).ids K := by simp [trP, AV.ids]
@[simp] theorem trP_cells (t : Tr) : (trP t).cells = [trP t] := rfl
@[simp] theorem trP_ok (t : Tr) : cellOK (trP t) = true := rfl
@[simp] theorem trP_flat1 (t : Tr) : (trP t).flat1 = true := rfl
@[simp] theorem trP_giveUp (m m' : Mem) (t : Tr) : giveUp m' m (trP t) = trP t := rfl
theorem top_calls (t : Tr) : PCalls Try.prog 122 [trP t] t.av := by
  refine pbody Try.func122 rfl (N := 9) rfl rfl (by simp) (by simp [noIds]) fun σ => ?_
  (try (first | (with_reducible refine dops_go ?_; simp [-cellOK, trP]) | (with_reducible refine OKv_go ?_; simp [-cellOK, trP]) | (with_reducible refine OKr_go ?_; simp [-cellOK, trP]))); repeat' (first | refine awp_seq ?_ | refine awp_block ?_ | (refine awp_skip ?_; try simp) | (refine awp_exit ?_; try simp) | (refine awp_ret ?_; try simp) | (refine retP_same (by simp) ?_; simp) | (refine retP_no (by simp) (by simp [noIds]) (by repeat (first | assumption | exact Ext.refl _ | refine ext_new' ?_ | refine Ext.setF ?_ (by first | assumption | (simp [new_nx', St.set, fresh_none]; done) | exact ext_fresh (by assumption)))) ?_; simp [-cellOK, trP, new_m, set_m, new_nx']) | (refine awp_reg ?_; simp [-cellOK, trP]) | (refine awp_drawT (fun _ => false) mixed (by decide +kernel) ?_; simp [-cellOK, trP]) | (refine guarded_split ?_ ?_ <;> (intro hg; simp only [hg]; simp [-cellOK, trP])) | (apply awp_cond_t; focus (simp [-cellOK, trP]; done)) | (apply awp_cond_f; focus (simp [-cellOK, trP]; done)) | (refine awp_cond ?_; simp [-cellOK, trP]; refine ⟨?_, ?_⟩ <;> intro hc) | (refine awp_drawT isCallO mixed (by decide +kernel) ?_; simp [-cellOK, trP]) | fail)
theorem trLen_calls (t : Tr) : PCalls Try.prog 93 [trP t] (.raw (.int .i64 t.sz)) := by
  refine pbody Try.func93 rfl (N := 6) rfl rfl (by simp) (by simp [noIds]) fun σ => ?_
  (try (first | (with_reducible refine dops_go ?_; simp [-cellOK]) | (with_reducible refine OKv_go ?_; simp [-cellOK]) | (with_reducible refine OKr_go ?_; simp [-cellOK]))); repeat' (first | refine awp_seq ?_ | refine awp_block ?_ | (refine awp_skip ?_; try simp) | (refine awp_exit ?_; try simp) | (refine awp_ret ?_; try simp) | (refine retP_same (by simp) ?_; simp) | (refine retP_no (by simp) (by simp [noIds]) (by repeat (first | assumption | exact Ext.refl _ | refine ext_new' ?_ | refine Ext.setF ?_ (by first | assumption | (simp [new_nx', St.set, fresh_none]; done) | exact ext_fresh (by assumption)))) ?_; simp [-cellOK, new_m, set_m, new_nx']) | (refine awp_reg ?_; simp [-cellOK]) | (refine awp_drawT (fun _ => false) mixed (by decide +kernel) ?_; simp [-cellOK]) | (refine guarded_split ?_ ?_ <;> (intro hg; simp only [hg]; simp [-cellOK])) | (apply awp_cond_t; focus (simp [-cellOK]; done)) | (apply awp_cond_f; focus (simp [-cellOK]; done)) | (refine awp_cond ?_; simp [-cellOK]; refine ⟨?_, ?_⟩ <;> intro hc) | (refine awp_drawT isCallO mixed (by decide +kernel) ?_; simp [-cellOK]) | (refine PCalls.use (top_calls t) ?_; simp [-cellOK]) | (refine Or.inl ⟨_, Or.inl (top_calls t), ?_⟩; simp [-cellOK]) | (refine PCalls.use (size_calls t) ?_; simp [-cellOK]) | (refine Or.inl ⟨_, Or.inl (size_calls t), ?_⟩; simp [-cellOK]) | fail)
theorem trNew_calls : PCalls Try.prog 88 [] (trP .nil) := by
  refine pbody Try.func88 rfl (N := 3) rfl rfl (by simp) (by simp [noIds]) fun σ => ?_
  (try (first | (with_reducible refine dops_go ?_; simp [-cellOK]) | (with_reducible refine OKv_go ?_; simp [-cellOK]) | (with_reducible refine OKr_go ?_; simp [-cellOK]))); repeat' (first | refine awp_seq ?_ | refine awp_block ?_ | (refine awp_skip ?_; try simp) | (refine awp_exit ?_; try simp) | (refine awp_ret ?_; try simp) | (refine awp_reg ?_; simp [-cellOK]) | (refine awp_drawT (fun _ => false) mixed (by decide +kernel) ?_; simp [-cellOK]) | (refine guarded_split ?_ ?_ <;> (intro hg; simp only [hg]; simp [-cellOK])) | (apply awp_cond_t; focus (simp [-cellOK]; done)) | (apply awp_cond_f; focus (simp [-cellOK]; done)) | (refine awp_cond ?_; simp [-cellOK]; refine ⟨?_, ?_⟩ <;> intro hc) | (refine awp_drawT isCallO mixed (by decide +kernel) ?_; simp [-cellOK]) | fail)
  refine retP_give (x := .rp ⟨2, σ.nx 2, 1⟩ 0 0) (.inr rfl) (by repeat (first | assumption | exact Ext.refl _ | refine ext_new' ?_ | refine Ext.setF ?_ (by first | assumption | (simp [new_nx', St.set, fresh_none]; done) | exact ext_fresh (by assumption)))) ?_ ?_
  · simp [new_nx']
  · simp [giveUps, giveUp, fresh_none, new_m, new_nx', trP]
theorem trGet_calls (t : Tr) (k : Int) : PCalls Try.prog 121 [trP t, .raw (.int .u64 k)] (.tup [.raw (.int .i64 ((t.get k).getD 0)), .raw (.bool (t.get k).isSome)]) := by
  refine pbody Try.func121 rfl (N := 42) rfl rfl (by simp) (by simp [noIds]) fun σ => ?_
  obtain ⟨g, hg⟩ : ∃ g, t.get k = g := ⟨_, rfl⟩
  rw [hg]
  (try (first | (with_reducible refine dops_go ?_; simp [-cellOK]) | (with_reducible refine OKv_go ?_; simp [-cellOK]) | (with_reducible refine OKr_go ?_; simp [-cellOK]))); repeat' (first | refine awp_seq ?_ | refine awp_block ?_ | (refine awp_skip ?_; try simp) | (refine awp_exit ?_; try simp) | (refine awp_ret ?_; try simp) | (refine retP_same (by simp) ?_; simp) | (refine retP_no (by simp) (by simp [noIds]) (by repeat (first | assumption | exact Ext.refl _ | refine ext_new' ?_ | refine Ext.setF ?_ (by first | assumption | (simp [new_nx', St.set, fresh_none]; done) | exact ext_fresh (by assumption)))) ?_; simp [-cellOK, new_m, set_m, new_nx']) | (refine awp_reg ?_; simp [-cellOK]) | (refine awp_drawT (fun _ => false) mixed (by decide +kernel) ?_; simp [-cellOK]) | (refine guarded_split ?_ ?_ <;> (intro hg; simp only [hg]; simp [-cellOK])) | (apply awp_cond_t; focus (simp [-cellOK]; done)) | (apply awp_cond_f; focus (simp [-cellOK]; done)) | (refine awp_cond ?_; simp [-cellOK]; refine ⟨?_, ?_⟩ <;> intro hc) | (refine awp_drawT isCallO mixed (by decide +kernel) ?_; simp [-cellOK]) | (refine PCalls.use (top_calls t) ?_; simp [-cellOK]) | (refine Or.inl ⟨_, Or.inl (top_calls t), ?_⟩; simp [-cellOK]) | fail)
  refine awp_loopH (fun n A τ => τ = σ ∧ A 1 = .raw (.int .u64 k) ∧ A 6 = .raw (.int .i64 0) ∧ ∃ u : Tr, A 7 = u.av ∧ n = u.sz.toNat ∧ u.get k = g) t.sz.toNat ?_ ?_
  · exact ⟨rfl, by simp, by simp, t, by simp, rfl, hg⟩
  rintro n A τ ⟨rfl, a1, a6, u, a7, rfl, hu⟩ I1 hI1
  cases u with
  | nil =>
    have : g = none := by rw [← hu]; rfl
    subst this
    (try (first | (with_reducible refine dops_go ?_; simp [-cellOK, a1, a6, a7]) | (with_reducible refine OKv_go ?_; simp [-cellOK, a1, a6, a7]) | (with_reducible refine OKr_go ?_; simp [-cellOK, a1, a6, a7]))); repeat' (first | refine awp_seq ?_ | refine awp_block ?_ | (refine awp_skip ?_; try simp) | (refine awp_exit ?_; try simp) | (refine awp_ret ?_; try simp) | (refine retP_same (by simp) ?_; simp) | (refine retP_no (by simp) (by simp [noIds]) (by repeat (first | assumption | exact Ext.refl _ | refine ext_new' ?_ | refine Ext.setF ?_ (by first | assumption | (simp [new_nx', St.set, fresh_none]; done) | exact ext_fresh (by assumption)))) ?_; simp [-cellOK, a1, a6, a7, new_m, set_m, new_nx']) | (refine awp_reg ?_; simp [-cellOK, a1, a6, a7]) | (refine awp_drawT (fun _ => false) mixed (by decide +kernel) ?_; simp [-cellOK, a1, a6, a7]) | (refine guarded_split ?_ ?_ <;> (intro hg; simp only [hg]; simp [-cellOK, a1, a6, a7])) | (apply awp_cond_t; focus (simp [-cellOK, a1, a6, a7]; done)) | (apply awp_cond_f; focus (simp [-cellOK, a1, a6, a7]; done)) | (refine awp_cond ?_; simp [-cellOK, a1, a6, a7]; refine ⟨?_, ?_⟩ <;> intro hc) | (refine awp_drawT isCallO mixed (by decide +kernel) ?_; simp [-cellOK, a1, a6, a7]) | fail)
  | node l k' v' r =>
    have y1 := l.sz_nn
    have y2 := r.sz_nn
    have hz : (Tr.node l k' v' r).sz = 1 + l.sz + r.sz := rfl
    rw [av_node] at a7
    simp only [Tr.get] at hu
    by_cases h1 : k < k'
    · rw [if_pos h1] at hu
      (try (first | (with_reducible refine dops_go ?_; simp [-cellOK, a1, a6, a7, h1]) | (with_reducible refine OKv_go ?_; simp [-cellOK, a1, a6, a7, h1]) | (with_reducible refine OKr_go ?_; simp [-cellOK, a1, a6, a7, h1]))); repeat' (first | refine awp_seq ?_ | refine awp_block ?_ | (refine awp_skip ?_; try simp) | (refine awp_exit ?_; try simp) | (refine awp_ret ?_; try simp) | (refine retP_same (by simp) ?_; simp) | (refine retP_no (by simp) (by simp [noIds]) (by repeat (first | assumption | exact Ext.refl _ | refine ext_new' ?_ | refine Ext.setF ?_ (by first | assumption | (simp [new_nx', St.set, fresh_none]; done) | exact ext_fresh (by assumption)))) ?_; simp [-cellOK, a1, a6, a7, h1, new_m, set_m, new_nx']) | (refine awp_reg ?_; simp [-cellOK, a1, a6, a7, h1]) | (refine awp_drawT (fun _ => false) mixed (by decide +kernel) ?_; simp [-cellOK, a1, a6, a7, h1]) | (refine guarded_split ?_ ?_ <;> (intro hg; simp only [hg]; simp [-cellOK, a1, a6, a7, h1])) | (apply awp_cond_t; focus (simp [-cellOK, a1, a6, a7, h1]; done)) | (apply awp_cond_f; focus (simp [-cellOK, a1, a6, a7, h1]; done)) | (refine awp_cond ?_; simp [-cellOK, a1, a6, a7, h1]; refine ⟨?_, ?_⟩ <;> intro hc) | (refine awp_drawT isCallO mixed (by decide +kernel) ?_; simp [-cellOK, a1, a6, a7, h1]) | fail)
      exact hI1 _ _ _ (by omega) ⟨rfl, by simp [a1], by simp [a6], l, by simp, rfl, hu⟩
    · rw [if_neg h1] at hu
      by_cases h2 : k' < k
      · rw [if_pos h2] at hu
        (try (first | (with_reducible refine dops_go ?_; simp [-cellOK, a1, a6, a7, h1, h2]) | (with_reducible refine OKv_go ?_; simp [-cellOK, a1, a6, a7, h1, h2]) | (with_reducible refine OKr_go ?_; simp [-cellOK, a1, a6, a7, h1, h2]))); repeat' (first | refine awp_seq ?_ | refine awp_block ?_ | (refine awp_skip ?_; try simp) | (refine awp_exit ?_; try simp) | (refine awp_ret ?_; try simp) | (refine retP_same (by simp) ?_; simp) | (refine retP_no (by simp) (by simp [noIds]) (by repeat (first | assumption | exact Ext.refl _ | refine ext_new' ?_ | refine Ext.setF ?_ (by first | assumption | (simp [new_nx', St.set, fresh_none]; done) | exact ext_fresh (by assumption)))) ?_; simp [-cellOK, a1, a6, a7, h1, h2, new_m, set_m, new_nx']) | (refine awp_reg ?_; simp [-cellOK, a1, a6, a7, h1, h2]) | (refine awp_drawT (fun _ => false) mixed (by decide +kernel) ?_; simp [-cellOK, a1, a6, a7, h1, h2]) | (refine guarded_split ?_ ?_ <;> (intro hg; simp only [hg]; simp [-cellOK, a1, a6, a7, h1, h2])) | (apply awp_cond_t; focus (simp [-cellOK, a1, a6, a7, h1, h2]; done)) | (apply awp_cond_f; focus (simp [-cellOK, a1, a6, a7, h1, h2]; done)) | (refine awp_cond ?_; simp [-cellOK, a1, a6, a7, h1, h2]; refine ⟨?_, ?_⟩ <;> intro hc) | (refine awp_drawT isCallO mixed (by decide +kernel) ?_; simp [-cellOK, a1, a6, a7, h1, h2]) | fail)
        exact hI1 _ _ _ (by omega) ⟨rfl, by simp [a1], by simp [a6], r, by simp, rfl, hu⟩
      · rw [if_neg h2] at hu
        subst hu
        (try (first | (with_reducible refine dops_go ?_; simp [-cellOK, a1, a6, a7, h1, h2]) | (with_reducible refine OKv_go ?_; simp [-cellOK, a1, a6, a7, h1, h2]) | (with_reducible refine OKr_go ?_; simp [-cellOK, a1, a6, a7, h1, h2]))); repeat' (first | refine awp_seq ?_ | refine awp_block ?_ | (refine awp_skip ?_; try simp) | (refine awp_exit ?_; try simp) | (refine awp_ret ?_; try simp) | (refine retP_same (by simp) ?_; simp) | (refine retP_no (by simp) (by simp [noIds]) (by repeat (first | assumption | exact Ext.refl _ | refine ext_new' ?_ | refine Ext.setF ?_ (by first | assumption | (simp [new_nx', St.set, fresh_none]; done) | exact ext_fresh (by assumption)))) ?_; simp [-cellOK, a1, a6, a7, h1, h2, new_m, set_m, new_nx']) | (refine awp_reg ?_; simp [-cellOK, a1, a6, a7, h1, h2]) | (refine awp_drawT (fun _ => false) mixed (by decide +kernel) ?_; simp [-cellOK, a1, a6, a7, h1, h2]) | (refine guarded_split ?_ ?_ <;> (intro hg; simp only [hg]; simp [-cellOK, a1, a6, a7, h1, h2])) | (apply awp_cond_t; focus (simp [-cellOK, a1, a6, a7, h1, h2]; done)) | (apply awp_cond_f; focus (simp [-cellOK, a1, a6, a7, h1, h2]; done)) | (refine awp_cond ?_; simp [-cellOK, a1, a6, a7, h1, h2]; refine ⟨?_, ?_⟩ <;> intro hc) | (refine awp_drawT isCallO mixed (by decide +kernel) ?_; simp [-cellOK, a1, a6, a7, h1, h2]) | fail)
theorem Tr.with_sz (t : Tr) (k v : Int) : (t.with_ k v).sz ≤ t.sz + 1 := by
  induction t with
  | nil => simp [Tr.with_, Tr.sz]
  | node l k' v' r ihl ihr =>
    simp only [Tr.with_]
    split
    · rw [Tr.even_sz]; simp only [Tr.sz]; omega
    · split
      · rw [Tr.even_sz]; simp only [Tr.sz]; omega
      · simp only [Tr.sz]; omega
theorem trWith_calls (k v : Int) : ∀ t : Tr, t.sz < 2 ^ 48 → PCalls Try.prog 123 [t.av, prAV k v] (t.with_ k v).av
  | .nil, _ => by
    have m := made_calls .nil k v .nil (by simp [Tr.sz])
    rw [av_nil] at m
    have e : Tr.with_ .nil k v = .node .nil k v .nil := rfl
    rw [e]
    refine pbody Try.func123 rfl (N := 68) rfl rfl (by simp) (by simp [noIds]) fun σ => ?_
    generalize Tr.node .nil k v .nil = T at m ⊢
    (try (first | (with_reducible refine dops_go ?_; simp [-cellOK, pr_cells, pr_fold]) | (with_reducible refine OKv_go ?_; simp [-cellOK, pr_cells, pr_fold]) | (with_reducible refine OKr_go ?_; simp [-cellOK, pr_cells, pr_fold]))); repeat' (first | refine awp_seq ?_ | refine awp_block ?_ | (refine awp_skip ?_; try simp) | (refine awp_exit ?_; try simp) | (refine awp_ret ?_; try simp) | (refine retP_same (by simp) ?_; simp) | (refine retP_no (by simp) (by simp [noIds]) (by repeat (first | assumption | exact Ext.refl _ | refine ext_new' ?_ | refine Ext.setF ?_ (by first | assumption | (simp [new_nx', St.set, fresh_none]; done) | exact ext_fresh (by assumption)))) ?_; simp [-cellOK, pr_cells, pr_fold, new_m, set_m, new_nx']) | (refine awp_reg ?_; simp [-cellOK, pr_cells, pr_fold]) | (refine awp_drawT (fun _ => false) mixed (by decide +kernel) ?_; simp [-cellOK, pr_cells, pr_fold]) | (refine guarded_split ?_ ?_ <;> (intro hg; simp only [hg]; simp [-cellOK, pr_cells, pr_fold])) | (apply awp_cond_t; focus (simp [-cellOK, pr_cells, pr_fold]; done)) | (apply awp_cond_f; focus (simp [-cellOK, pr_cells, pr_fold]; done)) | (refine awp_cond ?_; simp [-cellOK, pr_cells, pr_fold]; refine ⟨?_, ?_⟩ <;> intro hc) | (refine awp_drawT isCallO mixed (by decide +kernel) ?_; simp [-cellOK, pr_cells, pr_fold]) | (refine PCalls.use (m) ?_; simp [-cellOK, pr_cells, pr_fold]) | (refine Or.inl ⟨_, Or.inl (m), ?_⟩; simp [-cellOK, pr_cells, pr_fold]) | fail)
  | .node l k' v' r, h => by
    have y1 := l.sz_nn
    have y2 := r.sz_nn
    have hz : (Tr.node l k' v' r).sz = 1 + l.sz + r.sz := rfl
    have q1 := l.with_sz k v
    have q2 := r.with_sz k v
    rw [av_node]
    obtain ⟨H, hH⟩ : ∃ H, (Tr.node l k' v' r).ht = H := ⟨_, rfl⟩
    obtain ⟨Z, hZ⟩ : ∃ Z, (Tr.node l k' v' r).sz = Z := ⟨_, rfl⟩
    rw [hH, hZ]
    by_cases h1 : k < k'
    · have e : Tr.with_ (.node l k' v' r) k v = Tr.even (l.with_ k v) k' v' r := by simp only [Tr.with_, if_pos h1]
      have i1 := trWith_calls k v l (by omega)
      have m := even_calls (l.with_ k v) k' v' r (by omega)
      rw [e]
      refine pbody Try.func123 rfl (N := 68) rfl rfl (by simp) (by simp [noIds]) fun σ => ?_
      generalize Tr.even (l.with_ k v) k' v' r = T at m ⊢
      generalize l.with_ k v = U at i1 m
      (try (first | (with_reducible refine dops_go ?_; simp [-cellOK, pr_cells, pr_fold, h1]) | (with_reducible refine OKv_go ?_; simp [-cellOK, pr_cells, pr_fold, h1]) | (with_reducible refine OKr_go ?_; simp [-cellOK, pr_cells, pr_fold, h1]))); repeat' (first | refine awp_seq ?_ | refine awp_block ?_ | (refine awp_skip ?_; try simp) | (refine awp_exit ?_; try simp) | (refine awp_ret ?_; try simp) | (refine retP_same (by simp) ?_; simp) | (refine retP_no (by simp) (by simp [noIds]) (by repeat (first | assumption | exact Ext.refl _ | refine ext_new' ?_ | refine Ext.setF ?_ (by first | assumption | (simp [new_nx', St.set, fresh_none]; done) | exact ext_fresh (by assumption)))) ?_; simp [-cellOK, pr_cells, pr_fold, h1, new_m, set_m, new_nx']) | (refine awp_reg ?_; simp [-cellOK, pr_cells, pr_fold, h1]) | (refine awp_drawT (fun _ => false) mixed (by decide +kernel) ?_; simp [-cellOK, pr_cells, pr_fold, h1]) | (refine guarded_split ?_ ?_ <;> (intro hg; simp only [hg]; simp [-cellOK, pr_cells, pr_fold, h1])) | (apply awp_cond_t; focus (simp [-cellOK, pr_cells, pr_fold, h1]; done)) | (apply awp_cond_f; focus (simp [-cellOK, pr_cells, pr_fold, h1]; done)) | (refine awp_cond ?_; simp [-cellOK, pr_cells, pr_fold, h1]; refine ⟨?_, ?_⟩ <;> intro hc) | (refine awp_drawT isCallO mixed (by decide +kernel) ?_; simp [-cellOK, pr_cells, pr_fold, h1]) | (refine PCalls.use (i1) ?_; simp [-cellOK, pr_cells, pr_fold, h1]) | (refine Or.inl ⟨_, Or.inl (i1), ?_⟩; simp [-cellOK, pr_cells, pr_fold, h1]) | (refine PCalls.use (m) ?_; simp [-cellOK, pr_cells, pr_fold, h1]) | (refine Or.inl ⟨_, Or.inl (m), ?_⟩; simp [-cellOK, pr_cells, pr_fold, h1]) | fail)
    · by_cases h2 : k' < k
      · have e : Tr.with_ (.node l k' v' r) k v = Tr.even l k' v' (r.with_ k v) := by simp only [Tr.with_, if_neg h1, if_pos h2]
        have i1 := trWith_calls k v r (by omega)
        have m := even_calls l k' v' (r.with_ k v) (by omega)
        rw [e]
        refine pbody Try.func123 rfl (N := 68) rfl rfl (by simp) (by simp [noIds]) fun σ => ?_
        generalize Tr.even l k' v' (r.with_ k v) = T at m ⊢
        generalize r.with_ k v = U at i1 m
        (try (first | (with_reducible refine dops_go ?_; simp [-cellOK, pr_cells, pr_fold, h1, h2]) | (with_reducible refine OKv_go ?_; simp [-cellOK, pr_cells, pr_fold, h1, h2]) | (with_reducible refine OKr_go ?_; simp [-cellOK, pr_cells, pr_fold, h1, h2]))); repeat' (first | refine awp_seq ?_ | refine awp_block ?_ | (refine awp_skip ?_; try simp) | (refine awp_exit ?_; try simp) | (refine awp_ret ?_; try simp) | (refine retP_same (by simp) ?_; simp) | (refine retP_no (by simp) (by simp [noIds]) (by repeat (first | assumption | exact Ext.refl _ | refine ext_new' ?_ | refine Ext.setF ?_ (by first | assumption | (simp [new_nx', St.set, fresh_none]; done) | exact ext_fresh (by assumption)))) ?_; simp [-cellOK, pr_cells, pr_fold, h1, h2, new_m, set_m, new_nx']) | (refine awp_reg ?_; simp [-cellOK, pr_cells, pr_fold, h1, h2]) | (refine awp_drawT (fun _ => false) mixed (by decide +kernel) ?_; simp [-cellOK, pr_cells, pr_fold, h1, h2]) | (refine guarded_split ?_ ?_ <;> (intro hg; simp only [hg]; simp [-cellOK, pr_cells, pr_fold, h1, h2])) | (apply awp_cond_t; focus (simp [-cellOK, pr_cells, pr_fold, h1, h2]; done)) | (apply awp_cond_f; focus (simp [-cellOK, pr_cells, pr_fold, h1, h2]; done)) | (refine awp_cond ?_; simp [-cellOK, pr_cells, pr_fold, h1, h2]; refine ⟨?_, ?_⟩ <;> intro hc) | (refine awp_drawT isCallO mixed (by decide +kernel) ?_; simp [-cellOK, pr_cells, pr_fold, h1, h2]) | (refine PCalls.use (i1) ?_; simp [-cellOK, pr_cells, pr_fold, h1, h2]) | (refine Or.inl ⟨_, Or.inl (i1), ?_⟩; simp [-cellOK, pr_cells, pr_fold, h1, h2]) | (refine PCalls.use (m) ?_; simp [-cellOK, pr_cells, pr_fold, h1, h2]) | (refine Or.inl ⟨_, Or.inl (m), ?_⟩; simp [-cellOK, pr_cells, pr_fold, h1, h2]) | fail)
      · have e : Tr.with_ (.node l k' v' r) k v = .node l k v r := by simp only [Tr.with_, if_neg h1, if_neg h2]
        have m := made_calls l k v r (by omega)
        rw [e]
        refine pbody Try.func123 rfl (N := 68) rfl rfl (by simp) (by simp [noIds]) fun σ => ?_
        generalize Tr.node l k v r = T at m ⊢
        (try (first | (with_reducible refine dops_go ?_; simp [-cellOK, pr_cells, pr_fold, h1, h2]) | (with_reducible refine OKv_go ?_; simp [-cellOK, pr_cells, pr_fold, h1, h2]) | (with_reducible refine OKr_go ?_; simp [-cellOK, pr_cells, pr_fold, h1, h2]))); repeat' (first | refine awp_seq ?_ | refine awp_block ?_ | (refine awp_skip ?_; try simp) | (refine awp_exit ?_; try simp) | (refine awp_ret ?_; try simp) | (refine retP_same (by simp) ?_; simp) | (refine retP_no (by simp) (by simp [noIds]) (by repeat (first | assumption | exact Ext.refl _ | refine ext_new' ?_ | refine Ext.setF ?_ (by first | assumption | (simp [new_nx', St.set, fresh_none]; done) | exact ext_fresh (by assumption)))) ?_; simp [-cellOK, pr_cells, pr_fold, h1, h2, new_m, set_m, new_nx']) | (refine awp_reg ?_; simp [-cellOK, pr_cells, pr_fold, h1, h2]) | (refine awp_drawT (fun _ => false) mixed (by decide +kernel) ?_; simp [-cellOK, pr_cells, pr_fold, h1, h2]) | (refine guarded_split ?_ ?_ <;> (intro hg; simp only [hg]; simp [-cellOK, pr_cells, pr_fold, h1, h2])) | (apply awp_cond_t; focus (simp [-cellOK, pr_cells, pr_fold, h1, h2]; done)) | (apply awp_cond_f; focus (simp [-cellOK, pr_cells, pr_fold, h1, h2]; done)) | (refine awp_cond ?_; simp [-cellOK, pr_cells, pr_fold, h1, h2]; refine ⟨?_, ?_⟩ <;> intro hc) | (refine awp_drawT isCallO mixed (by decide +kernel) ?_; simp [-cellOK, pr_cells, pr_fold, h1, h2]) | (refine PCalls.use (m) ?_; simp [-cellOK, pr_cells, pr_fold, h1, h2]) | (refine Or.inl ⟨_, Or.inl (m), ?_⟩; simp [-cellOK, pr_cells, pr_fold, h1, h2]) | fail)
theorem trPut_calls (t : Tr) (k v : Int) (h : t.sz < 2 ^ 48) (hf : t.get k = none → t.sz < 1024) : PCalls Try.prog 89 [trP t, .raw (.int .u64 k), .raw (.int .i64 v)] (.tup [trP (t.with_ k v), .raw (.int .i64 0)]) := by
  have hg := trGet_calls t k
  have hw := trWith_calls k v t h
  generalize t.with_ k v = U at hw ⊢
  refine pbody Try.func89 rfl (N := 31) rfl rfl (by simp) (by simp [noIds]) fun σ => ?_
  cases hq : t.get k with
  | none =>
    have hlt := hf hq
    have hle : ¬ (1024 : Int) ≤ t.sz := by omega
    rw [hq] at hg
    (try (first | (with_reducible refine dops_go ?_; simp [-cellOK, pr_fold, hle]) | (with_reducible refine OKv_go ?_; simp [-cellOK, pr_fold, hle]) | (with_reducible refine OKr_go ?_; simp [-cellOK, pr_fold, hle]))); repeat' (first | refine awp_seq ?_ | refine awp_block ?_ | (refine awp_skip ?_; try simp) | (refine awp_exit ?_; try simp) | (refine awp_ret ?_; try simp) | (refine awp_reg ?_; simp [-cellOK, pr_fold, hle]) | (refine awp_drawT (fun _ => false) mixed (by decide +kernel) ?_; simp [-cellOK, pr_fold, hle]) | (refine guarded_split ?_ ?_ <;> (intro hg; simp only [hg]; simp [-cellOK, pr_fold, hle])) | (apply awp_cond_t; focus (simp [-cellOK, pr_fold, hle]; done)) | (apply awp_cond_f; focus (simp [-cellOK, pr_fold, hle]; done)) | (refine awp_cond ?_; simp [-cellOK, pr_fold, hle]; refine ⟨?_, ?_⟩ <;> intro hc) | (refine awp_drawT isCallO mixed (by decide +kernel) ?_; simp [-cellOK, pr_fold, hle]) | (refine PCalls.use (hg) ?_; simp [-cellOK, pr_fold, hle]) | (refine Or.inl ⟨_, Or.inl (hg), ?_⟩; simp [-cellOK, pr_fold, hle]) | (refine PCalls.use (trLen_calls t) ?_; simp [-cellOK, pr_fold, hle]) | (refine Or.inl ⟨_, Or.inl (trLen_calls t), ?_⟩; simp [-cellOK, pr_fold, hle]) | (refine PCalls.use (top_calls t) ?_; simp [-cellOK, pr_fold, hle]) | (refine Or.inl ⟨_, Or.inl (top_calls t), ?_⟩; simp [-cellOK, pr_fold, hle]) | (refine PCalls.use (hw) ?_; simp [-cellOK, pr_fold, hle]) | (refine Or.inl ⟨_, Or.inl (hw), ?_⟩; simp [-cellOK, pr_fold, hle]) | fail)
    refine retP_give (x := .tup [.rp ⟨30, σ.nx 30, 1⟩ 0 0, .raw (.int .i64 0)]) (.inr rfl) (by repeat (first | assumption | exact Ext.refl _ | refine ext_new' ?_ | refine Ext.setF ?_ (by first | assumption | (simp [new_nx', St.set, fresh_none]; done) | exact ext_fresh (by assumption)))) ?_ ?_
    · simp [new_nx']
    · simp [giveUps, giveUp, fresh_none, new_m, new_nx', trP]
  | some x =>
    rw [hq] at hg
    (try (first | (with_reducible refine dops_go ?_; simp [-cellOK, pr_fold]) | (with_reducible refine OKv_go ?_; simp [-cellOK, pr_fold]) | (with_reducible refine OKr_go ?_; simp [-cellOK, pr_fold]))); repeat' (first | refine awp_seq ?_ | refine awp_block ?_ | (refine awp_skip ?_; try simp) | (refine awp_exit ?_; try simp) | (refine awp_ret ?_; try simp) | (refine awp_reg ?_; simp [-cellOK, pr_fold]) | (refine awp_drawT (fun _ => false) mixed (by decide +kernel) ?_; simp [-cellOK, pr_fold]) | (refine guarded_split ?_ ?_ <;> (intro hg; simp only [hg]; simp [-cellOK, pr_fold])) | (apply awp_cond_t; focus (simp [-cellOK, pr_fold]; done)) | (apply awp_cond_f; focus (simp [-cellOK, pr_fold]; done)) | (refine awp_cond ?_; simp [-cellOK, pr_fold]; refine ⟨?_, ?_⟩ <;> intro hc) | (refine awp_drawT isCallO mixed (by decide +kernel) ?_; simp [-cellOK, pr_fold]) | (refine PCalls.use (hg) ?_; simp [-cellOK, pr_fold]) | (refine Or.inl ⟨_, Or.inl (hg), ?_⟩; simp [-cellOK, pr_fold]) | (refine PCalls.use (trLen_calls t) ?_; simp [-cellOK, pr_fold]) | (refine Or.inl ⟨_, Or.inl (trLen_calls t), ?_⟩; simp [-cellOK, pr_fold]) | (refine PCalls.use (top_calls t) ?_; simp [-cellOK, pr_fold]) | (refine Or.inl ⟨_, Or.inl (top_calls t), ?_⟩; simp [-cellOK, pr_fold]) | (refine PCalls.use (hw) ?_; simp [-cellOK, pr_fold]) | (refine Or.inl ⟨_, Or.inl (hw), ?_⟩; simp [-cellOK, pr_fold]) | fail)
    refine retP_give (x := .tup [.rp ⟨30, σ.nx 30, 1⟩ 0 0, .raw (.int .i64 0)]) (.inr rfl) (by repeat (first | assumption | exact Ext.refl _ | refine ext_new' ?_ | refine Ext.setF ?_ (by first | assumption | (simp [new_nx', St.set, fresh_none]; done) | exact ext_fresh (by assumption)))) ?_ ?_
    · simp [new_nx']
    · simp [giveUps, giveUp, fresh_none, new_m, new_nx', trP]
end Go.Proofs.Ytanimmdlgmkmkaa.Av
