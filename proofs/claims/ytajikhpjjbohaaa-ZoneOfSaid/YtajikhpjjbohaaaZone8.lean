/- The five given statements on zones (ZoneOf, ZoneTells, ZoneBoth, ZoneHas, ZoneLaws) are proved: for every input that the row speaks of, the law returns true and its arguments read as before. No condition is added. Part 8 of 11: AvZJ, AvZK, AvZL, AvZM, AvZN, AvZO, AvZP, AvZQ, AvZR, AvZS, AvP4. -/
import Derived.Test.YtajikhpjjbohaaaZone5
import Derived.Test.YtajikhpjjbohaaaZone6
import Derived.Test.YtajikhpjjbohaaaZone7

/- Sorting, part 13: pdqsort. -/
namespace Go.Proofs.Ytajikhpjjbohaaa.Av
open Go
set_option linter.unusedSimpArgs false
set_option linter.unusedVariables false
set_option maxRecDepth 100000
set_option maxHeartbeats 8000000
set_option pp.maxSteps 600

/-- One object has turned into another; some names more are in use. -/
structure Fr (o : Id) (x : Ob) (σ τ : St) : Prop where
  m : τ.m = (σ.set o x).m
  nx : ∀ s, σ.nx s ≤ τ.nx s
theorem Fr.set (o : Id) (x : Ob) (σ : St) : Fr o x σ (σ.set o x) := ⟨rfl, fun _ => Nat.le_refl _⟩
theorem Fr.refl {o : Id} {x : Ob} {σ : St} (h : σ.m o = some x) : Fr o x σ σ := ⟨by rw [set_same h], fun _ => Nat.le_refl _⟩
theorem Fr.buf {o : Id} {x y : Ob} {σ τ : St} (h : Fr o x σ τ) (hy : σ.m o = some y) : τ.m o = some x := by rw [h.m, set_self, hy]; rfl
theorem Fr.trans {o : Id} {x y : Ob} {σ τ ρ : St} (h : Fr o x σ τ) (k : Fr o y τ ρ) : Fr o y σ ρ := by
  refine ⟨?_, fun s => Nat.le_trans (h.nx s) (k.nx s)⟩
  rw [k.m]
  funext i
  by_cases e : i = o
  · subst e
    rw [set_self, set_self, h.m, set_self]
    cases σ.m i <;> rfl
  · rw [set_other e, h.m, set_other e, set_other e]
theorem Fr.andSet {o : Id} {x y : Ob} {σ τ : St} (h : Fr o x σ τ) : Fr o y σ (τ.set o y) := h.trans (Fr.set o y τ)

def PdqPost (lt : Rg → Rg → Bool) (o : Id) (d : Array Rg) (a b : Nat) (σ : St) (r : AV) (τ : St) : Prop :=
  r = .tup [] ∧ ∃ d', Sort.PermIn a b d d' ∧ Sort.SortedIn lt a b d' ∧ Fr o (bufOf d') σ τ

def PdI (o : Id) (n a b lim : Nat) (g : FuncId) (wb wp : Bool) (A : Env) : Prop :=
  A 0 = .rs o 0 n ∧ A 1 = .raw (.int .i64 a) ∧ A 2 = .raw (.int .i64 b) ∧ A 3 = .raw (.int .i64 lim) ∧ A 4 = .fn (.func g) [] [] ∧ A 10 = .raw (.bool wb) ∧ A 11 = .raw (.bool wp)

/-- What holds of the array in the midst of a round that is at [a', b'). -/
structure Rd (lt : Rg → Rg → Bool) (o : Id) (d : Array Rg) (a b : Nat) (σ : St) (a' b' : Nat) (e : Array Rg) (τ : St) : Prop where
  fr : Fr o (bufOf e) σ τ
  size : e.size = d.size
  below : Sort.Below lt a' b' e
  glue : ∀ R, Sort.PermIn a' b' e R → Sort.SortedIn lt a' b' R → Sort.PermIn a b d R ∧ Sort.SortedIn lt a b R
theorem Rd.perm {lt : Rg → Rg → Bool} {o : Id} {d : Array Rg} {a b : Nat} {σ : St} {a' b' : Nat} {e e1 : Array Rg} {τ τ1 : St} (h : Rd lt o d a b σ a' b' e τ) (hb : b' ≤ d.size) (hp : Sort.PermIn a' b' e e1) (hf : Fr o (bufOf e1) τ τ1) : Rd lt o d a b σ a' b' e1 τ1 :=
  ⟨h.fr.trans hf, by rw [hp.1, h.size], h.below.perm (by rw [h.size]; exact hb) hp, fun R h1 h2 => h.glue R (Sort.permIn_trans _ _ _ _ _ hp h1) h2⟩

theorem pdq_calls {g : FuncId} {c : Rg → Rg → Int} (hcc : Cmp g c) (hS : Sort.SWO (ltOf c)) {o : Id} (hjs : o.sz = 2) : ∀ (n : Nat) (d : Array Rg) (a b limit : Nat) (σ : St), b - a ≤ n → a ≤ b → b ≤ d.size → d.size < 256 → limit < 2 ^ 40 →
    Sort.Below (ltOf c) a b d → σ.m o = some (bufOf d) → ACalls Try.prog 50 [.rs o 0 d.size, .raw (.int .i64 a), .raw (.int .i64 b), .raw (.int .i64 limit), .fn (.func g) [] []] σ (PdqPost (ltOf c) o d a b σ) := by
  intro n
  induction n using Nat.strongRecOn with
  | _ n ih =>
  intro d a b limit σ hn hab hb hsz hlim hB hj
  refine abody Try.func50 rfl (N := 148) rfl rfl (by simp) ?_
  (try (first | (with_reducible refine dops_go ?_; simp) | (with_reducible refine OKv_go ?_; simp) | (with_reducible refine OKr_go ?_; simp))); repeat' (first | refine awp_seq ?_ | refine awp_block ?_ | (refine awp_skip ?_; try simp) | (refine awp_exit ?_; try simp) | (refine awp_ret ?_; try simp) | (refine retP_same (by simp) ?_; simp) | (refine retP_flat (by simp) (by simp) (by simp) ?_; simp) | (refine awp_reg ?_; simp) | (refine awp_drawT (fun _ => false) mixed (by decide +kernel) ?_; simp) | (refine guarded_split ?_ ?_ <;> (intro hg; simp only [hg]; simp)) | (apply awp_cond_t; focus (simp; done)) | (apply awp_cond_f; focus (simp; done)) | (refine awp_cond ?_; simp; refine ⟨?_, ?_⟩ <;> intro hc))
  refine awp_loopH (fun m A τ => ∃ a' b' lim wb wp e, PdI o d.size a' b' lim g wb wp A ∧ m = b' - a' ∧ a ≤ a' ∧ a' ≤ b' ∧ b' ≤ b ∧ lim < 2 ^ 40 ∧ Rd (ltOf c) o d a b σ a' b' e τ) (b - a) ?_ ?_
  · exact ⟨a, b, limit, true, true, d, ⟨by simp, by simp, by simp, by simp, by simp, by simp, by simp⟩, rfl, Nat.le_refl _, hab, Nat.le_refl _, hlim, Fr.refl hj, rfl, hB, fun R h1 h2 => ⟨h1, h2⟩⟩
  rintro m A τ ⟨a', b', lim, wb, wp, e, ⟨a0, a1, a2, a3, a4, a10, a11⟩, rfl, haa, hab', hbb, hlim', hR⟩ I1 hI1
  obtain ⟨hF, hes, hB', hglue⟩ := id hR
  have hte := hF.buf hj
  obtain ⟨l, hl⟩ : ∃ l, b' - a' = l := ⟨_, rfl⟩
  have w1 : IntKind.i64.wrap ((b' : Int) - a') = l := by rw [wrap64 (by omega) (by omega)]; omega
  by_cases h12 : l ≤ 12
  · have h12' : (l : Int) ≤ 12 := by omega
    have ci := insertion_calls hcc hjs (d := e) (a := a') (b := b') hab' (by omega) (by omega) hte
    rw [hes] at ci
    (try (first | (with_reducible refine dops_go ?_; simp [a0, a1, a2, a3, a4, a10, a11, w1, h12']) | (with_reducible refine OKv_go ?_; simp [a0, a1, a2, a3, a4, a10, a11, w1, h12']) | (with_reducible refine OKr_go ?_; simp [a0, a1, a2, a3, a4, a10, a11, w1, h12']))); repeat' (first | refine awp_seq ?_ | refine awp_block ?_ | (refine awp_skip ?_; try simp) | (refine awp_exit ?_; try simp) | (refine awp_ret ?_; try simp) | (refine retP_same (by simp) ?_; simp) | (refine retP_flat (by simp) (by simp) (by simp [a0, a1, a2, a3, a4, a10, a11, w1, h12']) ?_; simp) | (refine awp_reg ?_; simp [a0, a1, a2, a3, a4, a10, a11, w1, h12']) | (refine awp_drawT (fun _ => false) mixed (by decide +kernel) ?_; simp [a0, a1, a2, a3, a4, a10, a11, w1, h12']) | (refine guarded_split ?_ ?_ <;> (intro hg; simp only [hg]; simp [a0, a1, a2, a3, a4, a10, a11, w1, h12'])) | (apply awp_cond_t; focus (simp [a0, a1, a2, a3, a4, a10, a11, w1, h12']; done)) | (apply awp_cond_f; focus (simp [a0, a1, a2, a3, a4, a10, a11, w1, h12']; done)) | (refine awp_cond ?_; simp [a0, a1, a2, a3, a4, a10, a11, w1, h12']; refine ⟨?_, ?_⟩ <;> intro hc))
    refine ci.mono ?_
    rintro _ τ2 ⟨rfl, rfl⟩
    (try (first | (with_reducible refine dops_go ?_; simp) | (with_reducible refine OKv_go ?_; simp) | (with_reducible refine OKr_go ?_; simp))); repeat' (first | refine awp_seq ?_ | refine awp_block ?_ | (refine awp_skip ?_; try simp) | (refine awp_exit ?_; try simp) | (refine awp_ret ?_; try simp) | (refine retP_same (by simp) ?_; simp) | (refine retP_flat (by simp) (by simp) (by simp) ?_; simp) | (refine awp_reg ?_; simp) | (refine awp_drawT (fun _ => false) mixed (by decide +kernel) ?_; simp) | (refine guarded_split ?_ ?_ <;> (intro hg; simp only [hg]; simp)) | (apply awp_cond_t; focus (simp; done)) | (apply awp_cond_f; focus (simp; done)) | (refine awp_cond ?_; simp; refine ⟨?_, ?_⟩ <;> intro hc))
    obtain ⟨p1, p2⟩ := Sort.insertionSort_holds hS e a' b' hab' (by omega)
    obtain ⟨q1, q2⟩ := hglue _ p1 p2
    refine retK_of (x := .tup []) (.inr rfl) (by simp) ⟨rfl, _, q1, q2, hF.andSet⟩
  have h12' : ¬ (l : Int) ≤ 12 := by omega
  by_cases hl0 : lim = 0
  · subst hl0
    have ci := heapSort_calls hcc hjs (d := e) (a := a') (b := b') hab' (by omega) (by omega) hte
    rw [hes] at ci
    (try (first | (with_reducible refine dops_go ?_; simp [a0, a1, a2, a3, a4, a10, a11, w1, h12']) | (with_reducible refine OKv_go ?_; simp [a0, a1, a2, a3, a4, a10, a11, w1, h12']) | (with_reducible refine OKr_go ?_; simp [a0, a1, a2, a3, a4, a10, a11, w1, h12']))); repeat' (first | refine awp_seq ?_ | refine awp_block ?_ | (refine awp_skip ?_; try simp) | (refine awp_exit ?_; try simp) | (refine awp_ret ?_; try simp) | (refine retP_same (by simp) ?_; simp) | (refine retP_flat (by simp) (by simp) (by simp [a0, a1, a2, a3, a4, a10, a11, w1, h12']) ?_; simp) | (refine awp_reg ?_; simp [a0, a1, a2, a3, a4, a10, a11, w1, h12']) | (refine awp_drawT (fun _ => false) mixed (by decide +kernel) ?_; simp [a0, a1, a2, a3, a4, a10, a11, w1, h12']) | (refine guarded_split ?_ ?_ <;> (intro hg; simp only [hg]; simp [a0, a1, a2, a3, a4, a10, a11, w1, h12'])) | (apply awp_cond_t; focus (simp [a0, a1, a2, a3, a4, a10, a11, w1, h12']; done)) | (apply awp_cond_f; focus (simp [a0, a1, a2, a3, a4, a10, a11, w1, h12']; done)) | (refine awp_cond ?_; simp [a0, a1, a2, a3, a4, a10, a11, w1, h12']; refine ⟨?_, ?_⟩ <;> intro hc))
    refine ci.mono ?_
    rintro _ τ2 ⟨rfl, rfl⟩
    (try (first | (with_reducible refine dops_go ?_; simp) | (with_reducible refine OKv_go ?_; simp) | (with_reducible refine OKr_go ?_; simp))); repeat' (first | refine awp_seq ?_ | refine awp_block ?_ | (refine awp_skip ?_; try simp) | (refine awp_exit ?_; try simp) | (refine awp_ret ?_; try simp) | (refine retP_same (by simp) ?_; simp) | (refine retP_flat (by simp) (by simp) (by simp) ?_; simp) | (refine awp_reg ?_; simp) | (refine awp_drawT (fun _ => false) mixed (by decide +kernel) ?_; simp) | (refine guarded_split ?_ ?_ <;> (intro hg; simp only [hg]; simp)) | (apply awp_cond_t; focus (simp; done)) | (apply awp_cond_f; focus (simp; done)) | (refine awp_cond ?_; simp; refine ⟨?_, ?_⟩ <;> intro hc))
    obtain ⟨p1, p2⟩ := Sort.heapSort_holds hS e a' b' hab' (by omega)
    obtain ⟨q1, q2⟩ := hglue _ p1 p2
    refine retK_of (x := .tup []) (.inr rfl) (by simp) ⟨rfl, _, q1, q2, hF.andSet⟩
  have hl0' : ¬ (lim : Int) = 0 := by omega
  (try (first | (with_reducible refine dops_go ?_; simp [a0, a1, a2, a3, a4, a10, a11, w1, h12', hl0', hl0]) | (with_reducible refine OKv_go ?_; simp [a0, a1, a2, a3, a4, a10, a11, w1, h12', hl0', hl0]) | (with_reducible refine OKr_go ?_; simp [a0, a1, a2, a3, a4, a10, a11, w1, h12', hl0', hl0]))); repeat' (first | refine awp_seq ?_ | refine awp_block ?_ | (refine awp_skip ?_; try simp) | (refine awp_exit ?_; try simp) | (refine awp_ret ?_; try simp) | (refine retP_same (by simp) ?_; simp) | (refine retP_flat (by simp) (by simp) (by simp [a0, a1, a2, a3, a4, a10, a11, w1, h12', hl0', hl0]) ?_; simp) | (refine awp_reg ?_; simp [a0, a1, a2, a3, a4, a10, a11, w1, h12', hl0', hl0]) | (refine awp_drawT (fun _ => false) mixed (by decide +kernel) ?_; simp [a0, a1, a2, a3, a4, a10, a11, w1, h12', hl0', hl0]) | (refine guarded_split ?_ ?_ <;> (intro hg; simp only [hg]; simp [a0, a1, a2, a3, a4, a10, a11, w1, h12', hl0', hl0])) | (apply awp_cond_t; focus (simp [a0, a1, a2, a3, a4, a10, a11, w1, h12', hl0', hl0]; done)) | (apply awp_cond_f; focus (simp [a0, a1, a2, a3, a4, a10, a11, w1, h12', hl0', hl0]; done)))
  refine awp_then_cutH (fun A τ => ∃ lim e, lim < 2 ^ 40 ∧ PdI o d.size a' b' lim g wb wp A ∧ A 12 = .raw (.int .i64 l) ∧ Rd (ltOf c) o d a b σ a' b' e τ) ?_ ?_
  · intro R1 hR1
    cases wb with
    | true =>
      (try (first | (with_reducible refine dops_go ?_; simp [a0, a1, a2, a3, a4, a10, a11]) | (with_reducible refine OKv_go ?_; simp [a0, a1, a2, a3, a4, a10, a11]) | (with_reducible refine OKr_go ?_; simp [a0, a1, a2, a3, a4, a10, a11]))); repeat' (first | refine awp_seq ?_ | refine awp_block ?_ | (refine awp_skip ?_; try simp) | (refine awp_exit ?_; try simp) | (refine awp_ret ?_; try simp) | (refine retP_same (by simp) ?_; simp) | (refine retP_flat (by simp) (by simp) (by simp [a0, a1, a2, a3, a4, a10, a11]) ?_; simp) | (refine awp_reg ?_; simp [a0, a1, a2, a3, a4, a10, a11]) | (refine awp_drawT (fun _ => false) mixed (by decide +kernel) ?_; simp [a0, a1, a2, a3, a4, a10, a11]) | (refine guarded_split ?_ ?_ <;> (intro hg; simp only [hg]; simp [a0, a1, a2, a3, a4, a10, a11])) | (apply awp_cond_t; focus (simp [a0, a1, a2, a3, a4, a10, a11]; done)) | (apply awp_cond_f; focus (simp [a0, a1, a2, a3, a4, a10, a11]; done)) | (refine awp_cond ?_; simp [a0, a1, a2, a3, a4, a10, a11]; refine ⟨?_, ?_⟩ <;> intro hc))
      exact hR1 _ _ ⟨lim, e, hlim', ⟨by simp [a0], by simp [a1], by simp [a2], by simp [a3], by simp [a4], by simp [a10], by simp [a11]⟩, by simp, hR⟩
    | false =>
      have cb := break_calls (g := g) hjs (d := e) (a := a') (b := b') (by omega) (by omega) (by omega) hte
      rw [hes] at cb
      have wl : IntKind.i64.wrap ((lim : Int) - 1) = ((lim - 1 : Nat) : Int) := by rw [wrap64 (by omega) (by omega)]; omega
      generalize hlm : ((lim - 1 : Nat) : Int) = lm at *
      (try (first | (with_reducible refine dops_go ?_; simp [a0, a1, a2, a3, a4, a10, a11]) | (with_reducible refine OKv_go ?_; simp [a0, a1, a2, a3, a4, a10, a11]) | (with_reducible refine OKr_go ?_; simp [a0, a1, a2, a3, a4, a10, a11]))); repeat' (first | refine awp_seq ?_ | refine awp_block ?_ | (refine awp_skip ?_; try simp) | (refine awp_exit ?_; try simp) | (refine awp_ret ?_; try simp) | (refine retP_same (by simp) ?_; simp) | (refine retP_flat (by simp) (by simp) (by simp [a0, a1, a2, a3, a4, a10, a11]) ?_; simp) | (refine awp_reg ?_; simp [a0, a1, a2, a3, a4, a10, a11]) | (refine awp_drawT (fun _ => false) mixed (by decide +kernel) ?_; simp [a0, a1, a2, a3, a4, a10, a11]) | (refine guarded_split ?_ ?_ <;> (intro hg; simp only [hg]; simp [a0, a1, a2, a3, a4, a10, a11])) | (apply awp_cond_t; focus (simp [a0, a1, a2, a3, a4, a10, a11]; done)) | (apply awp_cond_f; focus (simp [a0, a1, a2, a3, a4, a10, a11]; done)) | (refine awp_cond ?_; simp [a0, a1, a2, a3, a4, a10, a11]; refine ⟨?_, ?_⟩ <;> intro hc))
      refine cb.mono ?_
      rintro _ τ2 ⟨rfl, q1, q2⟩
      (try (first | (with_reducible refine dops_go ?_; simp [a0, a1, a2, a3, a4, a10, a11, wl]) | (with_reducible refine OKv_go ?_; simp [a0, a1, a2, a3, a4, a10, a11, wl]) | (with_reducible refine OKr_go ?_; simp [a0, a1, a2, a3, a4, a10, a11, wl]))); repeat' (first | refine awp_seq ?_ | refine awp_block ?_ | (refine awp_skip ?_; try simp) | (refine awp_exit ?_; try simp) | (refine awp_ret ?_; try simp) | (refine retP_same (by simp) ?_; simp) | (refine retP_flat (by simp) (by simp) (by simp [a0, a1, a2, a3, a4, a10, a11, wl]) ?_; simp) | (refine awp_reg ?_; simp [a0, a1, a2, a3, a4, a10, a11, wl]) | (refine awp_drawT (fun _ => false) mixed (by decide +kernel) ?_; simp [a0, a1, a2, a3, a4, a10, a11, wl]) | (refine guarded_split ?_ ?_ <;> (intro hg; simp only [hg]; simp [a0, a1, a2, a3, a4, a10, a11, wl])) | (apply awp_cond_t; focus (simp [a0, a1, a2, a3, a4, a10, a11, wl]; done)) | (apply awp_cond_f; focus (simp [a0, a1, a2, a3, a4, a10, a11, wl]; done)) | (refine awp_cond ?_; simp [a0, a1, a2, a3, a4, a10, a11, wl]; refine ⟨?_, ?_⟩ <;> intro hc))
      exact hR1 _ _ ⟨lim - 1, _, by omega, ⟨by simp [a0], by simp [a1], by simp [a2], by simp [hlm], by simp [a4], by simp [a10], by simp [a11]⟩, by simp, hR.perm (by omega) (Sort.breakPatterns_holds e a' b' hab' (by omega)) ⟨q1, q2⟩⟩
  clear hF hte hes hB' hglue hR a0 a1 a2 a3 a4 a10 a11 hl0 hl0' hlim'
  rintro A τ ⟨lim, e, hlim', ⟨a0, a1, a2, a3, a4, a10, a11⟩, a12, hR⟩
  obtain ⟨hF, hes, hB', hglue⟩ := id hR
  have hte := hF.buf hj
  have cc := choosePivot_calls hcc hjs (d := e) (a := a') (b := b') (by omega) (by omega) (by omega) hte
  have hpr := Sort.choosePivot_holds (ltOf c) e a' b' (by omega)
  obtain ⟨pv, hint, hcp⟩ : ∃ pv hint, Sort.choosePivot (ltOf c) e a' b' = (pv, hint) := ⟨_, _, rfl⟩
  rw [hcp, hes] at cc
  rw [hcp] at hpr
  simp only [] at cc hpr
  (try (first | (with_reducible refine dops_go ?_; simp [a0, a1, a2, a3, a4, a10, a11, a12]) | (with_reducible refine OKv_go ?_; simp [a0, a1, a2, a3, a4, a10, a11, a12]) | (with_reducible refine OKr_go ?_; simp [a0, a1, a2, a3, a4, a10, a11, a12]))); repeat' (first | refine awp_seq ?_ | refine awp_block ?_ | (refine awp_skip ?_; try simp) | (refine awp_exit ?_; try simp) | (refine awp_ret ?_; try simp) | (refine retP_same (by simp) ?_; simp) | (refine retP_flat (by simp) (by simp) (by simp [a0, a1, a2, a3, a4, a10, a11, a12]) ?_; simp) | (refine awp_reg ?_; simp [a0, a1, a2, a3, a4, a10, a11, a12]) | (refine awp_drawT (fun _ => false) mixed (by decide +kernel) ?_; simp [a0, a1, a2, a3, a4, a10, a11, a12]) | (refine guarded_split ?_ ?_ <;> (intro hg; simp only [hg]; simp [a0, a1, a2, a3, a4, a10, a11, a12])) | (apply awp_cond_t; focus (simp [a0, a1, a2, a3, a4, a10, a11, a12]; done)) | (apply awp_cond_f; focus (simp [a0, a1, a2, a3, a4, a10, a11, a12]; done)))
  refine cc.mono ?_
  rintro _ τ2 ⟨rfl, q1, q2⟩
  have hR := hR.perm (by omega) (Sort.permIn_refl e a' b') ⟨by rw [q1, set_same hte], q2⟩
  have hte := hR.fr.buf hj
  (try (first | (with_reducible refine dops_go ?_; simp [a0, a1, a2, a3, a4, a10, a11, a12]) | (with_reducible refine OKv_go ?_; simp [a0, a1, a2, a3, a4, a10, a11, a12]) | (with_reducible refine OKr_go ?_; simp [a0, a1, a2, a3, a4, a10, a11, a12]))); repeat' (first | refine awp_seq ?_ | refine awp_block ?_ | (refine awp_skip ?_; try simp) | (refine awp_exit ?_; try simp) | (refine awp_ret ?_; try simp) | (refine retP_same (by simp) ?_; simp) | (refine retP_flat (by simp) (by simp) (by simp [a0, a1, a2, a3, a4, a10, a11, a12]) ?_; simp) | (refine awp_reg ?_; simp [a0, a1, a2, a3, a4, a10, a11, a12]) | (refine awp_drawT (fun _ => false) mixed (by decide +kernel) ?_; simp [a0, a1, a2, a3, a4, a10, a11, a12]) | (refine guarded_split ?_ ?_ <;> (intro hg; simp only [hg]; simp [a0, a1, a2, a3, a4, a10, a11, a12])) | (apply awp_cond_t; focus (simp [a0, a1, a2, a3, a4, a10, a11, a12]; done)) | (apply awp_cond_f; focus (simp [a0, a1, a2, a3, a4, a10, a11, a12]; done)))
  refine awp_then_cutH (fun A τ => ∃ pv hi e, a' ≤ pv ∧ pv < b' ∧ PdI o d.size a' b' lim g wb wp A ∧ A 12 = .raw (.int .i64 l) ∧ A 13 = .raw (.int .i64 (pv : Nat)) ∧ A 14 = .raw (.int .i64 hi) ∧ Rd (ltOf c) o d a b σ a' b' e τ) ?_ ?_
  · intro R1 hR1
    by_cases hdec : hint = .decreasing
    · subst hdec
      have cr := reverse_calls (g := g) hjs (d := e) (a := a') (b := b') (by omega) (by omega) (by omega) hte
      rw [hes] at cr
      have v1 : IntKind.i64.wrap ((b' : Int) - 1) = ((b' - 1 : Nat) : Int) := by rw [wrap64 (by omega) (by omega)]; omega
      have v2 : IntKind.i64.wrap ((pv : Int) - a') = ((pv - a' : Nat) : Int) := by rw [wrap64 (by omega) (by omega)]; omega
      have v3 : IntKind.i64.wrap (((b' - 1 : Nat) : Int) - ((pv - a' : Nat) : Int)) = ((b' - 1 - (pv - a') : Nat) : Int) := by rw [wrap64 (by omega) (by omega)]; omega
      generalize ((b' - 1 : Nat) : Int) = y1 at *
      generalize ((pv - a' : Nat) : Int) = y2 at *
      generalize hy3 : ((b' - 1 - (pv - a') : Nat) : Int) = y3 at *
      (try (first | (with_reducible refine dops_go ?_; simp [a0, a1, a2, a3, a4, a10, a11, a12, hintI]) | (with_reducible refine OKv_go ?_; simp [a0, a1, a2, a3, a4, a10, a11, a12, hintI]) | (with_reducible refine OKr_go ?_; simp [a0, a1, a2, a3, a4, a10, a11, a12, hintI]))); repeat' (first | refine awp_seq ?_ | refine awp_block ?_ | (refine awp_skip ?_; try simp) | (refine awp_exit ?_; try simp) | (refine awp_ret ?_; try simp) | (refine retP_same (by simp) ?_; simp) | (refine retP_flat (by simp) (by simp) (by simp [a0, a1, a2, a3, a4, a10, a11, a12, hintI]) ?_; simp) | (refine awp_reg ?_; simp [a0, a1, a2, a3, a4, a10, a11, a12, hintI]) | (refine awp_drawT (fun _ => false) mixed (by decide +kernel) ?_; simp [a0, a1, a2, a3, a4, a10, a11, a12, hintI]) | (refine guarded_split ?_ ?_ <;> (intro hg; simp only [hg]; simp [a0, a1, a2, a3, a4, a10, a11, a12, hintI])) | (apply awp_cond_t; focus (simp [a0, a1, a2, a3, a4, a10, a11, a12, hintI]; done)) | (apply awp_cond_f; focus (simp [a0, a1, a2, a3, a4, a10, a11, a12, hintI]; done)) | (refine awp_cond ?_; simp [a0, a1, a2, a3, a4, a10, a11, a12, hintI]; refine ⟨?_, ?_⟩ <;> intro hc))
      refine cr.mono ?_
      rintro _ τ3 ⟨rfl, rfl⟩
      (try (first | (with_reducible refine dops_go ?_; simp [a0, a1, a2, a3, a4, a10, a11, a12, hintI, v1, v2, v3]) | (with_reducible refine OKv_go ?_; simp [a0, a1, a2, a3, a4, a10, a11, a12, hintI, v1, v2, v3]) | (with_reducible refine OKr_go ?_; simp [a0, a1, a2, a3, a4, a10, a11, a12, hintI, v1, v2, v3]))); repeat' (first | refine awp_seq ?_ | refine awp_block ?_ | (refine awp_skip ?_; try simp) | (refine awp_exit ?_; try simp) | (refine awp_ret ?_; try simp) | (refine retP_same (by simp) ?_; simp) | (refine retP_flat (by simp) (by simp) (by simp [a0, a1, a2, a3, a4, a10, a11, a12, hintI, v1, v2, v3]) ?_; simp) | (refine awp_reg ?_; simp [a0, a1, a2, a3, a4, a10, a11, a12, hintI, v1, v2, v3]) | (refine awp_drawT (fun _ => false) mixed (by decide +kernel) ?_; simp [a0, a1, a2, a3, a4, a10, a11, a12, hintI, v1, v2, v3]) | (refine guarded_split ?_ ?_ <;> (intro hg; simp only [hg]; simp [a0, a1, a2, a3, a4, a10, a11, a12, hintI, v1, v2, v3])) | (apply awp_cond_t; focus (simp [a0, a1, a2, a3, a4, a10, a11, a12, hintI, v1, v2, v3]; done)) | (apply awp_cond_f; focus (simp [a0, a1, a2, a3, a4, a10, a11, a12, hintI, v1, v2, v3]; done)) | (refine awp_cond ?_; simp [a0, a1, a2, a3, a4, a10, a11, a12, hintI, v1, v2, v3]; refine ⟨?_, ?_⟩ <;> intro hc))
      exact hR1 _ _ ⟨b' - 1 - (pv - a'), _, _, by omega, by omega, ⟨by simp [a0], by simp [a1], by simp [a2], by simp [a3], by simp [a4], by simp [a10], by simp [a11]⟩, by simp [a12], by simp [hy3], by simp; rfl, hR.perm (by omega) (Sort.reverseRange_holds e a' b' hab' (by omega)) (Fr.set _ _ _)⟩
    · have hd' : ¬ hintI hint = 2 := by cases hint <;> simp [hintI] at hdec ⊢
      (try (first | (with_reducible refine dops_go ?_; simp [a0, a1, a2, a3, a4, a10, a11, a12, hd']) | (with_reducible refine OKv_go ?_; simp [a0, a1, a2, a3, a4, a10, a11, a12, hd']) | (with_reducible refine OKr_go ?_; simp [a0, a1, a2, a3, a4, a10, a11, a12, hd']))); repeat' (first | refine awp_seq ?_ | refine awp_block ?_ | (refine awp_skip ?_; try simp) | (refine awp_exit ?_; try simp) | (refine awp_ret ?_; try simp) | (refine retP_same (by simp) ?_; simp) | (refine retP_flat (by simp) (by simp) (by simp [a0, a1, a2, a3, a4, a10, a11, a12, hd']) ?_; simp) | (refine awp_reg ?_; simp [a0, a1, a2, a3, a4, a10, a11, a12, hd']) | (refine awp_drawT (fun _ => false) mixed (by decide +kernel) ?_; simp [a0, a1, a2, a3, a4, a10, a11, a12, hd']) | (refine guarded_split ?_ ?_ <;> (intro hg; simp only [hg]; simp [a0, a1, a2, a3, a4, a10, a11, a12, hd'])) | (apply awp_cond_t; focus (simp [a0, a1, a2, a3, a4, a10, a11, a12, hd']; done)) | (apply awp_cond_f; focus (simp [a0, a1, a2, a3, a4, a10, a11, a12, hd']; done)) | (refine awp_cond ?_; simp [a0, a1, a2, a3, a4, a10, a11, a12, hd']; refine ⟨?_, ?_⟩ <;> intro hc))
      exact hR1 _ _ ⟨pv, _, _, hpr.1, hpr.2, ⟨by simp [a0], by simp [a1], by simp [a2], by simp [a3], by simp [a4], by simp [a10], by simp [a11]⟩, by simp [a12], by simp, by simp; rfl, hR⟩
  clear hF hte hes hB' hglue hR a0 a1 a2 a3 a4 a10 a11 a12 cc q1 q2 hcp hpr
  clear pv hint
  rintro A τ ⟨pv, hi, e, hap, hpb, ⟨a0, a1, a2, a3, a4, a10, a11⟩, a12, a13, a14, hR⟩
  obtain ⟨hF, hes, hB', hglue⟩ := id hR
  have hte := hF.buf hj
  have ci := partialIns_calls hcc hjs (d := e) (a := a') (b := b') (by omega) (by omega) (by omega) hte
  rw [hes] at ci
  have hpi := Sort.partialInsertionSort_holds hS e a' b' (by omega) (by omega) hB'
  obtain ⟨e2, ok, hpe⟩ : ∃ e2 ok, Sort.partialInsertionSort (ltOf c) e a' b' = (e2, ok) := ⟨_, _, rfl⟩
  rw [hpe] at ci hpi
  simp only [] at ci hpi
  refine awp_seq ?_
  refine awp_then_cutH (fun A τ => ∃ e, PdI o d.size a' b' lim g wb wp A ∧ A 12 = .raw (.int .i64 l) ∧ A 13 = .raw (.int .i64 (pv : Nat)) ∧ Rd (ltOf c) o d a b σ a' b' e τ) ?_ ?_
  · intro R1 hR1
    cases wb with
    | false =>
      (try (first | (with_reducible refine dops_go ?_; simp [a0, a1, a2, a3, a4, a10, a11, a12, a13, a14]) | (with_reducible refine OKv_go ?_; simp [a0, a1, a2, a3, a4, a10, a11, a12, a13, a14]) | (with_reducible refine OKr_go ?_; simp [a0, a1, a2, a3, a4, a10, a11, a12, a13, a14]))); repeat' (first | refine awp_seq ?_ | refine awp_block ?_ | (refine awp_skip ?_; try simp) | (refine awp_exit ?_; try simp) | (refine awp_ret ?_; try simp) | (refine retP_same (by simp) ?_; simp) | (refine retP_flat (by simp) (by simp) (by simp [a0, a1, a2, a3, a4, a10, a11, a12, a13, a14]) ?_; simp) | (refine awp_reg ?_; simp [a0, a1, a2, a3, a4, a10, a11, a12, a13, a14]) | (refine awp_drawT (fun _ => false) mixed (by decide +kernel) ?_; simp [a0, a1, a2, a3, a4, a10, a11, a12, a13, a14]) | (refine guarded_split ?_ ?_ <;> (intro hg; simp only [hg]; simp [a0, a1, a2, a3, a4, a10, a11, a12, a13, a14])) | (apply awp_cond_t; focus (simp [a0, a1, a2, a3, a4, a10, a11, a12, a13, a14]; done)) | (apply awp_cond_f; focus (simp [a0, a1, a2, a3, a4, a10, a11, a12, a13, a14]; done)) | (refine awp_cond ?_; simp [a0, a1, a2, a3, a4, a10, a11, a12, a13, a14]; refine ⟨?_, ?_⟩ <;> intro hc))
      exact hR1 _ _ ⟨e, ⟨by simp [a0], by simp [a1], by simp [a2], by simp [a3], by simp [a4], by simp [a10], by simp [a11]⟩, by simp [a12], by simp [a13], hR⟩
    | true =>
      cases wp with
      | false =>
        (try (first | (with_reducible refine dops_go ?_; simp [a0, a1, a2, a3, a4, a10, a11, a12, a13, a14]) | (with_reducible refine OKv_go ?_; simp [a0, a1, a2, a3, a4, a10, a11, a12, a13, a14]) | (with_reducible refine OKr_go ?_; simp [a0, a1, a2, a3, a4, a10, a11, a12, a13, a14]))); repeat' (first | refine awp_seq ?_ | refine awp_block ?_ | (refine awp_skip ?_; try simp) | (refine awp_exit ?_; try simp) | (refine awp_ret ?_; try simp) | (refine retP_same (by simp) ?_; simp) | (refine retP_flat (by simp) (by simp) (by simp [a0, a1, a2, a3, a4, a10, a11, a12, a13, a14]) ?_; simp) | (refine awp_reg ?_; simp [a0, a1, a2, a3, a4, a10, a11, a12, a13, a14]) | (refine awp_drawT (fun _ => false) mixed (by decide +kernel) ?_; simp [a0, a1, a2, a3, a4, a10, a11, a12, a13, a14]) | (refine guarded_split ?_ ?_ <;> (intro hg; simp only [hg]; simp [a0, a1, a2, a3, a4, a10, a11, a12, a13, a14])) | (apply awp_cond_t; focus (simp [a0, a1, a2, a3, a4, a10, a11, a12, a13, a14]; done)) | (apply awp_cond_f; focus (simp [a0, a1, a2, a3, a4, a10, a11, a12, a13, a14]; done)) | (refine awp_cond ?_; simp [a0, a1, a2, a3, a4, a10, a11, a12, a13, a14]; refine ⟨?_, ?_⟩ <;> intro hc))
        exact hR1 _ _ ⟨e, ⟨by simp [a0], by simp [a1], by simp [a2], by simp [a3], by simp [a4], by simp [a10], by simp [a11]⟩, by simp [a12], by simp [a13], hR⟩
      | true =>
        by_cases h1 : hi = 1
        · (try (first | (with_reducible refine dops_go ?_; simp [a0, a1, a2, a3, a4, a10, a11, a12, a13, a14, h1]) | (with_reducible refine OKv_go ?_; simp [a0, a1, a2, a3, a4, a10, a11, a12, a13, a14, h1]) | (with_reducible refine OKr_go ?_; simp [a0, a1, a2, a3, a4, a10, a11, a12, a13, a14, h1]))); repeat' (first | refine awp_seq ?_ | refine awp_block ?_ | (refine awp_skip ?_; try simp) | (refine awp_exit ?_; try simp) | (refine awp_ret ?_; try simp) | (refine retP_same (by simp) ?_; simp) | (refine retP_flat (by simp) (by simp) (by simp [a0, a1, a2, a3, a4, a10, a11, a12, a13, a14, h1]) ?_; simp) | (refine awp_reg ?_; simp [a0, a1, a2, a3, a4, a10, a11, a12, a13, a14, h1]) | (refine awp_drawT (fun _ => false) mixed (by decide +kernel) ?_; simp [a0, a1, a2, a3, a4, a10, a11, a12, a13, a14, h1]) | (refine guarded_split ?_ ?_ <;> (intro hg; simp only [hg]; simp [a0, a1, a2, a3, a4, a10, a11, a12, a13, a14, h1])) | (apply awp_cond_t; focus (simp [a0, a1, a2, a3, a4, a10, a11, a12, a13, a14, h1]; done)) | (apply awp_cond_f; focus (simp [a0, a1, a2, a3, a4, a10, a11, a12, a13, a14, h1]; done)) | (refine awp_cond ?_; simp [a0, a1, a2, a3, a4, a10, a11, a12, a13, a14, h1]; refine ⟨?_, ?_⟩ <;> intro hc))
          refine ci.mono ?_
          rintro _ τ2 ⟨rfl, rfl⟩
          cases ok with
          | true =>
            (try (first | (with_reducible refine dops_go ?_; simp [a0, a1, a2, a3, a4, a10, a11, a12, a13, a14, h1]) | (with_reducible refine OKv_go ?_; simp [a0, a1, a2, a3, a4, a10, a11, a12, a13, a14, h1]) | (with_reducible refine OKr_go ?_; simp [a0, a1, a2, a3, a4, a10, a11, a12, a13, a14, h1]))); repeat' (first | refine awp_seq ?_ | refine awp_block ?_ | (refine awp_skip ?_; try simp) | (refine awp_exit ?_; try simp) | (refine awp_ret ?_; try simp) | (refine retP_same (by simp) ?_; simp) | (refine retP_flat (by simp) (by simp) (by simp [a0, a1, a2, a3, a4, a10, a11, a12, a13, a14, h1]) ?_; simp) | (refine awp_reg ?_; simp [a0, a1, a2, a3, a4, a10, a11, a12, a13, a14, h1]) | (refine awp_drawT (fun _ => false) mixed (by decide +kernel) ?_; simp [a0, a1, a2, a3, a4, a10, a11, a12, a13, a14, h1]) | (refine guarded_split ?_ ?_ <;> (intro hg; simp only [hg]; simp [a0, a1, a2, a3, a4, a10, a11, a12, a13, a14, h1])) | (apply awp_cond_t; focus (simp [a0, a1, a2, a3, a4, a10, a11, a12, a13, a14, h1]; done)) | (apply awp_cond_f; focus (simp [a0, a1, a2, a3, a4, a10, a11, a12, a13, a14, h1]; done)) | (refine awp_cond ?_; simp [a0, a1, a2, a3, a4, a10, a11, a12, a13, a14, h1]; refine ⟨?_, ?_⟩ <;> intro hc))
            obtain ⟨q1, q2⟩ := hglue _ hpi.1 (hpi.2 rfl)
            refine retK_of (x := .tup []) (.inr rfl) (by simp) ⟨rfl, _, q1, q2, hF.andSet⟩
          | false =>
            (try (first | (with_reducible refine dops_go ?_; simp [a0, a1, a2, a3, a4, a10, a11, a12, a13, a14, h1]) | (with_reducible refine OKv_go ?_; simp [a0, a1, a2, a3, a4, a10, a11, a12, a13, a14, h1]) | (with_reducible refine OKr_go ?_; simp [a0, a1, a2, a3, a4, a10, a11, a12, a13, a14, h1]))); repeat' (first | refine awp_seq ?_ | refine awp_block ?_ | (refine awp_skip ?_; try simp) | (refine awp_exit ?_; try simp) | (refine awp_ret ?_; try simp) | (refine retP_same (by simp) ?_; simp) | (refine retP_flat (by simp) (by simp) (by simp [a0, a1, a2, a3, a4, a10, a11, a12, a13, a14, h1]) ?_; simp) | (refine awp_reg ?_; simp [a0, a1, a2, a3, a4, a10, a11, a12, a13, a14, h1]) | (refine awp_drawT (fun _ => false) mixed (by decide +kernel) ?_; simp [a0, a1, a2, a3, a4, a10, a11, a12, a13, a14, h1]) | (refine guarded_split ?_ ?_ <;> (intro hg; simp only [hg]; simp [a0, a1, a2, a3, a4, a10, a11, a12, a13, a14, h1])) | (apply awp_cond_t; focus (simp [a0, a1, a2, a3, a4, a10, a11, a12, a13, a14, h1]; done)) | (apply awp_cond_f; focus (simp [a0, a1, a2, a3, a4, a10, a11, a12, a13, a14, h1]; done)) | (refine awp_cond ?_; simp [a0, a1, a2, a3, a4, a10, a11, a12, a13, a14, h1]; refine ⟨?_, ?_⟩ <;> intro hc))
            exact hR1 _ _ ⟨e2, ⟨by simp [a0], by simp [a1], by simp [a2], by simp [a3], by simp [a4], by simp [a10], by simp [a11]⟩, by simp [a12], by simp [a13], hR.perm (by omega) hpi.1 (Fr.set _ _ _)⟩
        · (try (first | (with_reducible refine dops_go ?_; simp [a0, a1, a2, a3, a4, a10, a11, a12, a13, a14, h1]) | (with_reducible refine OKv_go ?_; simp [a0, a1, a2, a3, a4, a10, a11, a12, a13, a14, h1]) | (with_reducible refine OKr_go ?_; simp [a0, a1, a2, a3, a4, a10, a11, a12, a13, a14, h1]))); repeat' (first | refine awp_seq ?_ | refine awp_block ?_ | (refine awp_skip ?_; try simp) | (refine awp_exit ?_; try simp) | (refine awp_ret ?_; try simp) | (refine retP_same (by simp) ?_; simp) | (refine retP_flat (by simp) (by simp) (by simp [a0, a1, a2, a3, a4, a10, a11, a12, a13, a14, h1]) ?_; simp) | (refine awp_reg ?_; simp [a0, a1, a2, a3, a4, a10, a11, a12, a13, a14, h1]) | (refine awp_drawT (fun _ => false) mixed (by decide +kernel) ?_; simp [a0, a1, a2, a3, a4, a10, a11, a12, a13, a14, h1]) | (refine guarded_split ?_ ?_ <;> (intro hg; simp only [hg]; simp [a0, a1, a2, a3, a4, a10, a11, a12, a13, a14, h1])) | (apply awp_cond_t; focus (simp [a0, a1, a2, a3, a4, a10, a11, a12, a13, a14, h1]; done)) | (apply awp_cond_f; focus (simp [a0, a1, a2, a3, a4, a10, a11, a12, a13, a14, h1]; done)) | (refine awp_cond ?_; simp [a0, a1, a2, a3, a4, a10, a11, a12, a13, a14, h1]; refine ⟨?_, ?_⟩ <;> intro hc))
          exact hR1 _ _ ⟨e, ⟨by simp [a0], by simp [a1], by simp [a2], by simp [a3], by simp [a4], by simp [a10], by simp [a11]⟩, by simp [a12], by simp [a13], hR⟩
  clear a0 a1 a2 a3 a4 a10 a11 a12 a13 a14 hte hF hes hB' hglue hR ci hpi hpe
  rintro A τ ⟨e, ⟨a0, a1, a2, a3, a4, a10, a11⟩, a12, a13, hR⟩
  obtain ⟨hF, hes, hB', hglue⟩ := id hR
  have hte := hF.buf hj
  have ht' : τ.m o = some (.buf (e.toList.map rgAV)) := hte
  have ce := partitionEqual_calls hcc hjs (d := e) (a := a') (b := b') (pivot := pv) hap hpb (by omega) (by omega) hte
  obtain ⟨mid, d4, hx⟩ : ∃ mid d4, Sort.partitionEqual (ltOf c) e a' b' pv = (mid, d4) := ⟨_, _, rfl⟩
  rw [hx, hes] at ce
  simp only [] at ce
  have cp := partition_calls hcc hjs (d := e) (a := a') (b := b') (pivot := pv) hap hpb (by omega) (by omega) hte
  obtain ⟨mid2, ap, d5, hy⟩ : ∃ mid2 ap d5, Sort.partition (ltOf c) e a' b' pv = (mid2, ap, d5) := ⟨_, _, _, rfl⟩
  rw [hy, hes] at cp
  simp only [] at cp
  obtain ⟨g1, g2, hs5, hBa, hBr, hleft, hright⟩ := Sort.round_part hS (Sort.partition_holds (ltOf c)) hap hpb (by omega) hB' hy
  refine awp_seq ?_
  refine awp_then_cutH (fun A' τ' => PdI o d.size a' b' lim g wb wp A' ∧ A' 12 = .raw (.int .i64 l) ∧ A' 13 = .raw (.int .i64 (pv : Nat)) ∧ τ = τ') ?_ ?_
  · intro R1 hR1
    by_cases ha0 : 0 < a'
    · have ha0' : (0 : Int) < a' := by omega
      have gx : e[a' - 1]? = some e[a' - 1]! := get_bang (by omega)
      have gy : e[pv]? = some e[pv]! := get_bang (by omega)
      have g3 : ((a' - 1 : Nat) : Int) < d.size := by omega
      have g4 : (pv : Int) < d.size := by omega
      have w2 : IntKind.i64.wrap ((a' : Int) - 1) = ((a' - 1 : Nat) : Int) := by rw [wrap64 (by omega) (by omega)]; omega
      by_cases hlt : c e[a' - 1]! e[pv]! < 0
      · generalize hap1 : a' - 1 = ap1 at *
        (try (first | (with_reducible refine dops_go ?_; simp [a0, a1, a2, a3, a4, a10, a11, a12, a13, ha0, gx, gy, g3, g4, w2, ht', hjs, rg_cells, rg_fold, hes]) | (with_reducible refine OKv_go ?_; simp [a0, a1, a2, a3, a4, a10, a11, a12, a13, ha0, gx, gy, g3, g4, w2, ht', hjs, rg_cells, rg_fold, hes]) | (with_reducible refine OKr_go ?_; simp [a0, a1, a2, a3, a4, a10, a11, a12, a13, ha0, gx, gy, g3, g4, w2, ht', hjs, rg_cells, rg_fold, hes]))); repeat' (first | refine awp_seq ?_ | refine awp_block ?_ | (refine awp_skip ?_; try simp) | (refine awp_exit ?_; try simp) | (refine awp_ret ?_; try simp) | (refine retP_same (by simp) ?_; simp) | (refine retP_flat (by simp) (by simp) (by simp [a0, a1, a2, a3, a4, a10, a11, a12, a13, ha0, gx, gy, g3, g4, w2, ht', hjs, rg_cells, rg_fold, hes]) ?_; simp) | (refine awp_reg ?_; simp [a0, a1, a2, a3, a4, a10, a11, a12, a13, ha0, gx, gy, g3, g4, w2, ht', hjs, rg_cells, rg_fold, hes]) | (refine awp_drawT (fun _ => false) mixed (by decide +kernel) ?_; simp [a0, a1, a2, a3, a4, a10, a11, a12, a13, ha0, gx, gy, g3, g4, w2, ht', hjs, rg_cells, rg_fold, hes]) | (refine guarded_split ?_ ?_ <;> (intro hg; simp only [hg]; simp [a0, a1, a2, a3, a4, a10, a11, a12, a13, ha0, gx, gy, g3, g4, w2, ht', hjs, rg_cells, rg_fold, hes])) | (apply awp_cond_t; focus (simp [a0, a1, a2, a3, a4, a10, a11, a12, a13, ha0, gx, gy, g3, g4, w2, ht', hjs, rg_cells, rg_fold, hes]; done)) | (apply awp_cond_f; focus (simp [a0, a1, a2, a3, a4, a10, a11, a12, a13, ha0, gx, gy, g3, g4, w2, ht', hjs, rg_cells, rg_fold, hes]; done)) | (refine awp_cond ?_; simp [a0, a1, a2, a3, a4, a10, a11, a12, a13, ha0, gx, gy, g3, g4, w2, ht', hjs, rg_cells, rg_fold, hes]; refine ⟨?_, ?_⟩ <;> intro hc))
        refine PCalls.use (hcc.calls _ _) ?_
        (try (first | (with_reducible refine dops_go ?_; simp [a0, a1, a2, a3, a4, a10, a11, a12, a13, ha0, gx, gy, g3, g4, w2, ht', hjs, rg_cells, rg_fold, hes, hlt]) | (with_reducible refine OKv_go ?_; simp [a0, a1, a2, a3, a4, a10, a11, a12, a13, ha0, gx, gy, g3, g4, w2, ht', hjs, rg_cells, rg_fold, hes, hlt]) | (with_reducible refine OKr_go ?_; simp [a0, a1, a2, a3, a4, a10, a11, a12, a13, ha0, gx, gy, g3, g4, w2, ht', hjs, rg_cells, rg_fold, hes, hlt]))); repeat' (first | refine awp_seq ?_ | refine awp_block ?_ | (refine awp_skip ?_; try simp) | (refine awp_exit ?_; try simp) | (refine awp_ret ?_; try simp) | (refine retP_same (by simp) ?_; simp) | (refine retP_flat (by simp) (by simp) (by simp [a0, a1, a2, a3, a4, a10, a11, a12, a13, ha0, gx, gy, g3, g4, w2, ht', hjs, rg_cells, rg_fold, hes, hlt]) ?_; simp) | (refine awp_reg ?_; simp [a0, a1, a2, a3, a4, a10, a11, a12, a13, ha0, gx, gy, g3, g4, w2, ht', hjs, rg_cells, rg_fold, hes, hlt]) | (refine awp_drawT (fun _ => false) mixed (by decide +kernel) ?_; simp [a0, a1, a2, a3, a4, a10, a11, a12, a13, ha0, gx, gy, g3, g4, w2, ht', hjs, rg_cells, rg_fold, hes, hlt]) | (refine guarded_split ?_ ?_ <;> (intro hg; simp only [hg]; simp [a0, a1, a2, a3, a4, a10, a11, a12, a13, ha0, gx, gy, g3, g4, w2, ht', hjs, rg_cells, rg_fold, hes, hlt])) | (apply awp_cond_t; focus (simp [a0, a1, a2, a3, a4, a10, a11, a12, a13, ha0, gx, gy, g3, g4, w2, ht', hjs, rg_cells, rg_fold, hes, hlt]; done)) | (apply awp_cond_f; focus (simp [a0, a1, a2, a3, a4, a10, a11, a12, a13, ha0, gx, gy, g3, g4, w2, ht', hjs, rg_cells, rg_fold, hes, hlt]; done)) | (refine awp_cond ?_; simp [a0, a1, a2, a3, a4, a10, a11, a12, a13, ha0, gx, gy, g3, g4, w2, ht', hjs, rg_cells, rg_fold, hes, hlt]; refine ⟨?_, ?_⟩ <;> intro hc))
        exact hR1 _ _ ⟨⟨by simp [a0], by simp [a1], by simp [a2], by simp [a3], by simp [a4], by simp [a10], by simp [a11]⟩, by simp [a12], by simp [a13], rfl⟩
      · obtain ⟨r1, r2, hs4, hB4, hfin⟩ := Sort.round_eq hS (Sort.partitionEqual_holds (ltOf c)) ha0 hap hpb (by omega) hB' (by simp [ltOf]; omega) hx
        generalize hap1 : a' - 1 = ap1 at *
        (try (first | (with_reducible refine dops_go ?_; simp [a0, a1, a2, a3, a4, a10, a11, a12, a13, ha0, gx, gy, g3, g4, w2, ht', hjs, rg_cells, rg_fold, hes]) | (with_reducible refine OKv_go ?_; simp [a0, a1, a2, a3, a4, a10, a11, a12, a13, ha0, gx, gy, g3, g4, w2, ht', hjs, rg_cells, rg_fold, hes]) | (with_reducible refine OKr_go ?_; simp [a0, a1, a2, a3, a4, a10, a11, a12, a13, ha0, gx, gy, g3, g4, w2, ht', hjs, rg_cells, rg_fold, hes]))); repeat' (first | refine awp_seq ?_ | refine awp_block ?_ | (refine awp_skip ?_; try simp) | (refine awp_exit ?_; try simp) | (refine awp_ret ?_; try simp) | (refine retP_same (by simp) ?_; simp) | (refine retP_flat (by simp) (by simp) (by simp [a0, a1, a2, a3, a4, a10, a11, a12, a13, ha0, gx, gy, g3, g4, w2, ht', hjs, rg_cells, rg_fold, hes]) ?_; simp) | (refine awp_reg ?_; simp [a0, a1, a2, a3, a4, a10, a11, a12, a13, ha0, gx, gy, g3, g4, w2, ht', hjs, rg_cells, rg_fold, hes]) | (refine awp_drawT (fun _ => false) mixed (by decide +kernel) ?_; simp [a0, a1, a2, a3, a4, a10, a11, a12, a13, ha0, gx, gy, g3, g4, w2, ht', hjs, rg_cells, rg_fold, hes]) | (refine guarded_split ?_ ?_ <;> (intro hg; simp only [hg]; simp [a0, a1, a2, a3, a4, a10, a11, a12, a13, ha0, gx, gy, g3, g4, w2, ht', hjs, rg_cells, rg_fold, hes])) | (apply awp_cond_t; focus (simp [a0, a1, a2, a3, a4, a10, a11, a12, a13, ha0, gx, gy, g3, g4, w2, ht', hjs, rg_cells, rg_fold, hes]; done)) | (apply awp_cond_f; focus (simp [a0, a1, a2, a3, a4, a10, a11, a12, a13, ha0, gx, gy, g3, g4, w2, ht', hjs, rg_cells, rg_fold, hes]; done)) | (refine awp_cond ?_; simp [a0, a1, a2, a3, a4, a10, a11, a12, a13, ha0, gx, gy, g3, g4, w2, ht', hjs, rg_cells, rg_fold, hes]; refine ⟨?_, ?_⟩ <;> intro hc))
        refine PCalls.use (hcc.calls _ _) ?_
        (try (first | (with_reducible refine dops_go ?_; simp [a0, a1, a2, a3, a4, a10, a11, a12, a13, ha0, gx, gy, g3, g4, w2, ht', hjs, rg_cells, rg_fold, hes, hlt]) | (with_reducible refine OKv_go ?_; simp [a0, a1, a2, a3, a4, a10, a11, a12, a13, ha0, gx, gy, g3, g4, w2, ht', hjs, rg_cells, rg_fold, hes, hlt]) | (with_reducible refine OKr_go ?_; simp [a0, a1, a2, a3, a4, a10, a11, a12, a13, ha0, gx, gy, g3, g4, w2, ht', hjs, rg_cells, rg_fold, hes, hlt]))); repeat' (first | refine awp_seq ?_ | refine awp_block ?_ | (refine awp_skip ?_; try simp) | (refine awp_exit ?_; try simp) | (refine awp_ret ?_; try simp) | (refine retP_same (by simp) ?_; simp) | (refine retP_flat (by simp) (by simp) (by simp [a0, a1, a2, a3, a4, a10, a11, a12, a13, ha0, gx, gy, g3, g4, w2, ht', hjs, rg_cells, rg_fold, hes, hlt]) ?_; simp) | (refine awp_reg ?_; simp [a0, a1, a2, a3, a4, a10, a11, a12, a13, ha0, gx, gy, g3, g4, w2, ht', hjs, rg_cells, rg_fold, hes, hlt]) | (refine awp_drawT (fun _ => false) mixed (by decide +kernel) ?_; simp [a0, a1, a2, a3, a4, a10, a11, a12, a13, ha0, gx, gy, g3, g4, w2, ht', hjs, rg_cells, rg_fold, hes, hlt]) | (refine guarded_split ?_ ?_ <;> (intro hg; simp only [hg]; simp [a0, a1, a2, a3, a4, a10, a11, a12, a13, ha0, gx, gy, g3, g4, w2, ht', hjs, rg_cells, rg_fold, hes, hlt])) | (apply awp_cond_t; focus (simp [a0, a1, a2, a3, a4, a10, a11, a12, a13, ha0, gx, gy, g3, g4, w2, ht', hjs, rg_cells, rg_fold, hes, hlt]; done)) | (apply awp_cond_f; focus (simp [a0, a1, a2, a3, a4, a10, a11, a12, a13, ha0, gx, gy, g3, g4, w2, ht', hjs, rg_cells, rg_fold, hes, hlt]; done)) | (refine awp_cond ?_; simp [a0, a1, a2, a3, a4, a10, a11, a12, a13, ha0, gx, gy, g3, g4, w2, ht', hjs, rg_cells, rg_fold, hes, hlt]; refine ⟨?_, ?_⟩ <;> intro hc))
        refine ce.mono ?_
        rintro _ τ2 ⟨rfl, rfl⟩
        (try (first | (with_reducible refine dops_go ?_; simp [a0, a1, a2, a3, a4, a10, a11, a12, a13]) | (with_reducible refine OKv_go ?_; simp [a0, a1, a2, a3, a4, a10, a11, a12, a13]) | (with_reducible refine OKr_go ?_; simp [a0, a1, a2, a3, a4, a10, a11, a12, a13]))); repeat' (first | refine awp_seq ?_ | refine awp_block ?_ | (refine awp_skip ?_; try simp) | (refine awp_exit ?_; try simp) | (refine awp_ret ?_; try simp) | (refine retP_same (by simp) ?_; simp) | (refine retP_flat (by simp) (by simp) (by simp [a0, a1, a2, a3, a4, a10, a11, a12, a13]) ?_; simp) | (refine awp_reg ?_; simp [a0, a1, a2, a3, a4, a10, a11, a12, a13]) | (refine awp_drawT (fun _ => false) mixed (by decide +kernel) ?_; simp [a0, a1, a2, a3, a4, a10, a11, a12, a13]) | (refine guarded_split ?_ ?_ <;> (intro hg; simp only [hg]; simp [a0, a1, a2, a3, a4, a10, a11, a12, a13])) | (apply awp_cond_t; focus (simp [a0, a1, a2, a3, a4, a10, a11, a12, a13]; done)) | (apply awp_cond_f; focus (simp [a0, a1, a2, a3, a4, a10, a11, a12, a13]; done)) | (refine awp_cond ?_; simp [a0, a1, a2, a3, a4, a10, a11, a12, a13]; refine ⟨?_, ?_⟩ <;> intro hc))
        refine hI1 (b' - mid) _ _ (by omega) ⟨mid, b', lim, wb, wp, d4, ⟨by simp [a0], by simp, by simp [a2], by simp [a3], by simp [a4], by simp [a10], by simp [a11]⟩, rfl, by omega, by omega, by omega, hlim', hR.fr.andSet, by rw [hs4, hes], hB4, fun R q1 q2 => ?_⟩
        obtain ⟨q3, q4⟩ := hfin R q1 q2
        exact hglue R q3 q4
    · have ha0' : ¬ (0 : Int) < a' := by omega
      have ha00 : a' = 0 := by omega
      (try (first | (with_reducible refine dops_go ?_; simp [a0, a1, a2, a3, a4, a10, a11, a12, a13, ha0', ha00]) | (with_reducible refine OKv_go ?_; simp [a0, a1, a2, a3, a4, a10, a11, a12, a13, ha0', ha00]) | (with_reducible refine OKr_go ?_; simp [a0, a1, a2, a3, a4, a10, a11, a12, a13, ha0', ha00]))); repeat' (first | refine awp_seq ?_ | refine awp_block ?_ | (refine awp_skip ?_; try simp) | (refine awp_exit ?_; try simp) | (refine awp_ret ?_; try simp) | (refine retP_same (by simp) ?_; simp) | (refine retP_flat (by simp) (by simp) (by simp [a0, a1, a2, a3, a4, a10, a11, a12, a13, ha0', ha00]) ?_; simp) | (refine awp_reg ?_; simp [a0, a1, a2, a3, a4, a10, a11, a12, a13, ha0', ha00]) | (refine awp_drawT (fun _ => false) mixed (by decide +kernel) ?_; simp [a0, a1, a2, a3, a4, a10, a11, a12, a13, ha0', ha00]) | (refine guarded_split ?_ ?_ <;> (intro hg; simp only [hg]; simp [a0, a1, a2, a3, a4, a10, a11, a12, a13, ha0', ha00])) | (apply awp_cond_t; focus (simp [a0, a1, a2, a3, a4, a10, a11, a12, a13, ha0', ha00]; done)) | (apply awp_cond_f; focus (simp [a0, a1, a2, a3, a4, a10, a11, a12, a13, ha0', ha00]; done)) | (refine awp_cond ?_; simp [a0, a1, a2, a3, a4, a10, a11, a12, a13, ha0', ha00]; refine ⟨?_, ?_⟩ <;> intro hc))
      exact hR1 _ _ ⟨⟨by simp [a0], by simp [a1], by simp [a2], by simp [a3], by simp [a4], by simp [a10], by simp [a11]⟩, by simp [a12], by simp [a13], rfl⟩
  clear a0 a1 a2 a3 a4 a10 a11 a12 a13
  rintro A _ ⟨⟨a0, a1, a2, a3, a4, a10, a11⟩, a12, a13, rfl⟩
  have v1 : IntKind.i64.wrap ((mid2 : Int) - a') = ((mid2 - a' : Nat) : Int) := by rw [wrap64 (by omega) (by omega)]; omega
  have v2 : IntKind.i64.wrap ((b' : Int) - mid2) = ((b' - mid2 : Nat) : Int) := by rw [wrap64 (by omega) (by omega)]; omega
  have v3 : (l : Int).tdiv 8 = ((l / 8 : Nat) : Int) := by rw [Int.tdiv_eq_ediv_of_nonneg (by omega)]; omega
  have v4 : IntKind.i64.wrap ((l / 8 : Nat) : Int) = ((l / 8 : Nat) : Int) := wrap64 (by omega) (by omega)
  have v5 : IntKind.i64.wrap ((mid2 : Int) + 1) = ((mid2 + 1 : Nat) : Int) := by rw [wrap64 (by omega) (by omega)]; omega
  obtain ⟨ll, hll⟩ : ∃ ll, mid2 - a' = ll := ⟨_, rfl⟩
  obtain ⟨rl, hrl⟩ : ∃ rl, b' - mid2 = rl := ⟨_, rfl⟩
  obtain ⟨m1, hm1⟩ : ∃ m1, mid2 + 1 = m1 := ⟨_, rfl⟩
  rw [hll] at v1
  rw [hrl] at v2
  rw [hm1] at v5
  generalize ((l / 8 : Nat) : Int) = l8 at *
  have hR5 := hR.fr.andSet (y := bufOf d5)
  have ht5 := hR5.buf hj
  by_cases hlr : ll < rl
  · have cl := ih (mid2 - a') (by omega) d5 a' mid2 lim (τ.set o (bufOf d5)) (by omega) g1 (by omega) (by omega) hlim' hBa ht5
    rw [hs5, hes] at cl
    (try (first | (with_reducible refine dops_go ?_; simp [a0, a1, a2, a3, a4, a10, a11, a12, a13]) | (with_reducible refine OKv_go ?_; simp [a0, a1, a2, a3, a4, a10, a11, a12, a13]) | (with_reducible refine OKr_go ?_; simp [a0, a1, a2, a3, a4, a10, a11, a12, a13]))); repeat' (first | refine awp_seq ?_ | refine awp_block ?_ | (refine awp_skip ?_; try simp) | (refine awp_exit ?_; try simp) | (refine awp_ret ?_; try simp) | (refine retP_same (by simp) ?_; simp) | (refine retP_flat (by simp) (by simp) (by simp [a0, a1, a2, a3, a4, a10, a11, a12, a13]) ?_; simp) | (refine awp_reg ?_; simp [a0, a1, a2, a3, a4, a10, a11, a12, a13]) | (refine awp_drawT (fun _ => false) mixed (by decide +kernel) ?_; simp [a0, a1, a2, a3, a4, a10, a11, a12, a13]) | (refine guarded_split ?_ ?_ <;> (intro hg; simp only [hg]; simp [a0, a1, a2, a3, a4, a10, a11, a12, a13])) | (apply awp_cond_t; focus (simp [a0, a1, a2, a3, a4, a10, a11, a12, a13]; done)) | (apply awp_cond_f; focus (simp [a0, a1, a2, a3, a4, a10, a11, a12, a13]; done)) | (refine awp_cond ?_; simp [a0, a1, a2, a3, a4, a10, a11, a12, a13]; refine ⟨?_, ?_⟩ <;> intro hc))
    refine cp.mono ?_
    rintro _ τ2 ⟨rfl, rfl⟩
    (try (first | (with_reducible refine dops_go ?_; simp [a0, a1, a2, a3, a4, a10, a11, a12, a13, v1, v2, v3, v4, hlr]) | (with_reducible refine OKv_go ?_; simp [a0, a1, a2, a3, a4, a10, a11, a12, a13, v1, v2, v3, v4, hlr]) | (with_reducible refine OKr_go ?_; simp [a0, a1, a2, a3, a4, a10, a11, a12, a13, v1, v2, v3, v4, hlr]))); repeat' (first | refine awp_seq ?_ | refine awp_block ?_ | (refine awp_skip ?_; try simp) | (refine awp_exit ?_; try simp) | (refine awp_ret ?_; try simp) | (refine retP_same (by simp) ?_; simp) | (refine retP_flat (by simp) (by simp) (by simp [a0, a1, a2, a3, a4, a10, a11, a12, a13, v1, v2, v3, v4, hlr]) ?_; simp) | (refine awp_reg ?_; simp [a0, a1, a2, a3, a4, a10, a11, a12, a13, v1, v2, v3, v4, hlr]) | (refine awp_drawT (fun _ => false) mixed (by decide +kernel) ?_; simp [a0, a1, a2, a3, a4, a10, a11, a12, a13, v1, v2, v3, v4, hlr]) | (refine guarded_split ?_ ?_ <;> (intro hg; simp only [hg]; simp [a0, a1, a2, a3, a4, a10, a11, a12, a13, v1, v2, v3, v4, hlr])) | (apply awp_cond_t; focus (simp [a0, a1, a2, a3, a4, a10, a11, a12, a13, v1, v2, v3, v4, hlr]; done)) | (apply awp_cond_f; focus (simp [a0, a1, a2, a3, a4, a10, a11, a12, a13, v1, v2, v3, v4, hlr]; done)) | (refine awp_cond ?_; simp [a0, a1, a2, a3, a4, a10, a11, a12, a13, v1, v2, v3, v4, hlr]; refine ⟨?_, ?_⟩ <;> intro hc))
    refine cl.mono ?_
    rintro _ τ3 ⟨rfl, L, l1, l2, l3⟩
    (try (first | (with_reducible refine dops_go ?_; simp [a0, a1, a2, a3, a4, a10, a11, a12, a13, v5]) | (with_reducible refine OKv_go ?_; simp [a0, a1, a2, a3, a4, a10, a11, a12, a13, v5]) | (with_reducible refine OKr_go ?_; simp [a0, a1, a2, a3, a4, a10, a11, a12, a13, v5]))); repeat' (first | refine awp_seq ?_ | refine awp_block ?_ | (refine awp_skip ?_; try simp) | (refine awp_exit ?_; try simp) | (refine awp_ret ?_; try simp) | (refine retP_same (by simp) ?_; simp) | (refine retP_flat (by simp) (by simp) (by simp [a0, a1, a2, a3, a4, a10, a11, a12, a13, v5]) ?_; simp) | (refine awp_reg ?_; simp [a0, a1, a2, a3, a4, a10, a11, a12, a13, v5]) | (refine awp_drawT (fun _ => false) mixed (by decide +kernel) ?_; simp [a0, a1, a2, a3, a4, a10, a11, a12, a13, v5]) | (refine guarded_split ?_ ?_ <;> (intro hg; simp only [hg]; simp [a0, a1, a2, a3, a4, a10, a11, a12, a13, v5])) | (apply awp_cond_t; focus (simp [a0, a1, a2, a3, a4, a10, a11, a12, a13, v5]; done)) | (apply awp_cond_f; focus (simp [a0, a1, a2, a3, a4, a10, a11, a12, a13, v5]; done)) | (refine awp_cond ?_; simp [a0, a1, a2, a3, a4, a10, a11, a12, a13, v5]; refine ⟨?_, ?_⟩ <;> intro hc))
    obtain ⟨hBL, hfin⟩ := hleft L l1 l2
    refine hI1 (b' - m1) _ _ (by omega) ⟨m1, b', lim, _, ap, L, ⟨by simp [a0], by simp, by simp [a2], by simp [a3], by simp [a4], by simp; rfl, by simp⟩, rfl, by omega, by omega, by omega, hlim', hR5.trans l3, by rw [l1.1, hs5, hes], by rw [← hm1]; exact hBL, fun R q1 q2 => ?_⟩
    rw [← hm1] at q1 q2
    obtain ⟨q3, q4⟩ := hfin R q1 q2
    exact hglue R q3 q4
  · have cl := ih (b' - m1) (by omega) d5 m1 b' lim (τ.set o (bufOf d5)) (by omega) (by omega) (by omega) (by omega) hlim' (by rw [← hm1]; exact hBr) ht5
    rw [hs5, hes] at cl
    (try (first | (with_reducible refine dops_go ?_; simp [a0, a1, a2, a3, a4, a10, a11, a12, a13]) | (with_reducible refine OKv_go ?_; simp [a0, a1, a2, a3, a4, a10, a11, a12, a13]) | (with_reducible refine OKr_go ?_; simp [a0, a1, a2, a3, a4, a10, a11, a12, a13]))); repeat' (first | refine awp_seq ?_ | refine awp_block ?_ | (refine awp_skip ?_; try simp) | (refine awp_exit ?_; try simp) | (refine awp_ret ?_; try simp) | (refine retP_same (by simp) ?_; simp) | (refine retP_flat (by simp) (by simp) (by simp [a0, a1, a2, a3, a4, a10, a11, a12, a13]) ?_; simp) | (refine awp_reg ?_; simp [a0, a1, a2, a3, a4, a10, a11, a12, a13]) | (refine awp_drawT (fun _ => false) mixed (by decide +kernel) ?_; simp [a0, a1, a2, a3, a4, a10, a11, a12, a13]) | (refine guarded_split ?_ ?_ <;> (intro hg; simp only [hg]; simp [a0, a1, a2, a3, a4, a10, a11, a12, a13])) | (apply awp_cond_t; focus (simp [a0, a1, a2, a3, a4, a10, a11, a12, a13]; done)) | (apply awp_cond_f; focus (simp [a0, a1, a2, a3, a4, a10, a11, a12, a13]; done)) | (refine awp_cond ?_; simp [a0, a1, a2, a3, a4, a10, a11, a12, a13]; refine ⟨?_, ?_⟩ <;> intro hc))
    refine cp.mono ?_
    rintro _ τ2 ⟨rfl, rfl⟩
    (try (first | (with_reducible refine dops_go ?_; simp [a0, a1, a2, a3, a4, a10, a11, a12, a13, v1, v2, v3, v4, hlr, v5]) | (with_reducible refine OKv_go ?_; simp [a0, a1, a2, a3, a4, a10, a11, a12, a13, v1, v2, v3, v4, hlr, v5]) | (with_reducible refine OKr_go ?_; simp [a0, a1, a2, a3, a4, a10, a11, a12, a13, v1, v2, v3, v4, hlr, v5]))); repeat' (first | refine awp_seq ?_ | refine awp_block ?_ | (refine awp_skip ?_; try simp) | (refine awp_exit ?_; try simp) | (refine awp_ret ?_; try simp) | (refine retP_same (by simp) ?_; simp) | (refine retP_flat (by simp) (by simp) (by simp [a0, a1, a2, a3, a4, a10, a11, a12, a13, v1, v2, v3, v4, hlr, v5]) ?_; simp) | (refine awp_reg ?_; simp [a0, a1, a2, a3, a4, a10, a11, a12, a13, v1, v2, v3, v4, hlr, v5]) | (refine awp_drawT (fun _ => false) mixed (by decide +kernel) ?_; simp [a0, a1, a2, a3, a4, a10, a11, a12, a13, v1, v2, v3, v4, hlr, v5]) | (refine guarded_split ?_ ?_ <;> (intro hg; simp only [hg]; simp [a0, a1, a2, a3, a4, a10, a11, a12, a13, v1, v2, v3, v4, hlr, v5])) | (apply awp_cond_t; focus (simp [a0, a1, a2, a3, a4, a10, a11, a12, a13, v1, v2, v3, v4, hlr, v5]; done)) | (apply awp_cond_f; focus (simp [a0, a1, a2, a3, a4, a10, a11, a12, a13, v1, v2, v3, v4, hlr, v5]; done)) | (refine awp_cond ?_; simp [a0, a1, a2, a3, a4, a10, a11, a12, a13, v1, v2, v3, v4, hlr, v5]; refine ⟨?_, ?_⟩ <;> intro hc))
    refine cl.mono ?_
    rintro _ τ3 ⟨rfl, L, l1, l2, l3⟩
    (try (first | (with_reducible refine dops_go ?_; simp [a0, a1, a2, a3, a4, a10, a11, a12, a13, v5]) | (with_reducible refine OKv_go ?_; simp [a0, a1, a2, a3, a4, a10, a11, a12, a13, v5]) | (with_reducible refine OKr_go ?_; simp [a0, a1, a2, a3, a4, a10, a11, a12, a13, v5]))); repeat' (first | refine awp_seq ?_ | refine awp_block ?_ | (refine awp_skip ?_; try simp) | (refine awp_exit ?_; try simp) | (refine awp_ret ?_; try simp) | (refine retP_same (by simp) ?_; simp) | (refine retP_flat (by simp) (by simp) (by simp [a0, a1, a2, a3, a4, a10, a11, a12, a13, v5]) ?_; simp) | (refine awp_reg ?_; simp [a0, a1, a2, a3, a4, a10, a11, a12, a13, v5]) | (refine awp_drawT (fun _ => false) mixed (by decide +kernel) ?_; simp [a0, a1, a2, a3, a4, a10, a11, a12, a13, v5]) | (refine guarded_split ?_ ?_ <;> (intro hg; simp only [hg]; simp [a0, a1, a2, a3, a4, a10, a11, a12, a13, v5])) | (apply awp_cond_t; focus (simp [a0, a1, a2, a3, a4, a10, a11, a12, a13, v5]; done)) | (apply awp_cond_f; focus (simp [a0, a1, a2, a3, a4, a10, a11, a12, a13, v5]; done)) | (refine awp_cond ?_; simp [a0, a1, a2, a3, a4, a10, a11, a12, a13, v5]; refine ⟨?_, ?_⟩ <;> intro hc))
    rw [← hm1] at l1 l2
    obtain ⟨hBL, hfin⟩ := hright L l1 l2
    refine hI1 (mid2 - a') _ _ (by omega) ⟨a', mid2, lim, _, ap, L, ⟨by simp [a0], by simp [a1], by simp, by simp [a3], by simp [a4], by simp; rfl, by simp⟩, rfl, by omega, by omega, by omega, hlim', hR5.trans l3, by rw [l1.1, hs5, hes], hBL, fun R q1 q2 => ?_⟩
    obtain ⟨q3, q4⟩ := hfin R q1 q2
    exact hglue R q3 q4

/-- **slices.SortFunc** of an owned list. -/
theorem sortFunc_calls {g : FuncId} {c : Rg → Rg → Int} (hcc : Cmp g c) (hS : Sort.SWO (ltOf c)) {o : Id} (hjs : o.sz = 2) {d : Array Rg} (hsz : d.size < 256) {σ : St} (hj : σ.m o = some (bufOf d)) :
    ACalls Try.prog 44 [.rs o 0 d.size, .fn (.func g) [] []] σ (PdqPost (ltOf c) o d 0 d.size σ) := by
  refine abody Try.func44 rfl (N := 14) rfl rfl (by simp) ?_
  have w1 : IntKind.u64.wrap (d.size : Int) = d.size := wrapU64 (by omega) (by omega)
  have hL : Sort.bitsLen d.size ≤ 8 := by
    have : ∀ x, x < 256 → Sort.bitsLen x ≤ 8 := by decide +kernel
    exact this _ hsz
  have cl := pdq_calls hcc hS hjs d.size d 0 d.size (Sort.bitsLen d.size) σ (by omega) (by omega) (by omega) hsz (by omega) (.inl rfl) hj
  have cn := len_small d.size hsz
  generalize Sort.bitsLen d.size = L at *
  (try (first | (with_reducible refine dops_go ?_; simp [w1]) | (with_reducible refine OKv_go ?_; simp [w1]) | (with_reducible refine OKr_go ?_; simp [w1]))); repeat' (first | refine awp_seq ?_ | refine awp_block ?_ | (refine awp_skip ?_; try simp) | (refine awp_exit ?_; try simp) | (refine awp_ret ?_; try simp) | (refine retP_same (by simp) ?_; simp) | (refine retP_flat (by simp) (by simp) (by simp [w1]) ?_; simp) | (refine awp_reg ?_; simp [w1]) | (refine awp_drawT (fun _ => false) mixed (by decide +kernel) ?_; simp [w1]) | (refine guarded_split ?_ ?_ <;> (intro hg; simp only [hg]; simp [w1])) | (apply awp_cond_t; focus (simp [w1]; done)) | (apply awp_cond_f; focus (simp [w1]; done)) | (refine awp_cond ?_; simp [w1]; refine ⟨?_, ?_⟩ <;> intro hc))
  refine PCalls.use cn ?_
  (try (first | (with_reducible refine dops_go ?_; simp [w1]) | (with_reducible refine OKv_go ?_; simp [w1]) | (with_reducible refine OKr_go ?_; simp [w1]))); repeat' (first | refine awp_seq ?_ | refine awp_block ?_ | (refine awp_skip ?_; try simp) | (refine awp_exit ?_; try simp) | (refine awp_ret ?_; try simp) | (refine retP_same (by simp) ?_; simp) | (refine retP_flat (by simp) (by simp) (by simp [w1]) ?_; simp) | (refine awp_reg ?_; simp [w1]) | (refine awp_drawT (fun _ => false) mixed (by decide +kernel) ?_; simp [w1]) | (refine guarded_split ?_ ?_ <;> (intro hg; simp only [hg]; simp [w1])) | (apply awp_cond_t; focus (simp [w1]; done)) | (apply awp_cond_f; focus (simp [w1]; done)) | (refine awp_cond ?_; simp [w1]; refine ⟨?_, ?_⟩ <;> intro hc))
  refine cl.mono ?_
  rintro _ τ ⟨rfl, h⟩
  (try (first | (with_reducible refine dops_go ?_; simp) | (with_reducible refine OKv_go ?_; simp) | (with_reducible refine OKr_go ?_; simp))); repeat' (first | refine awp_seq ?_ | refine awp_block ?_ | (refine awp_skip ?_; try simp) | (refine awp_exit ?_; try simp) | (refine awp_ret ?_; try simp) | (refine retP_same (by simp) ?_; simp) | (refine retP_flat (by simp) (by simp) (by simp) ?_; simp) | (refine awp_reg ?_; simp) | (refine awp_drawT (fun _ => false) mixed (by decide +kernel) ?_; simp) | (refine guarded_split ?_ ?_ <;> (intro hg; simp only [hg]; simp)) | (apply awp_cond_t; focus (simp; done)) | (apply awp_cond_f; focus (simp; done)) | (refine awp_cond ?_; simp; refine ⟨?_, ?_⟩ <;> intro hc))
  exact retK_of (x := .tup []) (.inl rfl) (by simp) ⟨rfl, h⟩
end Go.Proofs.Ytajikhpjjbohaaa.Av

/- Iterators over a list; sorting what is collected. -/
namespace Go.Proofs.Ytajikhpjjbohaaa.Av
open Go
set_option linter.unusedSimpArgs false
set_option linter.unusedVariables false
set_option maxRecDepth 100000
set_option maxHeartbeats 4000000
set_option pp.maxSteps 300

/-- A list's values, as what is yielded. -/
theorem values_is_iter {z : List Rg} {full : Bool} (i : Id) (hz : z.length < 2 ^ 60) : Iter Try.prog 45 [.rp i 0 0] i (.buf [zAV z full]) (z.map rgAV) := by
  intro b I J h1 h2 h3 σ hi h0
  rw [List.length_map]
  refine (values1_iter (b := b) (i := i) (I := fun k σ => I k σ ∧ σ.m i = some (.buf [zAV z full])) (J := J) hz ?_ ?_ hi ⟨h0, hi⟩).mono ?_
  · rintro k σ τ ⟨q1, q2⟩ hE; exact ⟨h1 k σ τ q1 hE, hE.m _ _ q2⟩
  · rintro k σ h ⟨q1, q2⟩
    refine YK.mono ?_ (h3 k (rgAV z[k]) σ _ (by simp [h]) q1 q2)
    rintro r τ (⟨e, p1, p2⟩ | p)
    · exact .inl ⟨e, p1, p2⟩
    · exact .inr p
  · rintro r τ (⟨h, _⟩ | h)
    · exact .inl h
    · exact .inr h

theorem values_calls (z : List Rg) (full : Bool) {σ : St} : ACalls Try.prog 30 [zAV z full] σ fun r τ => ∃ i, r = .fn (.func 45) [] [.rp i 0 0] ∧ σ.m i = none ∧ τ.m i = some (.buf [zAV z full]) ∧ Ext σ τ := by
  refine abody Try.func30 rfl (N := 4) rfl rfl (by simp) ?_
  (try (first | (with_reducible refine dops_go ?_; simp [zAV]) | (with_reducible refine OKv_go ?_; simp [zAV]) | (with_reducible refine OKr_go ?_; simp [zAV]))); repeat' (first | refine awp_seq ?_ | refine awp_block ?_ | (refine awp_skip ?_; try simp) | (refine awp_exit ?_; try simp) | (refine awp_ret ?_; try simp) | (refine retP_same (by simp) ?_; simp) | (refine retP_flat (by simp) (by simp) (by simp [zAV]) ?_; simp) | (refine awp_reg ?_; simp [zAV]) | (refine awp_drawT (fun _ => false) mixed (by decide +kernel) ?_; simp [zAV]) | (refine guarded_split ?_ ?_ <;> (intro hg; simp only [hg]; simp [zAV])) | (apply awp_cond_t; focus (simp [zAV]; done)) | (apply awp_cond_f; focus (simp [zAV]; done)) | (refine awp_cond ?_; simp [zAV]; refine ⟨?_, ?_⟩ <;> intro hc))
  refine retK_of (x := .fn (.func 45) [] [.rp ⟨1, σ.nx 1, 1⟩ 0 0]) (.inr rfl) (by simp) ⟨_, rfl, fresh_none _ _ _, by simp [zAV], Ext.new _ _ _ _⟩

/-- **slices.Collect**: what is yielded, or nothing. -/
def Coll (i : Id) (z : List Rg) (σ : St) (r : AV) (τ : St) : Prop := But i σ τ ∧ ((z = [] ∧ r = .sl 0 [] true) ∨ (z ≠ [] ∧ ∃ j, r = .rs j 0 z.length ∧ j.sz = 2 ∧ τ.m j = some (.buf (z.map rgAV)) ∧ σ.m j = none))
theorem collect_calls {f : FuncId} {caps : List AV} {i : Id} {c0 : Ob} {z : List Rg} (hit : Iter Try.prog f caps i c0 (z.map rgAV)) (hl : z.length < 2 ^ 40) {σ : St} (hi : σ.m i = some c0) :
    ACalls Try.prog 43 [.fn (.func f) [] caps] σ (Coll i z σ) := by
  refine abody Try.func43 rfl (N := 5) rfl rfl (by simp) ?_
  have h := appendSeq_calls hit hl hi
  (try (first | (with_reducible refine dops_go ?_; simp) | (with_reducible refine OKv_go ?_; simp) | (with_reducible refine OKr_go ?_; simp))); repeat' (first | refine awp_seq ?_ | refine awp_block ?_ | (refine awp_skip ?_; try simp) | (refine awp_exit ?_; try simp) | (refine awp_ret ?_; try simp) | (refine retP_same (by simp) ?_; simp) | (refine retP_flat (by simp) (by simp) (by simp) ?_; simp) | (refine awp_reg ?_; simp) | (refine awp_drawT (fun _ => false) mixed (by decide +kernel) ?_; simp) | (refine guarded_split ?_ ?_ <;> (intro hg; simp only [hg]; simp)) | (apply awp_cond_t; focus (simp; done)) | (apply awp_cond_f; focus (simp; done)) | (refine awp_cond ?_; simp; refine ⟨?_, ?_⟩ <;> intro hc))
  refine h.mono ?_
  rintro r τ ⟨hB, h⟩
  have hC : Coll i z σ r τ := ⟨hB, h⟩
  (try (first | (with_reducible refine dops_go ?_; simp) | (with_reducible refine OKv_go ?_; simp) | (with_reducible refine OKr_go ?_; simp))); repeat' (first | refine awp_seq ?_ | refine awp_block ?_ | (refine awp_skip ?_; try simp) | (refine awp_exit ?_; try simp) | (refine awp_ret ?_; try simp) | (refine retP_same (by simp) ?_; simp) | (refine retP_flat (by simp) (by simp) (by simp) ?_; simp) | (refine awp_reg ?_; simp) | (refine awp_drawT (fun _ => false) mixed (by decide +kernel) ?_; simp) | (refine guarded_split ?_ ?_ <;> (intro hg; simp only [hg]; simp)) | (apply awp_cond_t; focus (simp; done)) | (apply awp_cond_f; focus (simp; done)) | (refine awp_cond ?_; simp; refine ⟨?_, ?_⟩ <;> intro hc))
  refine retK_of (x := r) (.inr rfl) (by simp) hC

/-- Sorting nothing. -/
theorem insertion_nil {g : FuncId} : PCalls Try.prog 52 [.sl 0 [] true, .raw (.int .i64 0), .raw (.int .i64 0), .fn (.func g) [] []] (.tup []) := by
  refine pbody Try.func52 rfl (N := 53) rfl rfl (by simp) (by simp [noIds]) fun σ => ?_
  have w0 : IntKind.i64.wrap 1 = 1 := wrap64 (by omega) (by omega)
  (try (first | (with_reducible refine dops_go ?_; simp [w0]) | (with_reducible refine OKv_go ?_; simp [w0]) | (with_reducible refine OKr_go ?_; simp [w0]))); repeat' (first | refine awp_seq ?_ | refine awp_block ?_ | (refine awp_skip ?_; try simp) | (refine awp_exit ?_; try simp) | (refine awp_ret ?_; try simp) | (refine retP_same (by simp) ?_; simp) | (refine retP_flat (by simp) (by simp) (by simp [w0]) ?_; simp) | (refine awp_reg ?_; simp [w0]) | (refine awp_drawT (fun _ => false) mixed (by decide +kernel) ?_; simp [w0]) | (refine guarded_split ?_ ?_ <;> (intro hg; simp only [hg]; simp [w0])) | (apply awp_cond_t; focus (simp [w0]; done)) | (apply awp_cond_f; focus (simp [w0]; done)) | (refine awp_cond ?_; simp [w0]; refine ⟨?_, ?_⟩ <;> intro hc))
  refine awp_loopH (fun n A τ => τ = σ ∧ A 2 = .raw (.int .i64 0) ∧ A 8 = .raw (.int .i64 1)) 0 ⟨rfl, by simp, by simp [w0]⟩ ?_
  rintro n A τ ⟨rfl, a2, a8⟩ I1 hI1
  (try (first | (with_reducible refine dops_go ?_; simp [a2, a8]) | (with_reducible refine OKv_go ?_; simp [a2, a8]) | (with_reducible refine OKr_go ?_; simp [a2, a8]))); repeat' (first | refine awp_seq ?_ | refine awp_block ?_ | (refine awp_skip ?_; try simp) | (refine awp_exit ?_; try simp) | (refine awp_ret ?_; try simp) | (refine retP_same (by simp) ?_; simp) | (refine retP_flat (by simp) (by simp) (by simp [a2, a8]) ?_; simp) | (refine awp_reg ?_; simp [a2, a8]) | (refine awp_drawT (fun _ => false) mixed (by decide +kernel) ?_; simp [a2, a8]) | (refine guarded_split ?_ ?_ <;> (intro hg; simp only [hg]; simp [a2, a8])) | (apply awp_cond_t; focus (simp [a2, a8]; done)) | (apply awp_cond_f; focus (simp [a2, a8]; done)) | (refine awp_cond ?_; simp [a2, a8]; refine ⟨?_, ?_⟩ <;> intro hc))
theorem pdq_nil {g : FuncId} : PCalls Try.prog 50 [.sl 0 [] true, .raw (.int .i64 0), .raw (.int .i64 0), .raw (.int .i64 0), .fn (.func g) [] []] (.tup []) := by
  refine pbody Try.func50 rfl (N := 148) rfl rfl (by simp) (by simp [noIds]) fun σ => ?_
  have w0 : IntKind.i64.wrap 0 = 0 := wrap64 (by omega) (by omega)
  (try (first | (with_reducible refine dops_go ?_; simp) | (with_reducible refine OKv_go ?_; simp) | (with_reducible refine OKr_go ?_; simp))); repeat' (first | refine awp_seq ?_ | refine awp_block ?_ | (refine awp_skip ?_; try simp) | (refine awp_exit ?_; try simp) | (refine awp_ret ?_; try simp) | (refine retP_same (by simp) ?_; simp) | (refine retP_flat (by simp) (by simp) (by simp) ?_; simp) | (refine awp_reg ?_; simp) | (refine awp_drawT (fun _ => false) mixed (by decide +kernel) ?_; simp) | (refine guarded_split ?_ ?_ <;> (intro hg; simp only [hg]; simp)) | (apply awp_cond_t; focus (simp; done)) | (apply awp_cond_f; focus (simp; done)) | (refine awp_cond ?_; simp; refine ⟨?_, ?_⟩ <;> intro hc))
  refine awp_loopH (fun n A τ => τ = σ ∧ A 0 = .sl 0 [] true ∧ A 1 = .raw (.int .i64 0) ∧ A 2 = .raw (.int .i64 0) ∧ A 3 = .raw (.int .i64 0) ∧ A 4 = .fn (.func g) [] []) 0 ⟨rfl, by simp, by simp, by simp, by simp, by simp⟩ ?_
  rintro n A τ ⟨rfl, a0, a1, a2, a3, a4⟩ I1 hI1
  (try (first | (with_reducible refine dops_go ?_; simp [a0, a1, a2, a3, a4, w0]) | (with_reducible refine OKv_go ?_; simp [a0, a1, a2, a3, a4, w0]) | (with_reducible refine OKr_go ?_; simp [a0, a1, a2, a3, a4, w0]))); repeat' (first | refine awp_seq ?_ | refine awp_block ?_ | (refine awp_skip ?_; try simp) | (refine awp_exit ?_; try simp) | (refine awp_ret ?_; try simp) | (refine retP_same (by simp) ?_; simp) | (refine retP_flat (by simp) (by simp) (by simp [a0, a1, a2, a3, a4, w0]) ?_; simp) | (refine awp_reg ?_; simp [a0, a1, a2, a3, a4, w0]) | (refine awp_drawT (fun _ => false) mixed (by decide +kernel) ?_; simp [a0, a1, a2, a3, a4, w0]) | (refine guarded_split ?_ ?_ <;> (intro hg; simp only [hg]; simp [a0, a1, a2, a3, a4, w0])) | (apply awp_cond_t; focus (simp [a0, a1, a2, a3, a4, w0]; done)) | (apply awp_cond_f; focus (simp [a0, a1, a2, a3, a4, w0]; done)) | (refine awp_cond ?_; simp [a0, a1, a2, a3, a4, w0]; refine ⟨?_, ?_⟩ <;> intro hc))
  refine PCalls.use insertion_nil ?_
  (try (first | (with_reducible refine dops_go ?_; simp) | (with_reducible refine OKv_go ?_; simp) | (with_reducible refine OKr_go ?_; simp))); repeat' (first | refine awp_seq ?_ | refine awp_block ?_ | (refine awp_skip ?_; try simp) | (refine awp_exit ?_; try simp) | (refine awp_ret ?_; try simp) | (refine retP_same (by simp) ?_; simp) | (refine retP_flat (by simp) (by simp) (by simp) ?_; simp) | (refine awp_reg ?_; simp) | (refine awp_drawT (fun _ => false) mixed (by decide +kernel) ?_; simp) | (refine guarded_split ?_ ?_ <;> (intro hg; simp only [hg]; simp)) | (apply awp_cond_t; focus (simp; done)) | (apply awp_cond_f; focus (simp; done)) | (refine awp_cond ?_; simp; refine ⟨?_, ?_⟩ <;> intro hc))
theorem sortFunc_nil {g : FuncId} : PCalls Try.prog 44 [.sl 0 [] true, .fn (.func g) [] []] (.tup []) := by
  refine pbody Try.func44 rfl (N := 14) rfl rfl (by simp) (by simp [noIds]) fun σ => ?_
  have w1 : IntKind.u64.wrap 0 = 0 := wrapU64 (by omega) (by omega)
  have hn := len_small 0 (by omega)
  (try (first | (with_reducible refine dops_go ?_; simp [w1]) | (with_reducible refine OKv_go ?_; simp [w1]) | (with_reducible refine OKr_go ?_; simp [w1]))); repeat' (first | refine awp_seq ?_ | refine awp_block ?_ | (refine awp_skip ?_; try simp) | (refine awp_exit ?_; try simp) | (refine awp_ret ?_; try simp) | (refine retP_same (by simp) ?_; simp) | (refine retP_flat (by simp) (by simp) (by simp [w1]) ?_; simp) | (refine awp_reg ?_; simp [w1]) | (refine awp_drawT (fun _ => false) mixed (by decide +kernel) ?_; simp [w1]) | (refine guarded_split ?_ ?_ <;> (intro hg; simp only [hg]; simp [w1])) | (apply awp_cond_t; focus (simp [w1]; done)) | (apply awp_cond_f; focus (simp [w1]; done)) | (refine awp_cond ?_; simp [w1]; refine ⟨?_, ?_⟩ <;> intro hc))
  refine PCalls.use hn ?_
  have : Sort.bitsLen 0 = 0 := rfl
  (try (first | (with_reducible refine dops_go ?_; simp [w1, this]) | (with_reducible refine OKv_go ?_; simp [w1, this]) | (with_reducible refine OKr_go ?_; simp [w1, this]))); repeat' (first | refine awp_seq ?_ | refine awp_block ?_ | (refine awp_skip ?_; try simp) | (refine awp_exit ?_; try simp) | (refine awp_ret ?_; try simp) | (refine retP_same (by simp) ?_; simp) | (refine retP_flat (by simp) (by simp) (by simp [w1, this]) ?_; simp) | (refine awp_reg ?_; simp [w1, this]) | (refine awp_drawT (fun _ => false) mixed (by decide +kernel) ?_; simp [w1, this]) | (refine guarded_split ?_ ?_ <;> (intro hg; simp only [hg]; simp [w1, this])) | (apply awp_cond_t; focus (simp [w1, this]; done)) | (apply awp_cond_f; focus (simp [w1, this]; done)) | (refine awp_cond ?_; simp [w1, this]; refine ⟨?_, ?_⟩ <;> intro hc))
  refine PCalls.use pdq_nil ?_
  (try (first | (with_reducible refine dops_go ?_; simp) | (with_reducible refine OKv_go ?_; simp) | (with_reducible refine OKr_go ?_; simp))); repeat' (first | refine awp_seq ?_ | refine awp_block ?_ | (refine awp_skip ?_; try simp) | (refine awp_exit ?_; try simp) | (refine awp_ret ?_; try simp) | (refine retP_same (by simp) ?_; simp) | (refine retP_flat (by simp) (by simp) (by simp) ?_; simp) | (refine awp_reg ?_; simp) | (refine awp_drawT (fun _ => false) mixed (by decide +kernel) ?_; simp) | (refine guarded_split ?_ ?_ <;> (intro hg; simp only [hg]; simp)) | (apply awp_cond_t; focus (simp; done)) | (apply awp_cond_f; focus (simp; done)) | (refine awp_cond ?_; simp; refine ⟨?_, ?_⟩ <;> intro hc))

/-- In the order c says, or any of those that are alike. -/
def SortedBy (c : Rg → Rg → Int) (z : List Rg) : Prop := z.Pairwise fun x y => ¬ c y x < 0
theorem sortedIn_pairwise {c : Rg → Rg → Int} {d : Array Rg} (h : Sort.SortedIn (ltOf c) 0 d.size d) : SortedBy c d.toList := by
  unfold SortedBy
  rw [List.pairwise_iff_getElem]
  intro i j hi hj hij
  have := h i j (by omega) hij (by simpa using hj)
  rw [getElem!_pos d i (by simpa using hi), getElem!_pos d j (by simpa using hj)] at this
  simpa [ltOf] using this
theorem perm_of_permIn {d d' : Array Rg} (h : Sort.PermIn 0 d.size d d') : d'.toList.Perm d.toList := by
  obtain ⟨h1, _, h3⟩ := h
  have e1 : d'.extract 0 d.size = d' := by rw [← h1]; exact Array.extract_size
  rwa [e1, Array.extract_size] at h3

theorem But.frz {i j : Id} {σ τ ρ : St} {x : Ob} (h : But i σ τ) (hn : σ.m j = none) (k : Fr j x τ ρ) : But i σ ρ :=
  ⟨fun l o hl ho => by
    have := h.m l o hl ho
    have hlj : l ≠ j := fun e => by rw [e, hn] at ho; cases ho
    rw [k.m, set_other hlj]; exact this, fun s => Nat.le_trans (h.nx s) (k.nx s)⟩
/-- An end that gives one object up. -/
theorem retK_give {P : Program} {A : Env} {σ : St} {fn : Func} {K : AV → St → Prop} {e : Exit} (j : Id) (he : e = .normal ∨ e = .ret) {x : AV} (h : aresult P σ.m A fn.results = some x) (hK : K (giveUps (σ.del j).m σ.m x) (σ.del j)) : RetK P fn K e A σ :=
  ⟨he, x, h, σ.del j, fun i o hi => by
    by_cases e : i = j
    · simp [e] at hi
    · rwa [del_other e] at hi, fun _ => Nat.le_refl _, _, Weaker.refl _, hK⟩
theorem weaker_nil : Weaker (.sl 0 [] true) (zAV [] false) := by
  intro S v h
  simp only [VRel, zAV] at h ⊢
  obtain ⟨base, cap, e, h1, h2, h3⟩ := h
  exact ⟨base, cap, e, h1, by simp, by simp⟩
theorem retK_weak {P : Program} {A : Env} {σ : St} {fn : Func} {K : AV → St → Prop} {e : Exit} (he : e = .normal ∨ e = .ret) {x y : AV} (h : aresult P σ.m A fn.results = some x) (hw : Weaker x y) (hK : K y σ) : RetK P fn K e A σ :=
  ⟨he, x, h, σ, fun _ _ h => h, fun _ => Nat.le_refl _, y, by rw [giveUps_self]; exact hw, hK⟩

/-- **slices.SortedFunc**. -/
theorem sortedFunc_calls {f g : FuncId} {caps : List AV} {i : Id} {c0 : Ob} {z : List Rg} {c : Rg → Rg → Int} (hcc : Cmp g c) (hS : Sort.SWO (ltOf c)) (hit : Iter Try.prog f caps i c0 (z.map rgAV)) (hl : z.length < 256) {σ : St} (hi : σ.m i = some c0) :
    ACalls Try.prog 29 [.fn (.func f) [] caps, .fn (.func g) [] []] σ fun r τ => But i σ τ ∧ ∃ z', z'.Perm z ∧ SortedBy c z' ∧ r = zAV z' false := by
  refine abody Try.func29 rfl (N := 12) rfl rfl (by simp) ?_
  have h := collect_calls hit (by omega) hi
  (try (first | (with_reducible refine dops_go ?_; simp) | (with_reducible refine OKv_go ?_; simp) | (with_reducible refine OKr_go ?_; simp))); repeat' (first | refine awp_seq ?_ | refine awp_block ?_ | (refine awp_skip ?_; try simp) | (refine awp_exit ?_; try simp) | (refine awp_ret ?_; try simp) | (refine retP_same (by simp) ?_; simp) | (refine retP_flat (by simp) (by simp) (by simp) ?_; simp) | (refine awp_reg ?_; simp) | (refine awp_drawT (fun _ => false) mixed (by decide +kernel) ?_; simp) | (refine guarded_split ?_ ?_ <;> (intro hg; simp only [hg]; simp)) | (apply awp_cond_t; focus (simp; done)) | (apply awp_cond_f; focus (simp; done)) | (refine awp_cond ?_; simp; refine ⟨?_, ?_⟩ <;> intro hc))
  refine h.mono ?_
  rintro r τ ⟨hB, ⟨rfl, rfl⟩ | ⟨hne, j, rfl, hjs, hj, hjn⟩⟩
  · (try (first | (with_reducible refine dops_go ?_; simp) | (with_reducible refine OKv_go ?_; simp) | (with_reducible refine OKr_go ?_; simp))); repeat' (first | refine awp_seq ?_ | refine awp_block ?_ | (refine awp_skip ?_; try simp) | (refine awp_exit ?_; try simp) | (refine awp_ret ?_; try simp) | (refine retP_same (by simp) ?_; simp) | (refine retP_flat (by simp) (by simp) (by simp) ?_; simp) | (refine awp_reg ?_; simp) | (refine awp_drawT (fun _ => false) mixed (by decide +kernel) ?_; simp) | (refine guarded_split ?_ ?_ <;> (intro hg; simp only [hg]; simp)) | (apply awp_cond_t; focus (simp; done)) | (apply awp_cond_f; focus (simp; done)) | (refine awp_cond ?_; simp; refine ⟨?_, ?_⟩ <;> intro hc))
    refine PCalls.use sortFunc_nil ?_
    (try (first | (with_reducible refine dops_go ?_; simp) | (with_reducible refine OKv_go ?_; simp) | (with_reducible refine OKr_go ?_; simp))); repeat' (first | refine awp_seq ?_ | refine awp_block ?_ | (refine awp_skip ?_; try simp) | (refine awp_exit ?_; try simp) | (refine awp_ret ?_; try simp) | (refine retP_same (by simp) ?_; simp) | (refine retP_flat (by simp) (by simp) (by simp) ?_; simp) | (refine awp_reg ?_; simp) | (refine awp_drawT (fun _ => false) mixed (by decide +kernel) ?_; simp) | (refine guarded_split ?_ ?_ <;> (intro hg; simp only [hg]; simp)) | (apply awp_cond_t; focus (simp; done)) | (apply awp_cond_f; focus (simp; done)) | (refine awp_cond ?_; simp; refine ⟨?_, ?_⟩ <;> intro hc))
    exact retK_weak (x := .sl 0 [] true) (y := zAV [] false) (.inr rfl) (by simp) weaker_nil ⟨hB, List.Pairwise.nil, rfl⟩
  · have hs := sortFunc_calls (d := z.toArray) hcc hS hjs (by simpa using hl) (σ := τ) (by simpa [bufOf] using hj)
    rw [List.size_toArray] at hs
    (try (first | (with_reducible refine dops_go ?_; simp) | (with_reducible refine OKv_go ?_; simp) | (with_reducible refine OKr_go ?_; simp))); repeat' (first | refine awp_seq ?_ | refine awp_block ?_ | (refine awp_skip ?_; try simp) | (refine awp_exit ?_; try simp) | (refine awp_ret ?_; try simp) | (refine retP_same (by simp) ?_; simp) | (refine retP_flat (by simp) (by simp) (by simp) ?_; simp) | (refine awp_reg ?_; simp) | (refine awp_drawT (fun _ => false) mixed (by decide +kernel) ?_; simp) | (refine guarded_split ?_ ?_ <;> (intro hg; simp only [hg]; simp)) | (apply awp_cond_t; focus (simp; done)) | (apply awp_cond_f; focus (simp; done)) | (refine awp_cond ?_; simp; refine ⟨?_, ?_⟩ <;> intro hc))
    refine hs.mono ?_
    rintro _ τ2 ⟨rfl, d', h1, h2, h3⟩
    have hsz : d'.size = z.length := by rw [h1.1]; simp
    have hp := perm_of_permIn (d := z.toArray) (d' := d') (by simpa using h1)
    have hso := sortedIn_pairwise (c := c) (d := d') (by rw [hsz]; exact h2)
    have hB2 := hB.frz hjn h3
    have hj2 := h3.buf (y := .buf (z.map rgAV)) (by simpa [bufOf] using hj)
    (try (first | (with_reducible refine dops_go ?_; simp) | (with_reducible refine OKv_go ?_; simp) | (with_reducible refine OKr_go ?_; simp))); repeat' (first | refine awp_seq ?_ | refine awp_block ?_ | (refine awp_skip ?_; try simp) | (refine awp_exit ?_; try simp) | (refine awp_ret ?_; try simp) | (refine retP_same (by simp) ?_; simp) | (refine retP_flat (by simp) (by simp) (by simp) ?_; simp) | (refine awp_reg ?_; simp) | (refine awp_drawT (fun _ => false) mixed (by decide +kernel) ?_; simp) | (refine guarded_split ?_ ?_ <;> (intro hg; simp only [hg]; simp)) | (apply awp_cond_t; focus (simp; done)) | (apply awp_cond_f; focus (simp; done)) | (refine awp_cond ?_; simp; refine ⟨?_, ?_⟩ <;> intro hc))
    refine retK_give j (.inr rfl) (x := .rs j 0 z.length) (by simp) ?_
    have hgu : giveUps (τ2.del j).m τ2.m (.rs j 0 z.length) = zAV d'.toList false := by
      simp only [giveUps, giveUp, del_self, hj2, bufOf]
      rw [if_pos (by simp [hsz])]
      simp [zAV, hjs, hsz]
      rw [List.take_of_length_le (by simp [hsz])]
    rw [hgu]
    refine ⟨⟨fun l o hl ho => ?_, hB2.nx⟩, d'.toList, by simpa using hp, hso, rfl⟩
    rw [del_other (fun e => by rw [e, hjn] at ho; cases ho)]
    exact hB2.m l o hl ho
end Go.Proofs.Ytajikhpjjbohaaa.Av

/- Searching by a function; merging; the zone of ranges. -/
namespace Go.Proofs.Ytajikhpjjbohaaa.Av
open Go
set_option linter.unusedSimpArgs false
set_option linter.unusedVariables false
set_option maxRecDepth 100000
set_option maxHeartbeats 4000000
set_option pp.maxSteps 300

/-- The first that is asked for; -1: there is none. -/
def idxOf (p : Rg → Bool) (z : List Rg) : Int := if z.any p then (z.findIdx p : Nat) else -1
theorem idxOf_here {p : Rg → Bool} {z : List Rg} {i : Nat} {x : Rg} (hx : z[i]? = some x) (hp : p x = true) (hn : ∀ j, j < i → ∀ y, z[j]? = some y → p y = false) : idxOf p z = i := by
  unfold idxOf
  obtain ⟨hi, he⟩ := List.getElem?_eq_some_iff.1 hx
  rw [if_pos (List.any_eq_true.2 ⟨x, List.mem_of_getElem? hx, hp⟩)]
  congr 1
  rw [List.findIdx_eq hi]
  refine ⟨by rw [he]; exact hp, fun j hj => ?_⟩
  exact hn j hj _ (List.getElem?_eq_getElem (by omega))
theorem idxOf_none {p : Rg → Bool} {z : List Rg} (hn : ∀ j, j < z.length → ∀ y, z[j]? = some y → p y = false) : idxOf p z = -1 ∧ z.any p = false := by
  have : z.any p = false := by
    rw [List.any_eq_false]
    intro x hx
    obtain ⟨j, hj⟩ := List.getElem?_of_mem hx
    simp [hn j (List.getElem?_eq_some_iff.1 hj).1 x hj]
  exact ⟨by unfold idxOf; rw [this]; rfl, this⟩
theorem idxOf_any (p : Rg → Bool) (z : List Rg) : decide (0 ≤ idxOf p z) = z.any p := by
  unfold idxOf
  cases z.any p <;> simp

theorem indexFunc_calls {g : FuncId} {p : Rg → Bool} (z : List Rg) (fz : Bool) (hl : z.length < 2 ^ 60) (hg : ∀ r ∈ z, PCalls Try.prog g [rgAV r] (.raw (.bool (p r)))) :
    PCalls Try.prog 42 [zAV z fz, .fn (.func g) [] []] (.raw (.int .i64 (idxOf p z))) := by
  refine pbody Try.func42 rfl (N := 19) rfl rfl (by simp) (by simp [noIds]) fun σ => ?_
  (try (first | (with_reducible refine dops_go ?_; simp [zAV]) | (with_reducible refine OKv_go ?_; simp [zAV]) | (with_reducible refine OKr_go ?_; simp [zAV]))); repeat' (first | refine awp_seq ?_ | refine awp_block ?_ | (refine awp_skip ?_; try simp) | (refine awp_exit ?_; try simp) | (refine awp_ret ?_; try simp) | (refine retP_same (by simp) ?_; simp) | (refine retP_flat (by simp) (by simp) (by simp [zAV]) ?_; simp) | (refine awp_reg ?_; simp [zAV]) | (refine awp_drawT (fun _ => false) mixed (by decide +kernel) ?_; simp [zAV]) | (refine guarded_split ?_ ?_ <;> (intro hg; simp only [hg]; simp [zAV])) | (apply awp_cond_t; focus (simp [zAV]; done)) | (apply awp_cond_f; focus (simp [zAV]; done)) | (refine awp_cond ?_; simp [zAV]; refine ⟨?_, ?_⟩ <;> intro hc))
  refine awp_loopH (fun n A τ => τ = σ ∧ A 0 = zAV z fz ∧ A 1 = .fn (.func g) [] [] ∧ A 7 = .raw (.int .i64 z.length) ∧ ∃ i : Nat, A 8 = .raw (.int .i64 i) ∧ i ≤ z.length ∧ n = z.length - i ∧ ∀ j, j < i → ∀ y, z[j]? = some y → p y = false) z.length ?_ ?_
  · exact ⟨rfl, by simp [zAV], by simp, by simp, 0, by simp, by omega, by omega, fun j h => by omega⟩
  rintro n A τ ⟨rfl, a0, a1, a7, i, a8, hi, rfl, hn⟩ I1 hI1
  by_cases hlt : i < z.length
  · have hx : z[i]? = some z[i] := List.getElem?_eq_getElem hlt
    have w1 : IntKind.i64.wrap ((i : Int) + 1) = ((i + 1 : Nat) : Int) := by rw [wrap64 (by omega) (by omega)]; omega
    have hr : AV.agg [.raw (.int .u32 z[i].lo), .raw (.int .u32 z[i].hi)] = rgAV z[i] := rfl
    (try (first | (with_reducible refine dops_go ?_; simp [zAV, a0, a1, a7, a8, hlt, hx, rg_cells, hr]) | (with_reducible refine OKv_go ?_; simp [zAV, a0, a1, a7, a8, hlt, hx, rg_cells, hr]) | (with_reducible refine OKr_go ?_; simp [zAV, a0, a1, a7, a8, hlt, hx, rg_cells, hr]))); repeat' (first | refine awp_seq ?_ | refine awp_block ?_ | (refine awp_skip ?_; try simp) | (refine awp_exit ?_; try simp) | (refine awp_ret ?_; try simp) | (refine retP_same (by simp) ?_; simp) | (refine retP_flat (by simp) (by simp) (by simp [zAV, a0, a1, a7, a8, hlt, hx, rg_cells, hr]) ?_; simp) | (refine awp_reg ?_; simp [zAV, a0, a1, a7, a8, hlt, hx, rg_cells, hr]) | (refine awp_drawT (fun _ => false) mixed (by decide +kernel) ?_; simp [zAV, a0, a1, a7, a8, hlt, hx, rg_cells, hr]) | (refine guarded_split ?_ ?_ <;> (intro hg; simp only [hg]; simp [zAV, a0, a1, a7, a8, hlt, hx, rg_cells, hr])) | (apply awp_cond_t; focus (simp [zAV, a0, a1, a7, a8, hlt, hx, rg_cells, hr]; done)) | (apply awp_cond_f; focus (simp [zAV, a0, a1, a7, a8, hlt, hx, rg_cells, hr]; done)) | (refine awp_cond ?_; simp [zAV, a0, a1, a7, a8, hlt, hx, rg_cells, hr]; refine ⟨?_, ?_⟩ <;> intro hc))
    refine PCalls.use (hg z[i] (List.getElem_mem _)) ?_
    cases hp : p z[i] with
    | true =>
      (try (first | (with_reducible refine dops_go ?_; simp [zAV, a0, a1, a7, a8, hlt, hx, rg_cells, hr]) | (with_reducible refine OKv_go ?_; simp [zAV, a0, a1, a7, a8, hlt, hx, rg_cells, hr]) | (with_reducible refine OKr_go ?_; simp [zAV, a0, a1, a7, a8, hlt, hx, rg_cells, hr]))); repeat' (first | refine awp_seq ?_ | refine awp_block ?_ | (refine awp_skip ?_; try simp) | (refine awp_exit ?_; try simp) | (refine awp_ret ?_; try simp) | (refine retP_same (by simp) ?_; simp) | (refine retP_flat (by simp) (by simp) (by simp [zAV, a0, a1, a7, a8, hlt, hx, rg_cells, hr]) ?_; simp) | (refine awp_reg ?_; simp [zAV, a0, a1, a7, a8, hlt, hx, rg_cells, hr]) | (refine awp_drawT (fun _ => false) mixed (by decide +kernel) ?_; simp [zAV, a0, a1, a7, a8, hlt, hx, rg_cells, hr]) | (refine guarded_split ?_ ?_ <;> (intro hg; simp only [hg]; simp [zAV, a0, a1, a7, a8, hlt, hx, rg_cells, hr])) | (apply awp_cond_t; focus (simp [zAV, a0, a1, a7, a8, hlt, hx, rg_cells, hr]; done)) | (apply awp_cond_f; focus (simp [zAV, a0, a1, a7, a8, hlt, hx, rg_cells, hr]; done)) | (refine awp_cond ?_; simp [zAV, a0, a1, a7, a8, hlt, hx, rg_cells, hr]; refine ⟨?_, ?_⟩ <;> intro hc))
      exact (idxOf_here hx hp hn).symm
    | false =>
      (try (first | (with_reducible refine dops_go ?_; simp [zAV, a0, a1, a7, a8, hlt, hx, rg_cells, hr]) | (with_reducible refine OKv_go ?_; simp [zAV, a0, a1, a7, a8, hlt, hx, rg_cells, hr]) | (with_reducible refine OKr_go ?_; simp [zAV, a0, a1, a7, a8, hlt, hx, rg_cells, hr]))); repeat' (first | refine awp_seq ?_ | refine awp_block ?_ | (refine awp_skip ?_; try simp) | (refine awp_exit ?_; try simp) | (refine awp_ret ?_; try simp) | (refine retP_same (by simp) ?_; simp) | (refine retP_flat (by simp) (by simp) (by simp [zAV, a0, a1, a7, a8, hlt, hx, rg_cells, hr]) ?_; simp) | (refine awp_reg ?_; simp [zAV, a0, a1, a7, a8, hlt, hx, rg_cells, hr]) | (refine awp_drawT (fun _ => false) mixed (by decide +kernel) ?_; simp [zAV, a0, a1, a7, a8, hlt, hx, rg_cells, hr]) | (refine guarded_split ?_ ?_ <;> (intro hg; simp only [hg]; simp [zAV, a0, a1, a7, a8, hlt, hx, rg_cells, hr])) | (apply awp_cond_t; focus (simp [zAV, a0, a1, a7, a8, hlt, hx, rg_cells, hr]; done)) | (apply awp_cond_f; focus (simp [zAV, a0, a1, a7, a8, hlt, hx, rg_cells, hr]; done)) | (refine awp_cond ?_; simp [zAV, a0, a1, a7, a8, hlt, hx, rg_cells, hr]; refine ⟨?_, ?_⟩ <;> intro hc))
      refine hI1 (z.length - (i + 1)) _ _ (by omega) ⟨rfl, by simp [a0], by simp [a1], by simp [a7], i + 1, by simp [w1], by omega, rfl, fun j hj y hy => ?_⟩
      by_cases e : j = i
      · subst e; rw [hx] at hy; injection hy with hy; subst hy; exact hp
      · exact hn j (by omega) y hy
  · have hi' : i = z.length := by omega
    subst hi'
    have w1 : IntKind.i64.wrap (-1) = -1 := wrap64 (by omega) (by omega)
    (try (first | (with_reducible refine dops_go ?_; simp [zAV, a0, a1, a7, a8, w1]) | (with_reducible refine OKv_go ?_; simp [zAV, a0, a1, a7, a8, w1]) | (with_reducible refine OKr_go ?_; simp [zAV, a0, a1, a7, a8, w1]))); repeat' (first | refine awp_seq ?_ | refine awp_block ?_ | (refine awp_skip ?_; try simp) | (refine awp_exit ?_; try simp) | (refine awp_ret ?_; try simp) | (refine retP_same (by simp) ?_; simp) | (refine retP_flat (by simp) (by simp) (by simp [zAV, a0, a1, a7, a8, w1]) ?_; simp) | (refine awp_reg ?_; simp [zAV, a0, a1, a7, a8, w1]) | (refine awp_drawT (fun _ => false) mixed (by decide +kernel) ?_; simp [zAV, a0, a1, a7, a8, w1]) | (refine guarded_split ?_ ?_ <;> (intro hg; simp only [hg]; simp [zAV, a0, a1, a7, a8, w1])) | (apply awp_cond_t; focus (simp [zAV, a0, a1, a7, a8, w1]; done)) | (apply awp_cond_f; focus (simp [zAV, a0, a1, a7, a8, w1]; done)) | (refine awp_cond ?_; simp [zAV, a0, a1, a7, a8, w1]; refine ⟨?_, ?_⟩ <;> intro hc))
    exact (idxOf_none hn).1.symm

theorem containsFunc_calls {g : FuncId} {p : Rg → Bool} (z : List Rg) (fz : Bool) (hl : z.length < 2 ^ 60) (hg : ∀ r ∈ z, PCalls Try.prog g [rgAV r] (.raw (.bool (p r)))) :
    PCalls Try.prog 27 [zAV z fz, .fn (.func g) [] []] (.raw (.bool (z.any p))) := by
  refine pbody Try.func27 rfl (N := 9) rfl rfl (by simp) (by simp [noIds]) fun σ => ?_
  (try (first | (with_reducible refine dops_go ?_; simp) | (with_reducible refine OKv_go ?_; simp) | (with_reducible refine OKr_go ?_; simp))); repeat' (first | refine awp_seq ?_ | refine awp_block ?_ | (refine awp_skip ?_; try simp) | (refine awp_exit ?_; try simp) | (refine awp_ret ?_; try simp) | (refine retP_same (by simp) ?_; simp) | (refine retP_flat (by simp) (by simp) (by simp) ?_; simp) | (refine awp_reg ?_; simp) | (refine awp_drawT (fun _ => false) mixed (by decide +kernel) ?_; simp) | (refine guarded_split ?_ ?_ <;> (intro hg; simp only [hg]; simp)) | (apply awp_cond_t; focus (simp; done)) | (apply awp_cond_f; focus (simp; done)) | (refine awp_cond ?_; simp; refine ⟨?_, ?_⟩ <;> intro hc))
  refine PCalls.use (indexFunc_calls z fz hl hg) ?_
  have := idxOf_any p z
  (try (first | (with_reducible refine dops_go ?_; simp) | (with_reducible refine OKv_go ?_; simp) | (with_reducible refine OKr_go ?_; simp))); repeat' (first | refine awp_seq ?_ | refine awp_block ?_ | (refine awp_skip ?_; try simp) | (refine awp_exit ?_; try simp) | (refine awp_ret ?_; try simp) | (refine retP_same (by simp) ?_; simp) | (refine retP_flat (by simp) (by simp) (by simp) ?_; simp) | (refine awp_reg ?_; simp) | (refine awp_drawT (fun _ => false) mixed (by decide +kernel) ?_; simp) | (refine guarded_split ?_ ?_ <;> (intro hg; simp only [hg]; simp)) | (apply awp_cond_t; focus (simp; done)) | (apply awp_cond_f; focus (simp; done)) | (refine awp_cond ?_; simp; refine ⟨?_, ?_⟩ <;> intro hc))
  simpa using this

theorem of1_calls (r : Rg) : PCalls Try.prog 28 [rgAV r] (.raw (.bool (decide (r.hi < r.lo)))) := by
  refine pbody Try.func28 rfl (N := 8) rfl rfl (by simp) (by simp [noIds]) fun σ => ?_
  (try (first | (with_reducible refine dops_go ?_; simp [rgAV]) | (with_reducible refine OKv_go ?_; simp [rgAV]) | (with_reducible refine OKr_go ?_; simp [rgAV]))); repeat' (first | refine awp_seq ?_ | refine awp_block ?_ | (refine awp_skip ?_; try simp) | (refine awp_exit ?_; try simp) | (refine awp_ret ?_; try simp) | (refine retP_same (by simp) ?_; simp) | (refine retP_flat (by simp) (by simp) (by simp [rgAV]) ?_; simp) | (refine awp_reg ?_; simp [rgAV]) | (refine awp_drawT (fun _ => false) mixed (by decide +kernel) ?_; simp [rgAV]) | (refine guarded_split ?_ ?_ <;> (intro hg; simp only [hg]; simp [rgAV])) | (apply awp_cond_t; focus (simp [rgAV]; done)) | (apply awp_cond_f; focus (simp [rgAV]; done)) | (refine awp_cond ?_; simp [rgAV]; refine ⟨?_, ?_⟩ <;> intro hc))
theorem of2_calls (r s : Rg) : PCalls Try.prog 31 [rgAV r, rgAV s] (.raw (.int .i64 (cmpI r.lo s.lo))) := by
  refine pbody Try.func31 rfl (N := 10) rfl rfl (by simp) (by simp [noIds]) fun σ => ?_
  (try (first | (with_reducible refine dops_go ?_; simp [rgAV]) | (with_reducible refine OKv_go ?_; simp [rgAV]) | (with_reducible refine OKr_go ?_; simp [rgAV]))); repeat' (first | refine awp_seq ?_ | refine awp_block ?_ | (refine awp_skip ?_; try simp) | (refine awp_exit ?_; try simp) | (refine awp_ret ?_; try simp) | (refine retP_same (by simp) ?_; simp) | (refine retP_flat (by simp) (by simp) (by simp [rgAV]) ?_; simp) | (refine awp_reg ?_; simp [rgAV]) | (refine awp_drawT (fun _ => false) mixed (by decide +kernel) ?_; simp [rgAV]) | (refine guarded_split ?_ ?_ <;> (intro hg; simp only [hg]; simp [rgAV])) | (apply awp_cond_t; focus (simp [rgAV]; done)) | (apply awp_cond_f; focus (simp [rgAV]; done)) | (refine awp_cond ?_; simp [rgAV]; refine ⟨?_, ?_⟩ <;> intro hc))
  refine PCalls.use (compare_calls .u32 r.lo s.lo) ?_
  (try (first | (with_reducible refine dops_go ?_; simp [rgAV]) | (with_reducible refine OKv_go ?_; simp [rgAV]) | (with_reducible refine OKr_go ?_; simp [rgAV]))); repeat' (first | refine awp_seq ?_ | refine awp_block ?_ | (refine awp_skip ?_; try simp) | (refine awp_exit ?_; try simp) | (refine awp_ret ?_; try simp) | (refine retP_same (by simp) ?_; simp) | (refine retP_flat (by simp) (by simp) (by simp [rgAV]) ?_; simp) | (refine awp_reg ?_; simp [rgAV]) | (refine awp_drawT (fun _ => false) mixed (by decide +kernel) ?_; simp [rgAV]) | (refine guarded_split ?_ ?_ <;> (intro hg; simp only [hg]; simp [rgAV])) | (apply awp_cond_t; focus (simp [rgAV]; done)) | (apply awp_cond_f; focus (simp [rgAV]; done)) | (refine awp_cond ?_; simp [rgAV]; refine ⟨?_, ?_⟩ <;> intro hc))
end Go.Proofs.Ytajikhpjjbohaaa.Av

/- Zones: what is merged, as an iterator; zone.Of. -/
namespace Go.Proofs.Ytajikhpjjbohaaa.Av
open Go
set_option linter.unusedSimpArgs false
set_option linter.unusedVariables false
set_option maxRecDepth 100000
set_option maxHeartbeats 4000000
set_option pp.maxSteps 300

theorem new_set_other {σ : St} {slot sz : Nat} {x y : Ob} {i : Id} (h : i ≠ ⟨slot, σ.nx slot, sz⟩) : (σ.new slot sz x).set i y = (σ.set i y).new slot sz x := by
  apply St.ext'
  · funext j
    by_cases e : j = ⟨slot, σ.nx slot, sz⟩
    · subst e
      rw [set_other (Ne.symm h), new_self]
      exact (new_self (σ := σ.set i y)).symm
    · by_cases e2 : j = i
      · subst e2
        rw [set_self, new_other h]
        rw [new_other (σ := σ.set j y) h, set_self]
      · rw [set_other e2, new_other e, new_other (σ := σ.set i y) e, set_other e2]
  · rfl
theorem mg_end {r : Rg} {l : List Rg} (h : ∀ x, l[0]? = some x → ¬ x.lo ≤ r.hi + 1) : mg r l = r :: mergeZ l := by
  cases l with
  | nil => rfl
  | cons x l => rw [mg, if_neg (h x rfl)]; rfl

theorem merged_is_iter {z : List Rg} {fz : Bool} (i : Id) (his : i.sz = 1) (hz : InZ z) (hl : z.length < 2 ^ 60) : Iter Try.prog 47 [.rp i 0 0] i (.buf [zAV z fz]) ((mergeZ z).map rgAV) := by
  intro b I J h1 h2 h3 σ hi h0
  refine abody Try.func47 rfl (N := 41) rfl rfl (by simp) ?_
  refine awp_block ?_
  refine awp_loopH (fun n A τ => ∃ k rest, A 0 = .fn (.yield b) [] [] ∧ A 1 = .rp i 0 0 ∧ τ.m i = some (.buf [zAV rest fz]) ∧ I k τ ∧ (mergeZ z).drop k = mergeZ rest ∧ k + (mergeZ rest).length = (mergeZ z).length ∧ InZ rest ∧ rest.length ≤ z.length ∧ n = rest.length) z.length ?_ ?_
  · exact ⟨0, z, by simp, by simp, hi, h0, rfl, by simp, hz, Nat.le_refl _, rfl⟩
  rintro n A τ ⟨k, rest, a0, a1, hti, hIk, hd, hkl, hin, hrl, rfl⟩ I1 hI1
  cases rest with
  | nil =>
    (try (first | (with_reducible refine dops_go ?_; simp [a0, a1, hti, zAV, his]) | (with_reducible refine OKv_go ?_; simp [a0, a1, hti, zAV, his]) | (with_reducible refine OKr_go ?_; simp [a0, a1, hti, zAV, his]))); repeat' (first | refine awp_seq ?_ | refine awp_block ?_ | (refine awp_skip ?_; try simp) | (refine awp_exit ?_; try simp) | (refine awp_ret ?_; try simp) | (refine retP_same (by simp) ?_; simp) | (refine retP_flat (by simp) (by simp) (by simp [a0, a1, hti, zAV, his]) ?_; simp) | (refine awp_reg ?_; simp [a0, a1, hti, zAV, his]) | (refine awp_drawT (fun _ => false) mixed (by decide +kernel) ?_; simp [a0, a1, hti, zAV, his]) | (refine guarded_split ?_ ?_ <;> (intro hg; simp only [hg]; simp [a0, a1, hti, zAV, his])) | (apply awp_cond_t; focus (simp [a0, a1, hti, zAV, his]; done)) | (apply awp_cond_f; focus (simp [a0, a1, hti, zAV, his]; done)) | (refine awp_cond ?_; simp [a0, a1, hti, zAV, his]; refine ⟨?_, ?_⟩ <;> intro hc))
    refine retK_of (x := .tup []) (.inl rfl) (by simp) (.inl ?_)
    have hk : k = (mergeZ z).length := by simpa [mergeZ] using hkl
    rw [← hk]; exact hIk
  | cons r rest =>
    have hr := hin r (by simp)
    have hin0 : InZ rest := fun x hx => hin x (by simp [hx])
    simp only [List.length_cons] at hrl
    have c0 : ¬ (rest.length : Int) + 1 ≤ 0 := by omega
    have hiw : i ≠ ⟨3, τ.nx 3, 2⟩ := fun e => by have := fresh_none τ 3 2; rw [← e, hti] at this; cases this
    have hB1 : ∀ l q, ((τ.set i (.buf [zAV l fz])).new 3 2 (.buf [rgAV q])).m ⟨3, τ.nx 3, 2⟩ = some (.buf [rgAV q]) := fun l q => new_self (σ := τ.set i _)
    have hB2 : ∀ l q, ((τ.set i (.buf [zAV l fz])).new 3 2 (.buf [rgAV q])).m i = some (.buf [zAV l fz]) := fun l q => by rw [new_other (σ := τ.set i _) hiw, set_self, hti]; rfl
    have hB3 : ∀ l q q', ((τ.set i (.buf [zAV l fz])).new 3 2 (.buf [rgAV q])).set ⟨3, τ.nx 3, 2⟩ (.buf [rgAV q']) = (τ.set i (.buf [zAV l fz])).new 3 2 (.buf [rgAV q']) := fun l q q' => new_set (σ := τ.set i _)
    have hB4 : ∀ l q l', ((τ.set i (.buf [zAV l fz])).new 3 2 (.buf [rgAV q])).set i (.buf [zAV l' fz]) = (τ.set i (.buf [zAV l' fz])).new 3 2 (.buf [rgAV q]) := fun l q l' => by
      rw [new_set_other (σ := τ.set i _) hiw, set_set]
    have hB5 : ∀ l q, I k ((τ.set i (.buf [zAV l fz])).new 3 2 (.buf [rgAV q])) := fun l q => h1 k _ _ (h2 k τ _ hIk (by rw [hti]; simp)) (Ext.new _ _ _ _)
    have hB0 : ((τ.new 3 2 (.buf [AV.agg [.raw (.int .u32 r.lo), .raw (.int .u32 r.hi)]])).set i (.buf [zAV rest fz])) = (τ.set i (.buf [zAV rest fz])).new 3 2 (.buf [rgAV r]) := by
      rw [new_set_other hiw]; rfl
    have hA1 : ∀ x, (τ.new 3 2 x).m ⟨3, τ.nx 3, 2⟩ = some x := fun x => new_self
    have hA2 : ∀ x y, (τ.new 3 2 x).set ⟨3, τ.nx 3, 2⟩ y = τ.new 3 2 y := fun x y => new_set
    have hA3 : ∀ x, (τ.new 3 2 x).m i = some (.buf [zAV (r :: rest) fz]) := fun x => new_up _ _ hti
    generalize hw : (⟨3, τ.nx 3, 2⟩ : Id) = w at *
    have hws : w.sz = 2 := by rw [← hw]
    (try (first | (with_reducible refine dops_go ?_; simp [a0, a1, hti, zAV, rgAV, his, c0, hw, hA1, hA2, hA3]) | (with_reducible refine OKv_go ?_; simp [a0, a1, hti, zAV, rgAV, his, c0, hw, hA1, hA2, hA3]) | (with_reducible refine OKr_go ?_; simp [a0, a1, hti, zAV, rgAV, his, c0, hw, hA1, hA2, hA3]))); repeat' (first | refine awp_seq ?_ | refine awp_block ?_ | (refine awp_skip ?_; try simp) | (refine awp_exit ?_; try simp) | (refine awp_ret ?_; try simp) | (refine retP_same (by simp) ?_; simp) | (refine retP_flat (by simp) (by simp) (by simp [a0, a1, hti, zAV, rgAV, his, c0, hw, hA1, hA2, hA3]) ?_; simp) | (refine awp_reg ?_; simp [a0, a1, hti, zAV, rgAV, his, c0, hw, hA1, hA2, hA3]) | (refine awp_drawT (fun _ => false) mixed (by decide +kernel) ?_; simp [a0, a1, hti, zAV, rgAV, his, c0, hw, hA1, hA2, hA3]) | (refine guarded_split ?_ ?_ <;> (intro hg; simp only [hg]; simp [a0, a1, hti, zAV, rgAV, his, c0, hw, hA1, hA2, hA3])) | (apply awp_cond_t; focus (simp [a0, a1, hti, zAV, rgAV, his, c0, hw, hA1, hA2, hA3]; done)) | (apply awp_cond_f; focus (simp [a0, a1, hti, zAV, rgAV, his, c0, hw, hA1, hA2, hA3]; done)))
    clear hw hA1 hA2 hA3
    refine awp_block_cutH (fun A' τ' => ∃ r' rest', A' 0 = .fn (.yield b) [] [] ∧ A' 1 = .rp i 0 0 ∧ A' 3 = .rp w 0 0 ∧ τ' = (τ.set i (.buf [zAV rest' fz])).new 3 2 (.buf [rgAV r']) ∧ mg r' rest' = mg r rest ∧ InZ rest' ∧ rest'.length ≤ rest.length ∧ ∀ x, rest'[0]? = some x → ¬ x.lo ≤ r'.hi + 1) ?_ ?_
    · intro R1 hR1
      refine awp_loopH (fun n A' τ' => ∃ r' rest', A' 0 = .fn (.yield b) [] [] ∧ A' 1 = .rp i 0 0 ∧ A' 3 = .rp w 0 0 ∧ τ' = (τ.set i (.buf [zAV rest' fz])).new 3 2 (.buf [rgAV r']) ∧ mg r' rest' = mg r rest ∧ InZ rest' ∧ r'.In ∧ n = rest'.length ∧ n ≤ rest.length) rest.length ?_ ?_
      · exact ⟨r, rest, by simp [a0], by simp [a1], by simp, hB0, rfl, hin0, hr, rfl, Nat.le_refl _⟩
      clear a0 a1 hB0
      rintro n A τ' ⟨r', rest', a0, a1, a3, rfl, hmg, hin', hr', rfl, hle⟩ I2 hI2
      have g1 := hB1 rest' r'
      have g2 := hB2 rest' r'
      cases rest' with
      | nil =>
        generalize hs1 : (τ.set i (.buf [zAV [] fz])).new 3 2 (.buf [rgAV r']) = s1 at *
        simp only [zAV, rgAV, List.map_nil] at g1 g2
        (try (first | (with_reducible refine dops_go ?_; simp [a0, a1, a3, g1, g2, his, hws]) | (with_reducible refine OKv_go ?_; simp [a0, a1, a3, g1, g2, his, hws]) | (with_reducible refine OKr_go ?_; simp [a0, a1, a3, g1, g2, his, hws]))); repeat' (first | refine awp_seq ?_ | refine awp_block ?_ | (refine awp_skip ?_; try simp) | (refine awp_exit ?_; try simp) | (refine awp_ret ?_; try simp) | (refine retP_same (by simp) ?_; simp) | (refine retP_flat (by simp) (by simp) (by simp [a0, a1, a3, g1, g2, his, hws]) ?_; simp) | (refine awp_reg ?_; simp [a0, a1, a3, g1, g2, his, hws]) | (refine awp_drawT (fun _ => false) mixed (by decide +kernel) ?_; simp [a0, a1, a3, g1, g2, his, hws]) | (refine guarded_split ?_ ?_ <;> (intro hg; simp only [hg]; simp [a0, a1, a3, g1, g2, his, hws])) | (apply awp_cond_t; focus (simp [a0, a1, a3, g1, g2, his, hws]; done)) | (apply awp_cond_f; focus (simp [a0, a1, a3, g1, g2, his, hws]; done)) | (refine awp_cond ?_; simp [a0, a1, a3, g1, g2, his, hws]; refine ⟨?_, ?_⟩ <;> intro hc))
        exact hR1 _ _ ⟨r', [], by simp [a0], by simp [a1], by simp [a3], hs1.symm, hmg, hin', Nat.zero_le _, by simp⟩
      | cons x l =>
        have hx := hin' x (by simp)
        obtain ⟨x1, x2, x3, x4⟩ := hx
        obtain ⟨r1, r2, r3, r4⟩ := hr'
        have w1 : IntKind.u64.wrap x.lo = x.lo := wrapU64 (by omega) (by omega)
        have w2 : IntKind.u64.wrap r'.hi = r'.hi := wrapU64 (by omega) (by omega)
        have w3 : IntKind.u64.wrap (r'.hi + 1) = r'.hi + 1 := wrapU64 (by omega) (by omega)
        have c1 : (0 : Int) < (l.length : Int) + 1 := by omega
        by_cases hc : x.lo ≤ r'.hi + 1
        · have g3 := hB3 (x :: l) r' ⟨r'.lo, max r'.hi x.hi⟩
          have g4 := hB4 (x :: l) ⟨r'.lo, max r'.hi x.hi⟩ l
          have g5 := hB2 (x :: l) ⟨r'.lo, max r'.hi x.hi⟩
          have hmax : (if r'.hi < x.hi then x.hi else r'.hi) = max r'.hi x.hi := by rw [Int.max_def]; split <;> split <;> omega
          have fin := hI2 l.length
          generalize hs1 : (τ.set i (.buf [zAV (x :: l) fz])).new 3 2 (.buf [rgAV r']) = s1 at *
          generalize hs2 : (τ.set i (.buf [zAV (x :: l) fz])).new 3 2 (.buf [rgAV ⟨r'.lo, max r'.hi x.hi⟩]) = s2 at *
          generalize hs3 : (τ.set i (.buf [zAV l fz])).new 3 2 (.buf [rgAV ⟨r'.lo, max r'.hi x.hi⟩]) = s3 at *
          simp only [zAV, rgAV, List.map_cons] at g1 g2 g3 g4 g5
          (try (first | (with_reducible refine dops_go ?_; simp [a0, a1, a3, g1, g2, g3, g4, g5, his, hws, w1, w2, w3, c1, hc, hmax]) | (with_reducible refine OKv_go ?_; simp [a0, a1, a3, g1, g2, g3, g4, g5, his, hws, w1, w2, w3, c1, hc, hmax]) | (with_reducible refine OKr_go ?_; simp [a0, a1, a3, g1, g2, g3, g4, g5, his, hws, w1, w2, w3, c1, hc, hmax]))); repeat' (first | refine awp_seq ?_ | refine awp_block ?_ | (refine awp_skip ?_; try simp) | (refine awp_exit ?_; try simp) | (refine awp_ret ?_; try simp) | (refine retP_same (by simp) ?_; simp) | (refine retP_flat (by simp) (by simp) (by simp [a0, a1, a3, g1, g2, g3, g4, g5, his, hws, w1, w2, w3, c1, hc, hmax]) ?_; simp) | (refine awp_reg ?_; simp [a0, a1, a3, g1, g2, g3, g4, g5, his, hws, w1, w2, w3, c1, hc, hmax]) | (refine awp_drawT (fun _ => false) mixed (by decide +kernel) ?_; simp [a0, a1, a3, g1, g2, g3, g4, g5, his, hws, w1, w2, w3, c1, hc, hmax]) | (refine guarded_split ?_ ?_ <;> (intro hg; simp only [hg]; simp [a0, a1, a3, g1, g2, g3, g4, g5, his, hws, w1, w2, w3, c1, hc, hmax])) | (apply awp_cond_t; focus (simp [a0, a1, a3, g1, g2, g3, g4, g5, his, hws, w1, w2, w3, c1, hc, hmax]; done)) | (apply awp_cond_f; focus (simp [a0, a1, a3, g1, g2, g3, g4, g5, his, hws, w1, w2, w3, c1, hc, hmax]; done)) | (refine awp_cond ?_; simp [a0, a1, a3, g1, g2, g3, g4, g5, his, hws, w1, w2, w3, c1, hc, hmax]; refine ⟨?_, ?_⟩ <;> intro hc))
          refine fin _ _ (by simp) ⟨⟨r'.lo, max r'.hi x.hi⟩, l, by simp [a0], by simp [a1], by simp [a3], hs3.symm, ?_, fun y hy => hin' y (by simp [hy]), ⟨r1, r2, by simp only []; omega, by simp only []; omega⟩, rfl, by simp at hle; omega⟩
          rw [← hmg]
          conv => rhs; rw [mg, if_pos hc]
        · have fin := hR1
          generalize hs1 : (τ.set i (.buf [zAV (x :: l) fz])).new 3 2 (.buf [rgAV r']) = s1 at *
          simp only [zAV, rgAV, List.map_cons] at g1 g2
          (try (first | (with_reducible refine dops_go ?_; simp [a0, a1, a3, g1, g2, his, hws, w1, w2, w3, c1, hc]) | (with_reducible refine OKv_go ?_; simp [a0, a1, a3, g1, g2, his, hws, w1, w2, w3, c1, hc]) | (with_reducible refine OKr_go ?_; simp [a0, a1, a3, g1, g2, his, hws, w1, w2, w3, c1, hc]))); repeat' (first | refine awp_seq ?_ | refine awp_block ?_ | (refine awp_skip ?_; try simp) | (refine awp_exit ?_; try simp) | (refine awp_ret ?_; try simp) | (refine retP_same (by simp) ?_; simp) | (refine retP_flat (by simp) (by simp) (by simp [a0, a1, a3, g1, g2, his, hws, w1, w2, w3, c1, hc]) ?_; simp) | (refine awp_reg ?_; simp [a0, a1, a3, g1, g2, his, hws, w1, w2, w3, c1, hc]) | (refine awp_drawT (fun _ => false) mixed (by decide +kernel) ?_; simp [a0, a1, a3, g1, g2, his, hws, w1, w2, w3, c1, hc]) | (refine guarded_split ?_ ?_ <;> (intro hg; simp only [hg]; simp [a0, a1, a3, g1, g2, his, hws, w1, w2, w3, c1, hc])) | (apply awp_cond_t; focus (simp [a0, a1, a3, g1, g2, his, hws, w1, w2, w3, c1, hc]; done)) | (apply awp_cond_f; focus (simp [a0, a1, a3, g1, g2, his, hws, w1, w2, w3, c1, hc]; done)) | (refine awp_cond ?_; simp [a0, a1, a3, g1, g2, his, hws, w1, w2, w3, c1, hc]; refine ⟨?_, ?_⟩ <;> intro hc))
          exact fin _ _ ⟨r', x :: l, by simp [a0], by simp [a1], by simp [a3], hs1.symm, hmg, hin', by simpa using hle, by simpa using hc⟩
    clear a0 a1 hB0
    rintro A' _ ⟨r', rest', a0, a1, a3, rfl, hmg, hin', hle, hend⟩
    have g1 := hB1 rest' r'
    have g2 := hB2 rest' r'
    have g5 := hB5 rest' r'
    rw [show mergeZ (r :: rest) = mg r rest from rfl, ← hmg, mg_end hend] at hd hkl
    have hk : ((mergeZ z).map rgAV)[k]? = some (rgAV r') := by
      rw [List.getElem?_map]
      have : (mergeZ z)[k]? = some r' := by
        have h := congrArg (fun l => l[0]?) hd
        simpa using h
      rw [this]; rfl
    have hy := h3 k _ _ _ hk g5 g2
    generalize hs1 : (τ.set i (.buf [zAV rest' fz])).new 3 2 (.buf [rgAV r']) = s1 at *
    simp only [rgAV] at g1
    (try (first | (with_reducible refine dops_go ?_; simp [a0, a1, a3, g1, his, hws]) | (with_reducible refine OKv_go ?_; simp [a0, a1, a3, g1, his, hws]) | (with_reducible refine OKr_go ?_; simp [a0, a1, a3, g1, his, hws]))); repeat' (first | refine awp_seq ?_ | refine awp_block ?_ | (refine awp_skip ?_; try simp) | (refine awp_exit ?_; try simp) | (refine awp_ret ?_; try simp) | (refine retP_same (by simp) ?_; simp) | (refine retP_flat (by simp) (by simp) (by simp [a0, a1, a3, g1, his, hws]) ?_; simp) | (refine awp_reg ?_; simp [a0, a1, a3, g1, his, hws]) | (refine awp_drawT (fun _ => false) mixed (by decide +kernel) ?_; simp [a0, a1, a3, g1, his, hws]) | (refine guarded_split ?_ ?_ <;> (intro hg; simp only [hg]; simp [a0, a1, a3, g1, his, hws])) | (apply awp_cond_t; focus (simp [a0, a1, a3, g1, his, hws]; done)) | (apply awp_cond_f; focus (simp [a0, a1, a3, g1, his, hws]; done)) | (refine awp_cond ?_; simp [a0, a1, a3, g1, his, hws]; refine ⟨?_, ?_⟩ <;> intro hc))
    refine YK.mono ?_ hy
    rintro _ τ2 (⟨rfl, q1, q2⟩ | ⟨rfl, q⟩)
    · (try (first | (with_reducible refine dops_go ?_; simp [a0, a1, a3]) | (with_reducible refine OKv_go ?_; simp [a0, a1, a3]) | (with_reducible refine OKr_go ?_; simp [a0, a1, a3]))); repeat' (first | refine awp_seq ?_ | refine awp_block ?_ | (refine awp_skip ?_; try simp) | (refine awp_exit ?_; try simp) | (refine awp_ret ?_; try simp) | (refine retP_same (by simp) ?_; simp) | (refine retP_flat (by simp) (by simp) (by simp [a0, a1, a3]) ?_; simp) | (refine awp_reg ?_; simp [a0, a1, a3]) | (refine awp_drawT (fun _ => false) mixed (by decide +kernel) ?_; simp [a0, a1, a3]) | (refine guarded_split ?_ ?_ <;> (intro hg; simp only [hg]; simp [a0, a1, a3])) | (apply awp_cond_t; focus (simp [a0, a1, a3]; done)) | (apply awp_cond_f; focus (simp [a0, a1, a3]; done)) | (refine awp_cond ?_; simp [a0, a1, a3]; refine ⟨?_, ?_⟩ <;> intro hc))
      refine hI1 rest'.length _ _ (by simp; omega) ⟨k + 1, rest', by simp [a0], by simp [a1], q2, q1, ?_, by simp at hkl; omega, hin', by omega, rfl⟩
      have h := congrArg (fun l => l.drop 1) hd
      simpa [List.drop_drop, Nat.add_comm] using h
    · (try (first | (with_reducible refine dops_go ?_; simp [a0, a1, a3]) | (with_reducible refine OKv_go ?_; simp [a0, a1, a3]) | (with_reducible refine OKr_go ?_; simp [a0, a1, a3]))); repeat' (first | refine awp_seq ?_ | refine awp_block ?_ | (refine awp_skip ?_; try simp) | (refine awp_exit ?_; try simp) | (refine awp_ret ?_; try simp) | (refine retP_same (by simp) ?_; simp) | (refine retP_flat (by simp) (by simp) (by simp [a0, a1, a3]) ?_; simp) | (refine awp_reg ?_; simp [a0, a1, a3]) | (refine awp_drawT (fun _ => false) mixed (by decide +kernel) ?_; simp [a0, a1, a3]) | (refine guarded_split ?_ ?_ <;> (intro hg; simp only [hg]; simp [a0, a1, a3])) | (apply awp_cond_t; focus (simp [a0, a1, a3]; done)) | (apply awp_cond_f; focus (simp [a0, a1, a3]; done)) | (refine awp_cond ?_; simp [a0, a1, a3]; refine ⟨?_, ?_⟩ <;> intro hc))
      exact retK_of (x := .tup []) (.inr rfl) (by simp) (.inr q)
end Go.Proofs.Ytajikhpjjbohaaa.Av

/- Zones: zone.Of. -/
namespace Go.Proofs.Ytajikhpjjbohaaa.Av
open Go
set_option linter.unusedSimpArgs false
set_option linter.unusedVariables false
set_option maxRecDepth 100000
set_option maxHeartbeats 4000000
set_option pp.maxSteps 300

theorem weaker_tup {a b : AV} {l : List AV} (h : Weaker a b) : Weaker (.tup (a :: l)) (.tup (b :: l)) := by
  intro S v hv
  simp only [VRel, LRel] at hv ⊢
  obtain ⟨m, e, u, us, h1, h2, h3⟩ := hv
  exact ⟨m, e, u, us, h1, h _ _ h2, h3⟩
theorem retP_own2 {P : Program} {A : Env} {σ σ0 : St} {fn : Func} {e : Exit} {n : Nat} {v : AV} {es : List AV} {u : Value} (he : e = .normal ∨ e = .ret) (h : aresult P σ.m A fn.results = some (.tup [v, .raw u])) (hO : OwnL σ0 σ n v es) (hE : Ext σ0 σ) : RetP P fn σ0 (.tup [.sl n es false, .raw u]) e A σ := by
  have hm : ∀ i, σ0.m i ≠ none → σ.m i = σ0.m i := fun i hi => by
    obtain ⟨o, ho⟩ := Option.ne_none_iff_exists'.1 hi
    rw [ho]; exact hE.m i o ho
  rcases hO with ⟨rfl, rfl⟩ | ⟨j, rfl, hj, hmj, hn⟩
  · exact ⟨he, hE.nx, hm, _, h, weaker_tup weaker_sl⟩
  · refine ⟨he, hE.nx, hm, _, h, ?_⟩
    have e1 : giveUps σ0.m σ.m (.tup [.rs j 0 es.length, .raw u]) = .tup [.sl n es false, .raw u] := by
      simp only [giveUps, giveUp, hn, hmj, List.map_cons, List.map_nil]
      rw [if_pos (by simp), hj]; simp
    rw [e1]; exact Weaker.refl _

theorem mergedF_calls (z : List Rg) (full : Bool) {σ : St} : ACalls Try.prog 33 [zAV z full] σ fun r τ => ∃ i, r = .fn (.func 47) [] [.rp i 0 0] ∧ i.sz = 1 ∧ σ.m i = none ∧ τ.m i = some (.buf [zAV z full]) ∧ Ext σ τ := by
  refine abody Try.func33 rfl (N := 4) rfl rfl (by simp) ?_
  (try (first | (with_reducible refine dops_go ?_; simp [zAV]) | (with_reducible refine OKv_go ?_; simp [zAV]) | (with_reducible refine OKr_go ?_; simp [zAV]))); repeat' (first | refine awp_seq ?_ | refine awp_block ?_ | (refine awp_skip ?_; try simp) | (refine awp_exit ?_; try simp) | (refine awp_ret ?_; try simp) | (refine retP_same (by simp) ?_; simp) | (refine retP_flat (by simp) (by simp) (by simp [zAV]) ?_; simp) | (refine awp_reg ?_; simp [zAV]) | (refine awp_drawT (fun _ => false) mixed (by decide +kernel) ?_; simp [zAV]) | (refine guarded_split ?_ ?_ <;> (intro hg; simp only [hg]; simp [zAV])) | (apply awp_cond_t; focus (simp [zAV]; done)) | (apply awp_cond_f; focus (simp [zAV]; done)) | (refine awp_cond ?_; simp [zAV]; refine ⟨?_, ?_⟩ <;> intro hc))
  refine retK_of (x := .fn (.func 47) [] [.rp ⟨1, σ.nx 1, 1⟩ 0 0]) (.inr rfl) (by simp) ⟨_, rfl, rfl, fresh_none _ _ _, by simp [zAV], Ext.new _ _ _ _⟩

theorem loCmp : Cmp 31 fun r s => cmpI r.lo s.lo := ⟨of2_calls⟩
theorem loSWO : Sort.SWO (ltOf fun r s => cmpI r.lo s.lo) where
  irrefl := fun x => by simp [ltOf, cmpI]
  trans := fun x y z => by simp only [ltOf, decide_eq_true_eq, cmpI_neg]; omega
  ntrans := fun x y z => by simp only [ltOf, decide_eq_false_iff_not, cmpI_neg]; omega

theorem noIds_zAV (z : List Rg) (b : Bool) : noIds (zAV z b) := by
  simp only [noIds, zAV, AV.ids]
  induction z with
  | nil => simp [idsL]
  | cons r z ih => simp only [List.map_cons, idsL]; exact ⟨by simp [rgAV], ih⟩

/-- What zone.Of makes of ranges. -/
theorem of_calls (z : List Rg) (fz : Bool) (hz : InZ z) (hl : z.length < 256) (w : List Rg) (hw : ∀ z', z'.Perm z → SortedBy (fun r s => cmpI r.lo s.lo) z' → mergeZ z' = w) (ho : ∀ r ∈ z, r.lo ≤ r.hi) :
    PCalls Try.prog 9 [zAV z fz] (.tup [zAV w false, .raw (.int .i64 0)]) := by
  refine pbody Try.func9 rfl (N := 19) rfl rfl (by simp) (by have := noIds_zAV w false; simpa [noIds] using this) fun σ => ?_
  have hany : z.any (fun r => decide (r.hi < r.lo)) = false := by
    rw [List.any_eq_false]
    intro r hr
    have := ho r hr
    simp; omega
  have hc := containsFunc_calls (g := 28) (p := fun r => decide (r.hi < r.lo)) z fz (by omega) fun r _ => of1_calls r
  rw [hany] at hc
  (try (first | (with_reducible refine dops_go ?_; simp) | (with_reducible refine OKv_go ?_; simp) | (with_reducible refine OKr_go ?_; simp))); repeat' (first | refine awp_seq ?_ | refine awp_block ?_ | (refine awp_skip ?_; try simp) | (refine awp_exit ?_; try simp) | (refine awp_ret ?_; try simp) | (refine retP_same (by simp) ?_; simp) | (refine retP_flat (by simp) (by simp) (by simp) ?_; simp) | (refine awp_reg ?_; simp) | (refine awp_drawT (fun _ => false) mixed (by decide +kernel) ?_; simp) | (refine guarded_split ?_ ?_ <;> (intro hg; simp only [hg]; simp)) | (apply awp_cond_t; focus (simp; done)) | (apply awp_cond_f; focus (simp; done)) | (refine awp_cond ?_; simp; refine ⟨?_, ?_⟩ <;> intro hc))
  refine PCalls.use hc ?_
  (try (first | (with_reducible refine dops_go ?_; simp) | (with_reducible refine OKv_go ?_; simp) | (with_reducible refine OKr_go ?_; simp))); repeat' (first | refine awp_seq ?_ | refine awp_block ?_ | (refine awp_skip ?_; try simp) | (refine awp_exit ?_; try simp) | (refine awp_ret ?_; try simp) | (refine retP_same (by simp) ?_; simp) | (refine retP_flat (by simp) (by simp) (by simp) ?_; simp) | (refine awp_reg ?_; simp) | (refine awp_drawT (fun _ => false) mixed (by decide +kernel) ?_; simp) | (refine guarded_split ?_ ?_ <;> (intro hg; simp only [hg]; simp)) | (apply awp_cond_t; focus (simp; done)) | (apply awp_cond_f; focus (simp; done)) | (refine awp_cond ?_; simp; refine ⟨?_, ?_⟩ <;> intro hc))
  refine (values_calls z fz).mono ?_
  rintro _ τ1 ⟨i1, rfl, hi1n, hi1, hE1⟩
  (try (first | (with_reducible refine dops_go ?_; simp) | (with_reducible refine OKv_go ?_; simp) | (with_reducible refine OKr_go ?_; simp))); repeat' (first | refine awp_seq ?_ | refine awp_block ?_ | (refine awp_skip ?_; try simp) | (refine awp_exit ?_; try simp) | (refine awp_ret ?_; try simp) | (refine retP_same (by simp) ?_; simp) | (refine retP_flat (by simp) (by simp) (by simp) ?_; simp) | (refine awp_reg ?_; simp) | (refine awp_drawT (fun _ => false) mixed (by decide +kernel) ?_; simp) | (refine guarded_split ?_ ?_ <;> (intro hg; simp only [hg]; simp)) | (apply awp_cond_t; focus (simp; done)) | (apply awp_cond_f; focus (simp; done)) | (refine awp_cond ?_; simp; refine ⟨?_, ?_⟩ <;> intro hc))
  refine (sortedFunc_calls loCmp loSWO (values_is_iter i1 (full := fz) (z := z) (by omega)) (by omega) hi1).mono ?_
  rintro _ τ2 ⟨hB2, z', hp, hs, rfl⟩
  have hE2 : Ext σ τ2 := ⟨fun l o h => hB2.m l o (fun e => by rw [e, hi1n] at h; cases h) (hE1.m l o h), fun s => Nat.le_trans (hE1.nx s) (hB2.nx s)⟩
  have hmz := hw z' hp hs
  have hz' : InZ z' := fun r hr => hz r (hp.mem_iff.1 hr)
  have hl' : z'.length < 256 := by rw [hp.length_eq]; exact hl
  have hwl : w.length < 256 := by
    rw [← hmz]
    cases z' with
    | nil => simp [mergeZ]
    | cons r l => have := mg_len l r; simp [mergeZ] at hl' ⊢; omega
  have hw0 : σ.m ⟨4, τ2.nx 4, 1⟩ = none := ext_fresh hE2
  have hwm : (τ2.new 4 1 (.buf [.sl 0 [] true])).m ⟨4, τ2.nx 4, 1⟩ = some (.buf [.sl 0 [] true]) := by simp
  (try (first | (with_reducible refine dops_go ?_; simp) | (with_reducible refine OKv_go ?_; simp) | (with_reducible refine OKr_go ?_; simp))); repeat' (first | refine awp_seq ?_ | refine awp_block ?_ | (refine awp_skip ?_; try simp) | (refine awp_exit ?_; try simp) | (refine awp_ret ?_; try simp) | (refine retP_same (by simp) ?_; simp) | (refine retP_flat (by simp) (by simp) (by simp) ?_; simp) | (refine awp_reg ?_; simp) | (refine awp_drawT (fun _ => false) mixed (by decide +kernel) ?_; simp) | (refine guarded_split ?_ ?_ <;> (intro hg; simp only [hg]; simp)) | (apply awp_cond_t; focus (simp; done)) | (apply awp_cond_f; focus (simp; done)) | (refine awp_cond ?_; simp; refine ⟨?_, ?_⟩ <;> intro hc))
  refine (mergedF_calls z' false).mono ?_
  rintro _ τ3 ⟨i, rfl, his, hi0, hi, hE3⟩
  have hE : Ext σ τ3 := (hE2.trans (Ext.new _ _ _ _)).trans hE3
  have hi0' : σ.m i = none := by
    cases h : σ.m i with
    | none => rfl
    | some o => have := (hE2.trans (Ext.new τ2 4 1 (.buf [.sl 0 [] true]))).m i o h; rw [hi0] at this; cases this
  have hwi : (⟨4, τ2.nx 4, 1⟩ : Id) ≠ i := fun e => by rw [← e, hwm] at hi0; cases hi0
  have hwm := hE3.m _ _ hwm
  generalize (⟨4, τ2.nx 4, 1⟩ : Id) = wv at *
  (try (first | (with_reducible refine dops_go ?_; simp) | (with_reducible refine OKv_go ?_; simp) | (with_reducible refine OKr_go ?_; simp))); repeat' (first | refine awp_seq ?_ | refine awp_block ?_ | (refine awp_skip ?_; try simp) | (refine awp_exit ?_; try simp) | (refine awp_ret ?_; try simp) | (refine retP_same (by simp) ?_; simp) | (refine retP_flat (by simp) (by simp) (by simp) ?_; simp) | (refine awp_reg ?_; simp) | (refine awp_drawT (fun _ => false) mixed (by decide +kernel) ?_; simp) | (refine guarded_split ?_ ?_ <;> (intro hg; simp only [hg]; simp)) | (apply awp_cond_t; focus (simp; done)) | (apply awp_cond_f; focus (simp; done)) | (refine awp_cond ?_; simp; refine ⟨?_, ?_⟩ <;> intro hc))
  refine awp_gather (f := 47) (w := wv) (es0 := []) (n := 2) (by simp) (merged_is_iter i his (fz := false) hz' (by omega)) hE hi hi0' hwm hw0 hwi OwnL.nil ⟨by simp, by simp⟩ ?_ ?_
  · intro b lo L k x τ c hlo hL0 hLi hwL hx hG hc
    rw [hmz] at hx hG ⊢
    obtain ⟨r, hr, rfl⟩ : ∃ r, w[k]? = some r ∧ x = rgAV r := by
      rw [List.getElem?_map] at hx
      cases h : w[k]? with
      | none => rw [h] at hx; cases hx
      | some r => rw [h] at hx; injection hx with hx; exact ⟨r, rfl, hx.symm⟩
    have hk := (List.getElem?_eq_some_iff.1 hr).1
    refine YK.of hG.lp hlo rfl ?_
    clear hlo
    have h2 := hG.lp
    obtain ⟨g1, g2, g3, g4, v, g5, g6, g7⟩ := hG.start (slot := 5) (sz := 2) (x := .buf [rgAV r]) (lo2 := lo .busy none) hc hL0 hwL hLi
    (try (first | (with_reducible refine dops_go ?_; simp [-opAppend, h2, rg_cells, rg_fold]) | (with_reducible refine OKv_go ?_; simp [-opAppend, h2, rg_cells, rg_fold]) | (with_reducible refine OKr_go ?_; simp [-opAppend, h2, rg_cells, rg_fold]))); repeat' (first | refine awp_seq ?_ | refine awp_block ?_ | (refine awp_skip ?_; try simp) | (refine awp_exit ?_; try simp) | (refine awp_ret ?_; try simp) | (refine retP_same (by simp) ?_; simp) | (refine retP_flat (by simp) (by simp) (by simp [-opAppend, h2, rg_cells, rg_fold]) ?_; simp) | (refine awp_reg ?_; simp [-opAppend, h2, rg_cells, rg_fold]) | (refine awp_drawT (fun _ => false) mixed (by decide +kernel) ?_; simp [-opAppend, h2, rg_cells, rg_fold]) | (refine guarded_split ?_ ?_ <;> (intro hg; simp only [hg]; simp [-opAppend, h2, rg_cells, rg_fold])) | (apply awp_cond_t; focus (simp [-opAppend, h2, rg_cells, rg_fold]; done)) | (apply awp_cond_f; focus (simp [-opAppend, h2, rg_cells, rg_fold]; done)) | (refine awp_cond ?_; simp [-opAppend, h2, rg_cells, rg_fold]; refine ⟨?_, ?_⟩ <;> intro hc))
    generalize (τ.new 5 2 (.buf [rgAV r])).set L (lo .busy none) = s at *
    generalize (⟨5, τ.nx 5, 2⟩ : Id) = r5 at *
    have hvc := g6.cells
    (try (first | (with_reducible refine dops_go ?_; simp [-opAppend, g1, g5, rg_cells, rg_fold, hvc]) | (with_reducible refine OKv_go ?_; simp [-opAppend, g1, g5, rg_cells, rg_fold, hvc]) | (with_reducible refine OKr_go ?_; simp [-opAppend, g1, g5, rg_cells, rg_fold, hvc]))); repeat' (first | refine awp_seq ?_ | refine awp_block ?_ | (refine awp_skip ?_; try simp) | (refine awp_exit ?_; try simp) | (refine awp_ret ?_; try simp) | (refine retP_same (by simp) ?_; simp) | (refine retP_flat (by simp) (by simp) (by simp [-opAppend, g1, g5, rg_cells, rg_fold, hvc]) ?_; simp) | (refine awp_reg ?_; simp [-opAppend, g1, g5, rg_cells, rg_fold, hvc]) | (refine awp_drawT (fun _ => false) mixed (by decide +kernel) ?_; simp [-opAppend, g1, g5, rg_cells, rg_fold, hvc]) | (refine guarded_split ?_ ?_ <;> (intro hg; simp only [hg]; simp [-opAppend, g1, g5, rg_cells, rg_fold, hvc])) | (apply awp_cond_t; focus (simp [-opAppend, g1, g5, rg_cells, rg_fold, hvc]; done)) | (apply awp_cond_f; focus (simp [-opAppend, g1, g5, rg_cells, rg_fold, hvc]; done)))
    have hEs := Ext.new s 16 2 (.buf [rgAV r])
    refine okr_append slt22 (g6.ext hEs) (g4.trans hEs) (ys := [rgAV r]) (by simp) (.inr rfl) (by simp [rgAV]) (by simp; omega) ?_
    intro v' τ2 hO2 hE2 hkeep hnx
    obtain ⟨k1, k2⟩ := hkeep _ _ (hEs.m _ _ g5) g7.1
    obtain ⟨k3, k4⟩ := hkeep _ _ (hEs.m _ _ g2) g7.2.1
    obtain ⟨k5, k6⟩ := hkeep _ _ (hEs.m _ _ g3) g7.2.2
    obtain ⟨f1, f2, f3⟩ := Gath.fin (lo2 := lo .ready none) hE2 k3 k1 k5 hO2 ⟨k2, k4, k6⟩ hw0 hL0 hwL hwi hLi
    have f2 : Gath σ wv L i 2 (lo .ready none) (List.take k (w.map rgAV) ++ [rgAV r]) ((τ2.set wv (.buf [v'])).set L (lo .ready none)) := f2
    have hvc2 := hO2.cells
    have hvo2 := hO2.cellOK
    simp only [cellOK] at hvo2
    have hsp := g6.setPart (x := v')
    (try (first | (with_reducible refine dops_go ?_; simp [k1, hvc, hvc2, hvo2, hsp]) | (with_reducible refine OKv_go ?_; simp [k1, hvc, hvc2, hvo2, hsp]) | (with_reducible refine OKr_go ?_; simp [k1, hvc, hvc2, hvo2, hsp]))); repeat' (first | refine awp_seq ?_ | refine awp_block ?_ | (refine awp_skip ?_; try simp) | (refine awp_exit ?_; try simp) | (refine awp_ret ?_; try simp) | (refine retP_same (by simp) ?_; simp) | (refine retP_flat (by simp) (by simp) (by simp [k1, hvc, hvc2, hvo2, hsp]) ?_; simp) | (refine awp_reg ?_; simp [k1, hvc, hvc2, hvo2, hsp]) | (refine awp_drawT (fun _ => false) mixed (by decide +kernel) ?_; simp [k1, hvc, hvc2, hvo2, hsp]) | (refine guarded_split ?_ ?_ <;> (intro hg; simp only [hg]; simp [k1, hvc, hvc2, hvo2, hsp])) | (apply awp_cond_t; focus (simp [k1, hvc, hvc2, hvo2, hsp]; done)) | (apply awp_cond_f; focus (simp [k1, hvc, hvc2, hvo2, hsp]; done)) | (refine awp_cond ?_; simp [k1, hvc, hvc2, hvo2, hsp]; refine ⟨?_, ?_⟩ <;> intro hc))
    exact ⟨f1, by simpa using f2, f3⟩
  · rintro τ' hE' ⟨v, hv, hO⟩
    rw [hmz] at hO
    have hvc := hO.cells
    (try (first | (with_reducible refine dops_go ?_; simp [hv, hvc]) | (with_reducible refine OKv_go ?_; simp [hv, hvc]) | (with_reducible refine OKr_go ?_; simp [hv, hvc]))); repeat' (first | refine awp_seq ?_ | refine awp_block ?_ | (refine awp_skip ?_; try simp) | (refine awp_exit ?_; try simp) | (refine awp_ret ?_; try simp) | (refine retP_same (by simp) ?_; simp) | (refine retP_flat (by simp) (by simp) (by simp [hv, hvc]) ?_; simp) | (refine awp_reg ?_; simp [hv, hvc]) | (refine awp_drawT (fun _ => false) mixed (by decide +kernel) ?_; simp [hv, hvc]) | (refine guarded_split ?_ ?_ <;> (intro hg; simp only [hg]; simp [hv, hvc])) | (apply awp_cond_t; focus (simp [hv, hvc]; done)) | (apply awp_cond_f; focus (simp [hv, hvc]; done)) | (refine awp_cond ?_; simp [hv, hvc]; refine ⟨?_, ?_⟩ <;> intro hc))
    refine retP_own2 (.inr rfl) (by simp) hO hE'
end Go.Proofs.Ytajikhpjjbohaaa.Av

/- Zones: And, not, Minus, All. -/
namespace Go.Proofs.Ytajikhpjjbohaaa.Av
open Go
set_option linter.unusedSimpArgs false
set_option linter.unusedVariables false
set_option maxRecDepth 100000
set_option maxHeartbeats 4000000
set_option pp.maxSteps 300

theorem max_if (a b : Int) : (if a < b then b else a) = max a b := by rw [Int.max_def]; split <;> split <;> omega
theorem min_if (a b : Int) : (if b < a then b else a) = min a b := by rw [Int.min_def]; split <;> split <;> omega
theorem take_len_map {α β : Type} (f : α → β) (l : List α) : List.take l.length (l.map f) = l.map f := List.take_of_length_le (by simp)
theorem flat_sl {n : Nat} {es : List AV} {b : Bool} : (AV.sl n es b).flat1 = true := rfl

theorem and_calls (x y : List Rg) (fx fy : Bool) (hl : x.length + y.length < 2 ^ 40) : PCalls Try.prog 20 [zAV x fx, zAV y fy] (zAV (andZ x y) false) := by
  refine pbody Try.func20 rfl (N := 57) rfl rfl (by simp) (noIds_zAV _ _) fun σ => ?_
  (try (first | (with_reducible refine dops_go ?_; simp) | (with_reducible refine OKv_go ?_; simp) | (with_reducible refine OKr_go ?_; simp))); repeat' (first | refine awp_seq ?_ | refine awp_block ?_ | (refine awp_skip ?_; try simp) | (refine awp_exit ?_; try simp) | (refine awp_ret ?_; try simp) | (refine retP_same (by simp) ?_; simp) | (refine retP_flat (by simp) (by simp) (by simp) ?_; simp) | (refine awp_reg ?_; simp) | (refine awp_drawT (fun _ => false) mixed (by decide +kernel) ?_; simp) | (refine guarded_split ?_ ?_ <;> (intro hg; simp only [hg]; simp)) | (apply awp_cond_t; focus (simp; done)) | (apply awp_cond_f; focus (simp; done)) | (refine awp_cond ?_; simp; refine ⟨?_, ?_⟩ <;> intro hc))
  refine awp_loopH (fun n A τ => ∃ x' y' fx' fy' v out, A 0 = zAV x' fx' ∧ A 1 = zAV y' fy' ∧ A 5 = v ∧ OwnL σ τ 2 v (out.map rgAV) ∧ Ext σ τ ∧ out ++ andZ x' y' = andZ x y ∧ out.length + x'.length + y'.length ≤ x.length + y.length ∧ n = x'.length + y'.length) (x.length + y.length) ?_ ?_
  · exact ⟨x, y, fx, fy, .sl 0 [] true, [], by simp, by simp, by simp, OwnL.nil, Ext.refl _, rfl, by simp, rfl⟩
  rintro n A τ ⟨x', y', fx', fy', v, out, a0, a1, a5, hO, hE, hand, hlen, rfl⟩ I1 hI1
  cases x' with
  | nil =>
    (try (first | (with_reducible refine dops_go ?_; simp [a0, a1, a5, zAV]) | (with_reducible refine OKv_go ?_; simp [a0, a1, a5, zAV]) | (with_reducible refine OKr_go ?_; simp [a0, a1, a5, zAV]))); repeat' (first | refine awp_seq ?_ | refine awp_block ?_ | (refine awp_skip ?_; try simp) | (refine awp_exit ?_; try simp) | (refine awp_ret ?_; try simp) | (refine retP_same (by simp) ?_; simp) | (refine retP_flat (by simp) (by simp) (by simp [a0, a1, a5, zAV]) ?_; simp) | (refine awp_reg ?_; simp [a0, a1, a5, zAV]) | (refine awp_drawT (fun _ => false) mixed (by decide +kernel) ?_; simp [a0, a1, a5, zAV]) | (refine guarded_split ?_ ?_ <;> (intro hg; simp only [hg]; simp [a0, a1, a5, zAV])) | (apply awp_cond_t; focus (simp [a0, a1, a5, zAV]; done)) | (apply awp_cond_f; focus (simp [a0, a1, a5, zAV]; done)) | (refine awp_cond ?_; simp [a0, a1, a5, zAV]; refine ⟨?_, ?_⟩ <;> intro hc))
    have : out = andZ x y := by rw [← hand]; simp [andZ]
    subst this
    exact retP_own (.inr rfl) (by simp) hO hE
  | cons r x' =>
    cases y' with
    | nil =>
      have c1 : (0 : Int) < (x'.length : Int) + 1 := by omega
      (try (first | (with_reducible refine dops_go ?_; simp [a0, a1, a5, zAV, c1]) | (with_reducible refine OKv_go ?_; simp [a0, a1, a5, zAV, c1]) | (with_reducible refine OKr_go ?_; simp [a0, a1, a5, zAV, c1]))); repeat' (first | refine awp_seq ?_ | refine awp_block ?_ | (refine awp_skip ?_; try simp) | (refine awp_exit ?_; try simp) | (refine awp_ret ?_; try simp) | (refine retP_same (by simp) ?_; simp) | (refine retP_flat (by simp) (by simp) (by simp [a0, a1, a5, zAV, c1]) ?_; simp) | (refine awp_reg ?_; simp [a0, a1, a5, zAV, c1]) | (refine awp_drawT (fun _ => false) mixed (by decide +kernel) ?_; simp [a0, a1, a5, zAV, c1]) | (refine guarded_split ?_ ?_ <;> (intro hg; simp only [hg]; simp [a0, a1, a5, zAV, c1])) | (apply awp_cond_t; focus (simp [a0, a1, a5, zAV, c1]; done)) | (apply awp_cond_f; focus (simp [a0, a1, a5, zAV, c1]; done)) | (refine awp_cond ?_; simp [a0, a1, a5, zAV, c1]; refine ⟨?_, ?_⟩ <;> intro hc))
      have : out = andZ x y := by rw [← hand]; simp [andZ]
      subst this
      exact retP_own (.inr rfl) (by simp) hO hE
    | cons s y' =>
      simp only [List.length_cons] at hlen
      have c1 : (0 : Int) < (x'.length : Int) + 1 := by omega
      have c2 : (0 : Int) < (y'.length : Int) + 1 := by omega
      rw [andZ] at hand
      have q3 := max_if r.lo s.lo
      have q4 := min_if r.hi s.hi
      obtain ⟨lo, hlo⟩ : ∃ lo, max r.lo s.lo = lo := ⟨_, rfl⟩
      obtain ⟨hi, hhi⟩ : ∃ hi, min r.hi s.hi = hi := ⟨_, rfl⟩
      rw [hlo] at q3
      rw [hhi] at q4
      rw [hlo, hhi] at hand
      have hvo := hO.cellOK
      have hE6 := Ext.new τ 6 2 (.buf [AV.agg [.raw (.int .u32 lo), .raw (.int .u32 hi)]])
      have fin : ∀ (A'' : Env) (τ' : St) (v' : AV) (out' : List Rg), OwnL σ τ' 2 v' (out'.map rgAV) → Ext σ τ' → out'.length ≤ out.length + 1 → out' ++ (if r.hi < s.hi then andZ x' (s :: y') else andZ (r :: x') y') = andZ x y → A'' 5 = v' →
          (r.hi < s.hi → A'' 0 = zAV x' fx' ∧ A'' 1 = zAV (s :: y') fy') → (¬ r.hi < s.hi → A'' 0 = zAV (r :: x') fx' ∧ A'' 1 = zAV y' fy') → I1 A'' τ' := by
        intro A'' τ' v' out' hO' hE' hlen' hand' c5 h1 h2
        by_cases hb : r.hi < s.hi
        · rw [if_pos hb] at hand'
          exact hI1 (x'.length + (s :: y').length) _ _ (by simp) ⟨x', s :: y', fx', fy', v', out', (h1 hb).1, (h1 hb).2, c5, hO', hE', hand', by simp; omega, rfl⟩
        · rw [if_neg hb] at hand'
          exact hI1 ((r :: x').length + y'.length) _ _ (by simp) ⟨r :: x', y', fx', fy', v', out', (h2 hb).1, (h2 hb).2, c5, hO', hE', hand', by simp; omega, rfl⟩
      by_cases hq : lo ≤ hi
      · rw [if_pos hq] at hand
        (try (first | (with_reducible refine dops_go ?_; simp [-opAppend, a0, a1, a5, zAV, rgAV, c1, c2, q3, q4, hq]) | (with_reducible refine OKv_go ?_; simp [-opAppend, a0, a1, a5, zAV, rgAV, c1, c2, q3, q4, hq]) | (with_reducible refine OKr_go ?_; simp [-opAppend, a0, a1, a5, zAV, rgAV, c1, c2, q3, q4, hq]))); repeat' (first | refine awp_seq ?_ | refine awp_block ?_ | (refine awp_skip ?_; try simp) | (refine awp_exit ?_; try simp) | (refine awp_ret ?_; try simp) | (refine retP_same (by simp) ?_; simp) | (refine retP_flat (by simp) (by simp) (by simp [-opAppend, a0, a1, a5, zAV, rgAV, c1, c2, q3, q4, hq]) ?_; simp) | (refine awp_reg ?_; simp [-opAppend, a0, a1, a5, zAV, rgAV, c1, c2, q3, q4, hq]) | (refine awp_drawT (fun _ => false) mixed (by decide +kernel) ?_; simp [-opAppend, a0, a1, a5, zAV, rgAV, c1, c2, q3, q4, hq]) | (refine guarded_split ?_ ?_ <;> (intro hg; simp only [hg]; simp [-opAppend, a0, a1, a5, zAV, rgAV, c1, c2, q3, q4, hq])) | (apply awp_cond_t; focus (simp [-opAppend, a0, a1, a5, zAV, rgAV, c1, c2, q3, q4, hq]; done)) | (apply awp_cond_f; focus (simp [-opAppend, a0, a1, a5, zAV, rgAV, c1, c2, q3, q4, hq]; done)))
        have hE41 := hE6.trans (Ext.new (τ.new 6 2 (.buf [AV.agg [.raw (.int .u32 lo), .raw (.int .u32 hi)]])) 41 2 (.buf [AV.agg [.raw (.int .u32 lo), .raw (.int .u32 hi)]]))
        refine okr_append slt22 (hO.ext hE41) (hE.trans hE41) (ys := [rgAV ⟨lo, hi⟩]) (by simp [rgAV]) (.inr rfl) (by simp [rgAV]) (by simp; omega) ?_
        intro v' τ2 hO2 hE2 hkeep hnx
        clear hkeep
        have hO3 : OwnL σ τ2 2 v' ((out ++ [(⟨lo, hi⟩ : Rg)]).map rgAV) := by simpa using hO2
        by_cases hlt : r.hi < s.hi
        · (try (first | (with_reducible refine dops_go ?_; simp [a0, a1, a5, zAV, rgAV, c1, c2, hlt]) | (with_reducible refine OKv_go ?_; simp [a0, a1, a5, zAV, rgAV, c1, c2, hlt]) | (with_reducible refine OKr_go ?_; simp [a0, a1, a5, zAV, rgAV, c1, c2, hlt]))); repeat' (first | refine awp_seq ?_ | refine awp_block ?_ | (refine awp_skip ?_; try simp) | (refine awp_exit ?_; try simp) | (refine awp_ret ?_; try simp) | (refine retP_same (by simp) ?_; simp) | (refine retP_flat (by simp) (by simp) (by simp [a0, a1, a5, zAV, rgAV, c1, c2, hlt]) ?_; simp) | (refine awp_reg ?_; simp [a0, a1, a5, zAV, rgAV, c1, c2, hlt]) | (refine awp_drawT (fun _ => false) mixed (by decide +kernel) ?_; simp [a0, a1, a5, zAV, rgAV, c1, c2, hlt]) | (refine guarded_split ?_ ?_ <;> (intro hg; simp only [hg]; simp [a0, a1, a5, zAV, rgAV, c1, c2, hlt])) | (apply awp_cond_t; focus (simp [a0, a1, a5, zAV, rgAV, c1, c2, hlt]; done)) | (apply awp_cond_f; focus (simp [a0, a1, a5, zAV, rgAV, c1, c2, hlt]; done)) | (refine awp_cond ?_; simp [a0, a1, a5, zAV, rgAV, c1, c2, hlt]; refine ⟨?_, ?_⟩ <;> intro hc))
          exact fin _ _ v' _ hO3 hE2 (by simp) (by simpa using hand) (by simp) (fun _ => ⟨by simp [zAV, take_len_map], by simp [a1, zAV, rgAV]⟩) (fun h => absurd hlt h)
        · (try (first | (with_reducible refine dops_go ?_; simp [a0, a1, a5, zAV, rgAV, c1, c2, hlt]) | (with_reducible refine OKv_go ?_; simp [a0, a1, a5, zAV, rgAV, c1, c2, hlt]) | (with_reducible refine OKr_go ?_; simp [a0, a1, a5, zAV, rgAV, c1, c2, hlt]))); repeat' (first | refine awp_seq ?_ | refine awp_block ?_ | (refine awp_skip ?_; try simp) | (refine awp_exit ?_; try simp) | (refine awp_ret ?_; try simp) | (refine retP_same (by simp) ?_; simp) | (refine retP_flat (by simp) (by simp) (by simp [a0, a1, a5, zAV, rgAV, c1, c2, hlt]) ?_; simp) | (refine awp_reg ?_; simp [a0, a1, a5, zAV, rgAV, c1, c2, hlt]) | (refine awp_drawT (fun _ => false) mixed (by decide +kernel) ?_; simp [a0, a1, a5, zAV, rgAV, c1, c2, hlt]) | (refine guarded_split ?_ ?_ <;> (intro hg; simp only [hg]; simp [a0, a1, a5, zAV, rgAV, c1, c2, hlt])) | (apply awp_cond_t; focus (simp [a0, a1, a5, zAV, rgAV, c1, c2, hlt]; done)) | (apply awp_cond_f; focus (simp [a0, a1, a5, zAV, rgAV, c1, c2, hlt]; done)) | (refine awp_cond ?_; simp [a0, a1, a5, zAV, rgAV, c1, c2, hlt]; refine ⟨?_, ?_⟩ <;> intro hc))
          exact fin _ _ v' _ hO3 hE2 (by simp) (by simpa using hand) (by simp) (fun h => absurd h hlt) (fun _ => ⟨by simp [a0, zAV, rgAV], by simp [zAV, take_len_map]⟩)
      · rw [if_neg hq] at hand
        by_cases hlt : r.hi < s.hi
        · (try (first | (with_reducible refine dops_go ?_; simp [a0, a1, a5, zAV, rgAV, c1, c2, q3, q4, hq, hlt]) | (with_reducible refine OKv_go ?_; simp [a0, a1, a5, zAV, rgAV, c1, c2, q3, q4, hq, hlt]) | (with_reducible refine OKr_go ?_; simp [a0, a1, a5, zAV, rgAV, c1, c2, q3, q4, hq, hlt]))); repeat' (first | refine awp_seq ?_ | refine awp_block ?_ | (refine awp_skip ?_; try simp) | (refine awp_exit ?_; try simp) | (refine awp_ret ?_; try simp) | (refine retP_same (by simp) ?_; simp) | (refine retP_flat (by simp) (by simp) (by simp [a0, a1, a5, zAV, rgAV, c1, c2, q3, q4, hq, hlt]) ?_; simp) | (refine awp_reg ?_; simp [a0, a1, a5, zAV, rgAV, c1, c2, q3, q4, hq, hlt]) | (refine awp_drawT (fun _ => false) mixed (by decide +kernel) ?_; simp [a0, a1, a5, zAV, rgAV, c1, c2, q3, q4, hq, hlt]) | (refine guarded_split ?_ ?_ <;> (intro hg; simp only [hg]; simp [a0, a1, a5, zAV, rgAV, c1, c2, q3, q4, hq, hlt])) | (apply awp_cond_t; focus (simp [a0, a1, a5, zAV, rgAV, c1, c2, q3, q4, hq, hlt]; done)) | (apply awp_cond_f; focus (simp [a0, a1, a5, zAV, rgAV, c1, c2, q3, q4, hq, hlt]; done)) | (refine awp_cond ?_; simp [a0, a1, a5, zAV, rgAV, c1, c2, q3, q4, hq, hlt]; refine ⟨?_, ?_⟩ <;> intro hc))
          exact fin _ _ v out (hO.ext hE6) (hE.trans hE6) (by omega) (by simpa using hand) (by simp [a5]) (fun _ => ⟨by simp [zAV, take_len_map], by simp [a1, zAV, rgAV]⟩) (fun h => absurd hlt h)
        · (try (first | (with_reducible refine dops_go ?_; simp [a0, a1, a5, zAV, rgAV, c1, c2, q3, q4, hq, hlt]) | (with_reducible refine OKv_go ?_; simp [a0, a1, a5, zAV, rgAV, c1, c2, q3, q4, hq, hlt]) | (with_reducible refine OKr_go ?_; simp [a0, a1, a5, zAV, rgAV, c1, c2, q3, q4, hq, hlt]))); repeat' (first | refine awp_seq ?_ | refine awp_block ?_ | (refine awp_skip ?_; try simp) | (refine awp_exit ?_; try simp) | (refine awp_ret ?_; try simp) | (refine retP_same (by simp) ?_; simp) | (refine retP_flat (by simp) (by simp) (by simp [a0, a1, a5, zAV, rgAV, c1, c2, q3, q4, hq, hlt]) ?_; simp) | (refine awp_reg ?_; simp [a0, a1, a5, zAV, rgAV, c1, c2, q3, q4, hq, hlt]) | (refine awp_drawT (fun _ => false) mixed (by decide +kernel) ?_; simp [a0, a1, a5, zAV, rgAV, c1, c2, q3, q4, hq, hlt]) | (refine guarded_split ?_ ?_ <;> (intro hg; simp only [hg]; simp [a0, a1, a5, zAV, rgAV, c1, c2, q3, q4, hq, hlt])) | (apply awp_cond_t; focus (simp [a0, a1, a5, zAV, rgAV, c1, c2, q3, q4, hq, hlt]; done)) | (apply awp_cond_f; focus (simp [a0, a1, a5, zAV, rgAV, c1, c2, q3, q4, hq, hlt]; done)) | (refine awp_cond ?_; simp [a0, a1, a5, zAV, rgAV, c1, c2, q3, q4, hq, hlt]; refine ⟨?_, ?_⟩ <;> intro hc))
          exact fin _ _ v out (hO.ext hE6) (hE.trans hE6) (by omega) (by simpa using hand) (by simp [a5]) (fun h => absurd h hlt) (fun _ => ⟨by simp [a0, zAV, rgAV], by simp [zAV, take_len_map]⟩)

theorem not_calls (z : List Rg) (fz : Bool) (hz : InZ z) (hl : z.length < 2 ^ 40) : PCalls Try.prog 41 [zAV z fz] (zAV (notZ 0 z) false) := by
  refine pbody Try.func41 rfl (N := 41) rfl rfl (by simp) (noIds_zAV _ _) fun σ => ?_
  (try (first | (with_reducible refine dops_go ?_; simp [zAV]) | (with_reducible refine OKv_go ?_; simp [zAV]) | (with_reducible refine OKr_go ?_; simp [zAV]))); repeat' (first | refine awp_seq ?_ | refine awp_block ?_ | (refine awp_skip ?_; try simp) | (refine awp_exit ?_; try simp) | (refine awp_ret ?_; try simp) | (refine retP_same (by simp) ?_; simp) | (refine retP_flat (by simp) (by simp) (by simp [zAV]) ?_; simp) | (refine awp_reg ?_; simp [zAV]) | (refine awp_drawT (fun _ => false) mixed (by decide +kernel) ?_; simp [zAV]) | (refine guarded_split ?_ ?_ <;> (intro hg; simp only [hg]; simp [zAV])) | (apply awp_cond_t; focus (simp [zAV]; done)) | (apply awp_cond_f; focus (simp [zAV]; done)) | (refine awp_cond ?_; simp [zAV]; refine ⟨?_, ?_⟩ <;> intro hc))
  refine awp_block_cutH (fun A τ => ∃ v at_ out, A 3 = v ∧ A 4 = .raw (.int .u64 at_) ∧ OwnL σ τ 2 v (out.map rgAV) ∧ Ext σ τ ∧ 0 ≤ at_ ∧ at_ ≤ 4294967296 ∧ out.length ≤ z.length ∧ out ++ notZ at_ [] = notZ 0 z) ?_ ?_
  · intro R1 hR1
    refine awp_loopH (fun n A τ => ∃ i v at_ out, A 7 = zAV z fz ∧ A 8 = .raw (.int .i64 z.length) ∧ A 9 = .raw (.int .i64 (i : Nat)) ∧ A 3 = v ∧ A 4 = .raw (.int .u64 at_) ∧ OwnL σ τ 2 v (out.map rgAV) ∧ Ext σ τ ∧ 0 ≤ at_ ∧ at_ ≤ 4294967296 ∧ out.length ≤ i ∧ i ≤ z.length ∧ out ++ notZ at_ (z.drop i) = notZ 0 z ∧ n = z.length - i) z.length ?_ ?_
    · exact ⟨0, .sl 0 [] true, 0, [], by simp [zAV], by simp, by simp, by simp, by simp, OwnL.nil, Ext.refl _, by omega, by omega, by simp, by omega, by simp, by omega⟩
    rintro n A τ ⟨i, v, at_, out, a7, a8, a9, a3, a4, hO, hE, h0, h1, hol, hiz, hnot, rfl⟩ I1 hI1
    by_cases hlt : i < z.length
    · have hx : z[i]? = some z[i] := List.getElem?_eq_getElem hlt
      obtain ⟨x1, x2, x3, x4⟩ := hz z[i] (List.getElem_mem _)
      have w1 : IntKind.i64.wrap ((i : Int) + 1) = ((i + 1 : Nat) : Int) := by rw [wrap64 (by omega) (by omega)]; omega
      rw [List.drop_eq_getElem_cons hlt, notZ] at hnot
      have w2 : IntKind.u64.wrap z[i].lo = z[i].lo := wrapU64 (by omega) (by omega)
      have w3 : IntKind.u64.wrap z[i].hi = z[i].hi := wrapU64 (by omega) (by omega)
      have w4 : IntKind.u64.wrap (z[i].hi + 1) = z[i].hi + 1 := wrapU64 (by omega) (by omega)
      by_cases hc : at_ < z[i].lo
      · have w5 : IntKind.u32.wrap at_ = at_ := wrapU32 (by omega) (by omega)
        obtain ⟨rl1, hrl1⟩ : ∃ rl1, z[i].lo - 1 = rl1 := ⟨_, rfl⟩
        have w6 : IntKind.u32.wrap (z[i].lo - 1) = rl1 := by rw [wrapU32 (by omega) (by omega)]; exact hrl1
        rw [if_pos hc] at hnot
        obtain ⟨rh1, hrh1⟩ : ∃ rh1, z[i].hi + 1 = rh1 := ⟨_, rfl⟩
        rw [hrl1, hrh1] at hnot
        have w4 : IntKind.u64.wrap (z[i].hi + 1) = rh1 := by rw [w4]; exact hrh1
        (try (first | (with_reducible refine dops_go ?_; simp [-opAppend, a7, a8, a9, a3, a4, zAV, hlt, hx, rgAV, w1, w2, w3, w4, w5, w6, hc]) | (with_reducible refine OKv_go ?_; simp [-opAppend, a7, a8, a9, a3, a4, zAV, hlt, hx, rgAV, w1, w2, w3, w4, w5, w6, hc]) | (with_reducible refine OKr_go ?_; simp [-opAppend, a7, a8, a9, a3, a4, zAV, hlt, hx, rgAV, w1, w2, w3, w4, w5, w6, hc]))); repeat' (first | refine awp_seq ?_ | refine awp_block ?_ | (refine awp_skip ?_; try simp) | (refine awp_exit ?_; try simp) | (refine awp_ret ?_; try simp) | (refine retP_same (by simp) ?_; simp) | (refine retP_flat (by simp) (by simp) (by simp [-opAppend, a7, a8, a9, a3, a4, zAV, hlt, hx, rgAV, w1, w2, w3, w4, w5, w6, hc]) ?_; simp) | (refine awp_reg ?_; simp [-opAppend, a7, a8, a9, a3, a4, zAV, hlt, hx, rgAV, w1, w2, w3, w4, w5, w6, hc]) | (refine awp_drawT (fun _ => false) mixed (by decide +kernel) ?_; simp [-opAppend, a7, a8, a9, a3, a4, zAV, hlt, hx, rgAV, w1, w2, w3, w4, w5, w6, hc]) | (refine guarded_split ?_ ?_ <;> (intro hg; simp only [hg]; simp [-opAppend, a7, a8, a9, a3, a4, zAV, hlt, hx, rgAV, w1, w2, w3, w4, w5, w6, hc])) | (apply awp_cond_t; focus (simp [-opAppend, a7, a8, a9, a3, a4, zAV, hlt, hx, rgAV, w1, w2, w3, w4, w5, w6, hc]; done)) | (apply awp_cond_f; focus (simp [-opAppend, a7, a8, a9, a3, a4, zAV, hlt, hx, rgAV, w1, w2, w3, w4, w5, w6, hc]; done)))
        have hE6 := Ext.new τ 6 2 (.buf [AV.agg [.raw (.int .u32 z[i].lo), .raw (.int .u32 z[i].hi)]])
        have hE25 := hE6.trans (Ext.new (τ.new 6 2 (.buf [AV.agg [.raw (.int .u32 z[i].lo), .raw (.int .u32 z[i].hi)]])) 25 2 (.buf [AV.agg [.raw (.int .u32 at_), .raw (.int .u32 rl1)]]))
        refine okr_append slt22 (hO.ext hE25) (hE.trans hE25) (ys := [rgAV ⟨at_, rl1⟩]) (by simp [rgAV]) (.inr rfl) (by simp [rgAV]) (by simp; omega) ?_
        intro v' τ2 hO2 hE2 hkeep hnx
        have hO3 : OwnL σ τ2 2 v' ((out ++ [(⟨at_, rl1⟩ : Rg)]).map rgAV) := by simpa using hO2
        have hk6 : τ2.m ⟨6, τ.nx 6, 2⟩ = some (.buf [AV.agg [.raw (.int .u32 z[i].lo), .raw (.int .u32 z[i].hi)]]) := by
          refine (hkeep _ _ (new_up _ _ new_self) ?_).1
          intro a l e
          rcases hO with ⟨_, e2⟩ | ⟨j, e2, _, h3, _⟩
          · rw [e] at e2; cases e2
          · rw [e] at e2; injection e2 with e2; rw [← e2, fresh_none] at h3; cases h3
        clear hkeep
        (try (first | (with_reducible refine dops_go ?_; simp [a7, a8, a9, a3, a4, hk6, w3, w4, w1]) | (with_reducible refine OKv_go ?_; simp [a7, a8, a9, a3, a4, hk6, w3, w4, w1]) | (with_reducible refine OKr_go ?_; simp [a7, a8, a9, a3, a4, hk6, w3, w4, w1]))); repeat' (first | refine awp_seq ?_ | refine awp_block ?_ | (refine awp_skip ?_; try simp) | (refine awp_exit ?_; try simp) | (refine awp_ret ?_; try simp) | (refine retP_same (by simp) ?_; simp) | (refine retP_flat (by simp) (by simp) (by simp [a7, a8, a9, a3, a4, hk6, w3, w4, w1]) ?_; simp) | (refine awp_reg ?_; simp [a7, a8, a9, a3, a4, hk6, w3, w4, w1]) | (refine awp_drawT (fun _ => false) mixed (by decide +kernel) ?_; simp [a7, a8, a9, a3, a4, hk6, w3, w4, w1]) | (refine guarded_split ?_ ?_ <;> (intro hg; simp only [hg]; simp [a7, a8, a9, a3, a4, hk6, w3, w4, w1])) | (apply awp_cond_t; focus (simp [a7, a8, a9, a3, a4, hk6, w3, w4, w1]; done)) | (apply awp_cond_f; focus (simp [a7, a8, a9, a3, a4, hk6, w3, w4, w1]; done)) | (refine awp_cond ?_; simp [a7, a8, a9, a3, a4, hk6, w3, w4, w1]; refine ⟨?_, ?_⟩ <;> intro hc))
        exact hI1 (z.length - (i + 1)) _ _ (by omega) ⟨i + 1, v', rh1, out ++ [⟨at_, rl1⟩], by simp [a7, zAV, rgAV], by simp [a8], by simp, by simp, by simp, hO3, hE2, by omega, by omega, by simp; omega, by omega, by simpa using hnot, rfl⟩
      · rw [if_neg hc] at hnot
        obtain ⟨rh1, hrh1⟩ : ∃ rh1, z[i].hi + 1 = rh1 := ⟨_, rfl⟩
        rw [hrh1] at hnot
        have w4 : IntKind.u64.wrap (z[i].hi + 1) = rh1 := by rw [w4]; exact hrh1
        have hE6 := Ext.new τ 6 2 (.buf [AV.agg [.raw (.int .u32 z[i].lo), .raw (.int .u32 z[i].hi)]])
        (try (first | (with_reducible refine dops_go ?_; simp [a7, a8, a9, a3, a4, zAV, hlt, hx, rgAV, w1, w2, w3, w4, hc]) | (with_reducible refine OKv_go ?_; simp [a7, a8, a9, a3, a4, zAV, hlt, hx, rgAV, w1, w2, w3, w4, hc]) | (with_reducible refine OKr_go ?_; simp [a7, a8, a9, a3, a4, zAV, hlt, hx, rgAV, w1, w2, w3, w4, hc]))); repeat' (first | refine awp_seq ?_ | refine awp_block ?_ | (refine awp_skip ?_; try simp) | (refine awp_exit ?_; try simp) | (refine awp_ret ?_; try simp) | (refine retP_same (by simp) ?_; simp) | (refine retP_flat (by simp) (by simp) (by simp [a7, a8, a9, a3, a4, zAV, hlt, hx, rgAV, w1, w2, w3, w4, hc]) ?_; simp) | (refine awp_reg ?_; simp [a7, a8, a9, a3, a4, zAV, hlt, hx, rgAV, w1, w2, w3, w4, hc]) | (refine awp_drawT (fun _ => false) mixed (by decide +kernel) ?_; simp [a7, a8, a9, a3, a4, zAV, hlt, hx, rgAV, w1, w2, w3, w4, hc]) | (refine guarded_split ?_ ?_ <;> (intro hg; simp only [hg]; simp [a7, a8, a9, a3, a4, zAV, hlt, hx, rgAV, w1, w2, w3, w4, hc])) | (apply awp_cond_t; focus (simp [a7, a8, a9, a3, a4, zAV, hlt, hx, rgAV, w1, w2, w3, w4, hc]; done)) | (apply awp_cond_f; focus (simp [a7, a8, a9, a3, a4, zAV, hlt, hx, rgAV, w1, w2, w3, w4, hc]; done)) | (refine awp_cond ?_; simp [a7, a8, a9, a3, a4, zAV, hlt, hx, rgAV, w1, w2, w3, w4, hc]; refine ⟨?_, ?_⟩ <;> intro hc))
        exact hI1 (z.length - (i + 1)) _ _ (by omega) ⟨i + 1, v, rh1, out, by simp [a7, zAV, rgAV], by simp [a8], by simp, by simp [a3], by simp, hO.ext hE6, hE.trans hE6, by omega, by omega, by omega, by omega, by simpa using hnot, rfl⟩
    · have : i = z.length := by omega
      subst this
      (try (first | (with_reducible refine dops_go ?_; simp [a7, a8, a9, a3, a4, zAV]) | (with_reducible refine OKv_go ?_; simp [a7, a8, a9, a3, a4, zAV]) | (with_reducible refine OKr_go ?_; simp [a7, a8, a9, a3, a4, zAV]))); repeat' (first | refine awp_seq ?_ | refine awp_block ?_ | (refine awp_skip ?_; try simp) | (refine awp_exit ?_; try simp) | (refine awp_ret ?_; try simp) | (refine retP_same (by simp) ?_; simp) | (refine retP_flat (by simp) (by simp) (by simp [a7, a8, a9, a3, a4, zAV]) ?_; simp) | (refine awp_reg ?_; simp [a7, a8, a9, a3, a4, zAV]) | (refine awp_drawT (fun _ => false) mixed (by decide +kernel) ?_; simp [a7, a8, a9, a3, a4, zAV]) | (refine guarded_split ?_ ?_ <;> (intro hg; simp only [hg]; simp [a7, a8, a9, a3, a4, zAV])) | (apply awp_cond_t; focus (simp [a7, a8, a9, a3, a4, zAV]; done)) | (apply awp_cond_f; focus (simp [a7, a8, a9, a3, a4, zAV]; done)) | (refine awp_cond ?_; simp [a7, a8, a9, a3, a4, zAV]; refine ⟨?_, ?_⟩ <;> intro hc))
      exact hR1 _ _ ⟨v, at_, out, by simp [a3], by simp [a4], hO, hE, h0, h1, hol, by simpa using hnot⟩
  · rintro A τ ⟨v, at_, out, a3, a4, hO, hE, h0, h1, hol, hnot⟩
    by_cases hc : at_ ≤ 4294967295
    · have w5 : IntKind.u32.wrap at_ = at_ := wrapU32 (by omega) (by omega)
      rw [notZ, if_pos hc] at hnot
      (try (first | (with_reducible refine dops_go ?_; simp [-opAppend, a3, a4, hc, w5]) | (with_reducible refine OKv_go ?_; simp [-opAppend, a3, a4, hc, w5]) | (with_reducible refine OKr_go ?_; simp [-opAppend, a3, a4, hc, w5]))); repeat' (first | refine awp_seq ?_ | refine awp_block ?_ | (refine awp_skip ?_; try simp) | (refine awp_exit ?_; try simp) | (refine awp_ret ?_; try simp) | (refine retP_same (by simp) ?_; simp) | (refine retP_flat (by simp) (by simp) (by simp [-opAppend, a3, a4, hc, w5]) ?_; simp) | (refine awp_reg ?_; simp [-opAppend, a3, a4, hc, w5]) | (refine awp_drawT (fun _ => false) mixed (by decide +kernel) ?_; simp [-opAppend, a3, a4, hc, w5]) | (refine guarded_split ?_ ?_ <;> (intro hg; simp only [hg]; simp [-opAppend, a3, a4, hc, w5])) | (apply awp_cond_t; focus (simp [-opAppend, a3, a4, hc, w5]; done)) | (apply awp_cond_f; focus (simp [-opAppend, a3, a4, hc, w5]; done)))
      have hE37 := Ext.new τ 38 2 (.buf [AV.agg [.raw (.int .u32 at_), .raw (.int .u32 4294967295)]])
      refine okr_append slt22 (hO.ext hE37) (hE.trans hE37) (ys := [rgAV ⟨at_, 4294967295⟩]) (by simp [rgAV]) (.inr rfl) (by simp [rgAV]) (by simp; omega) ?_
      intro v' τ2 hO2 hE2 hkeep hnx
      have hO3 : OwnL σ τ2 2 v' ((out ++ [(⟨at_, 4294967295⟩ : Rg)]).map rgAV) := by simpa using hO2
      rw [hnot] at hO3
      clear hkeep
      (try (first | (with_reducible refine dops_go ?_; simp) | (with_reducible refine OKv_go ?_; simp) | (with_reducible refine OKr_go ?_; simp))); repeat' (first | refine awp_seq ?_ | refine awp_block ?_ | (refine awp_skip ?_; try simp) | (refine awp_exit ?_; try simp) | (refine awp_ret ?_; try simp) | (refine retP_same (by simp) ?_; simp) | (refine retP_flat (by simp) (by simp) (by simp) ?_; simp) | (refine awp_reg ?_; simp) | (refine awp_drawT (fun _ => false) mixed (by decide +kernel) ?_; simp) | (refine guarded_split ?_ ?_ <;> (intro hg; simp only [hg]; simp)) | (apply awp_cond_t; focus (simp; done)) | (apply awp_cond_f; focus (simp; done)) | (refine awp_cond ?_; simp; refine ⟨?_, ?_⟩ <;> intro hc))
      exact retP_own (.inr rfl) (by simp) hO3 hE2
    · rw [notZ, if_neg hc, List.append_nil] at hnot
      subst hnot
      (try (first | (with_reducible refine dops_go ?_; simp [a3, a4, hc]) | (with_reducible refine OKv_go ?_; simp [a3, a4, hc]) | (with_reducible refine OKr_go ?_; simp [a3, a4, hc]))); repeat' (first | refine awp_seq ?_ | refine awp_block ?_ | (refine awp_skip ?_; try simp) | (refine awp_exit ?_; try simp) | (refine awp_ret ?_; try simp) | (refine retP_same (by simp) ?_; simp) | (refine retP_flat (by simp) (by simp) (by simp [a3, a4, hc]) ?_; simp) | (refine awp_reg ?_; simp [a3, a4, hc]) | (refine awp_drawT (fun _ => false) mixed (by decide +kernel) ?_; simp [a3, a4, hc]) | (refine guarded_split ?_ ?_ <;> (intro hg; simp only [hg]; simp [a3, a4, hc])) | (apply awp_cond_t; focus (simp [a3, a4, hc]; done)) | (apply awp_cond_f; focus (simp [a3, a4, hc]; done)) | (refine awp_cond ?_; simp [a3, a4, hc]; refine ⟨?_, ?_⟩ <;> intro hc))
      exact retP_own (.inr rfl) (by simp) hO hE
end Go.Proofs.Ytajikhpjjbohaaa.Av

/- Zones: Minus, All, Grow, Concat, Or. -/
namespace Go.Proofs.Ytajikhpjjbohaaa.Av
open Go
set_option linter.unusedSimpArgs false
set_option linter.unusedVariables false
set_option maxRecDepth 100000
set_option maxHeartbeats 4000000
set_option pp.maxSteps 300

/-- Knowing less of a list. -/
theorem SRel.forget {σ : St} {S : Ctx} (hS : SRel σ S) {j : Id} {es : List AV} (k : Nat) (hj : σ.m j = some (.buf es)) : SRel (σ.set j (.buf (es.take k))) S := by
  have hne : ∀ i, (σ.set j (.buf (es.take k))).m i ≠ none → σ.m i ≠ none := fun i hi h0 => hi (by
    by_cases e : i = j
    · subst e; rw [set_self, h0]; rfl
    · rw [set_other e]; exact h0)
  refine ⟨hS.kn, fun i o hi => ?_, fun i i' hi hi' => hS.inj i i' (hne i hi) (hne i' hi')⟩
  by_cases e : i = j
  · subst e
    rw [set_self, hj] at hi
    simp only [Option.map_some, Option.some.injEq] at hi
    subst hi
    obtain ⟨h1, h2, h3, c, t, h4, h5, h6⟩ := hS.live i _ hj
    refine ⟨h1, h2, h3, c, t, h4, ?_, h6.take k⟩
    have : (es.take k).length ≤ es.length := by simp; omega
    exact Nat.le_trans (Nat.mul_le_mul_right _ this) h5
  · rw [set_other e] at hi; exact hS.live i o hi
theorem ACalls.forget {P : Program} {f : FuncId} {args : List AV} {σ : St} {K : AV → St → Prop} (h : ACalls P f args σ fun r τ => K r τ ∨ ∃ j k es, τ.m j = some (.buf es) ∧ K r (τ.set j (.buf (es.take k)))) : ACalls P f args σ K := by
  refine ⟨h.1, fun S vs hS hl => (h.2 S vs hS hl).mono ?_⟩
  rintro e w' ⟨S', σ', r, v, h1, h2, h3, h4, h5, h6 | ⟨j, k, es, hj, h6⟩⟩
  · exact ⟨S', σ', r, v, h1, h2, h3, h4, h5, h6⟩
  · exact ⟨S', _, r, v, h1, h2, h3, h4.forget k hj, h5, h6⟩

theorem minus_calls (x y : List Rg) (fx fy : Bool) (hy : InZ y) (hl : x.length + y.length < 2 ^ 38) : PCalls Try.prog 24 [zAV x fx, zAV y fy] (zAV (andZ x (notZ 0 y)) false) := by
  refine pbody Try.func24 rfl (N := 9) rfl rfl (by simp) (noIds_zAV _ _) fun σ => ?_
  have hn : ∀ (y : List Rg) (b : Int), (notZ b y).length ≤ y.length + 1 := by
    intro y
    induction y with
    | nil => intro b; unfold notZ; split <;> simp
    | cons r y ih => intro b; have := ih (r.hi + 1); unfold notZ; split <;> simp <;> omega
  have := hn y 0
  (try (first | (with_reducible refine dops_go ?_; simp) | (with_reducible refine OKv_go ?_; simp) | (with_reducible refine OKr_go ?_; simp))); repeat' (first | refine awp_seq ?_ | refine awp_block ?_ | (refine awp_skip ?_; try simp) | (refine awp_exit ?_; try simp) | (refine awp_ret ?_; try simp) | (refine retP_same (by simp) ?_; simp) | (refine retP_flat (by simp) (by simp) (by simp) ?_; simp) | (refine awp_reg ?_; simp) | (refine awp_drawT (fun _ => false) mixed (by decide +kernel) ?_; simp) | (refine guarded_split ?_ ?_ <;> (intro hg; simp only [hg]; simp)) | (apply awp_cond_t; focus (simp; done)) | (apply awp_cond_f; focus (simp; done)) | (refine awp_cond ?_; simp; refine ⟨?_, ?_⟩ <;> intro hc))
  refine PCalls.use (not_calls y fy hy (by omega)) ?_
  (try (first | (with_reducible refine dops_go ?_; simp) | (with_reducible refine OKv_go ?_; simp) | (with_reducible refine OKr_go ?_; simp))); repeat' (first | refine awp_seq ?_ | refine awp_block ?_ | (refine awp_skip ?_; try simp) | (refine awp_exit ?_; try simp) | (refine awp_ret ?_; try simp) | (refine retP_same (by simp) ?_; simp) | (refine retP_flat (by simp) (by simp) (by simp) ?_; simp) | (refine awp_reg ?_; simp) | (refine awp_drawT (fun _ => false) mixed (by decide +kernel) ?_; simp) | (refine guarded_split ?_ ?_ <;> (intro hg; simp only [hg]; simp)) | (apply awp_cond_t; focus (simp; done)) | (apply awp_cond_f; focus (simp; done)) | (refine awp_cond ?_; simp; refine ⟨?_, ?_⟩ <;> intro hc))
  refine PCalls.use (and_calls x _ fx false (by omega)) ?_
  (try (first | (with_reducible refine dops_go ?_; simp) | (with_reducible refine OKv_go ?_; simp) | (with_reducible refine OKr_go ?_; simp))); repeat' (first | refine awp_seq ?_ | refine awp_block ?_ | (refine awp_skip ?_; try simp) | (refine awp_exit ?_; try simp) | (refine awp_ret ?_; try simp) | (refine retP_same (by simp) ?_; simp) | (refine retP_flat (by simp) (by simp) (by simp) ?_; simp) | (refine awp_reg ?_; simp) | (refine awp_drawT (fun _ => false) mixed (by decide +kernel) ?_; simp) | (refine guarded_split ?_ ?_ <;> (intro hg; simp only [hg]; simp)) | (apply awp_cond_t; focus (simp; done)) | (apply awp_cond_f; focus (simp; done)) | (refine awp_cond ?_; simp; refine ⟨?_, ?_⟩ <;> intro hc))

def allZ : List Rg := [⟨0, 4294967295⟩]
theorem all_calls : PCalls Try.prog 26 [] (zAV allZ false) := by
  refine pbody Try.func26 rfl (N := 3) rfl rfl (by simp) (noIds_zAV _ _) fun σ => ?_
  (try (first | (with_reducible refine dops_go ?_; simp) | (with_reducible refine OKv_go ?_; simp) | (with_reducible refine OKr_go ?_; simp))); repeat' (first | refine awp_seq ?_ | refine awp_block ?_ | (refine awp_skip ?_; try simp) | (refine awp_exit ?_; try simp) | (refine awp_ret ?_; try simp) | (refine awp_reg ?_; simp) | (refine awp_drawT (fun _ => false) mixed (by decide +kernel) ?_; simp) | (refine guarded_split ?_ ?_ <;> (intro hg; simp only [hg]; simp)) | (apply awp_cond_t; focus (simp; done)) | (apply awp_cond_f; focus (simp; done)) | (refine awp_cond ?_; simp; refine ⟨?_, ?_⟩ <;> intro hc))
  exact retP_own (es := allZ.map rgAV) (.inr rfl) (by simp) (OwnL.of (τ := σ.new 2 2 (.buf [rgAV ⟨0, 4294967295⟩])) rfl new_self (fresh_none _ _ _) rfl) (Ext.new _ _ _ _)

theorem grow_calls (n : Nat) (hn : n < 2 ^ 40) {σ : St} : ACalls Try.prog 48 [.sl 0 [] true, .raw (.int .i64 n)] σ fun v τ => OwnL σ τ 2 v [] ∧ Ext σ τ := by
  refine ACalls.forget (abody Try.func48 rfl (N := 27) rfl rfl (by simp) ?_)
  have w1 : IntKind.i64.wrap 0 = 0 := wrap64 (by omega) (by omega)
  have w2 : IntKind.i64.wrap (n : Int) = n := wrap64 (by omega) (by omega)
  cases n with
  | zero =>
    (try (first | (with_reducible refine dops_go ?_; simp [w1, w2]) | (with_reducible refine OKv_go ?_; simp [w1, w2]) | (with_reducible refine OKr_go ?_; simp [w1, w2]))); repeat' (first | refine awp_seq ?_ | refine awp_block ?_ | (refine awp_skip ?_; try simp) | (refine awp_exit ?_; try simp) | (refine awp_ret ?_; try simp) | (refine retP_same (by simp) ?_; simp) | (refine retP_flat (by simp) (by simp) (by simp [w1, w2]) ?_; simp) | (refine awp_reg ?_; simp [w1, w2]) | (refine awp_drawT (fun _ => false) mixed (by decide +kernel) ?_; simp [w1, w2]) | (refine guarded_split ?_ ?_ <;> (intro hg; simp only [hg]; simp [w1, w2])) | (apply awp_cond_t; focus (simp [w1, w2]; done)) | (apply awp_cond_f; focus (simp [w1, w2]; done)) | (refine awp_cond ?_; simp [w1, w2]; refine ⟨?_, ?_⟩ <;> intro hc))
    exact retK_of (x := .sl 0 [] true) (.inr rfl) (by simp) (.inl ⟨OwnL.nil, Ext.refl _⟩)
  | succ k =>
    obtain ⟨n, hn'⟩ : ∃ n, k + 1 = n := ⟨_, rfl⟩
    rw [hn'] at hn w2 ⊢
    have c1 : ¬ (n : Int) < 0 := by omega
    have c2 : 0 < n := by omega
    have c3 : n * 8 ≤ 70368744177664 := by omega
    (try (first | (with_reducible refine dops_go ?_; simp [w1, w2, c1, c2, c3, st_grow (P := Try.prog) (u := 22) (u' := 3) (by decide)]) | (with_reducible refine OKv_go ?_; simp [w1, w2, c1, c2, c3, st_grow (P := Try.prog) (u := 22) (u' := 3) (by decide)]) | (with_reducible refine OKr_go ?_; simp [w1, w2, c1, c2, c3, st_grow (P := Try.prog) (u := 22) (u' := 3) (by decide)]))); repeat' (first | refine awp_seq ?_ | refine awp_block ?_ | (refine awp_skip ?_; try simp) | (refine awp_exit ?_; try simp) | (refine awp_ret ?_; try simp) | (refine retP_same (by simp) ?_; simp) | (refine retP_flat (by simp) (by simp) (by simp [w1, w2, c1, c2, c3, st_grow (P := Try.prog) (u := 22) (u' := 3) (by decide)]) ?_; simp) | (refine awp_reg ?_; simp [w1, w2, c1, c2, c3, st_grow (P := Try.prog) (u := 22) (u' := 3) (by decide)]) | (refine awp_drawT (fun _ => false) mixed (by decide +kernel) ?_; simp [w1, w2, c1, c2, c3, st_grow (P := Try.prog) (u := 22) (u' := 3) (by decide)]) | (refine guarded_split ?_ ?_ <;> (intro hg; simp only [hg]; simp [w1, w2, c1, c2, c3, st_grow (P := Try.prog) (u := 22) (u' := 3) (by decide)])) | (apply awp_cond_t; focus (simp [w1, w2, c1, c2, c3, st_grow (P := Try.prog) (u := 22) (u' := 3) (by decide)]; done)) | (apply awp_cond_f; focus (simp [w1, w2, c1, c2, c3, st_grow (P := Try.prog) (u := 22) (u' := 3) (by decide)]; done)))
    have hn22 : ∀ o, (σ.new 22 2 o).m ⟨22, σ.nx 22, 2⟩ = some o := fun o => new_self
    refine retK_of (x := .rs ⟨22, σ.nx 22, 2⟩ 0 0) (.inr rfl) (by simp [cutRs]) (.inr ⟨⟨22, σ.nx 22, 2⟩, 0, _, hn22 _, ?_⟩)
    rw [new_set]
    exact ⟨OwnL.of rfl (by simp) (fresh_none _ _ _) rfl, Ext.new _ _ _ _⟩

/-- One list behind the other. -/
def catZ : List (List Rg × Bool) → List Rg
  | [] => []
  | p :: l => p.1 ++ catZ l
theorem catZ_take {l : List (List Rg × Bool)} {i : Nat} {p : List Rg × Bool} (h : l[i]? = some p) : catZ (l.take (i + 1)) = catZ (l.take i) ++ p.1 := by
  induction l generalizing i with
  | nil => simp at h
  | cons q l ih =>
    cases i with
    | zero => simp at h; subst h; simp [catZ]
    | succ i => simp only [List.take_succ_cons, catZ]; rw [ih (by simpa using h)]; simp
theorem catZ_take_le (l : List (List Rg × Bool)) : ∀ i, (catZ (l.take i)).length ≤ (catZ l).length := by
  induction l with
  | nil => intro i; simp [catZ]
  | cons q l ih =>
    intro i
    cases i with
    | zero => simp [catZ]
    | succ i => have := ih i; simp only [List.take_succ_cons, catZ, List.length_append]; omega
def pAV (p : List Rg × Bool) : AV := zAV p.1 p.2
theorem concat_calls (l : List (List Rg × Bool)) (f : Bool) (hl : l.length < 2 ^ 30) (hc : (catZ l).length < 2 ^ 38) (hids : noIds (.sl 1 (l.map pAV) f)) : PCalls Try.prog 40 [.sl 1 (l.map pAV) f] (zAV (catZ l) false) := by
  refine pbody Try.func40 rfl (N := 36) rfl rfl (by simp) (noIds_zAV _ _) fun σ => ?_
  have hpc : ∀ p, (pAV p).cells = [pAV p] := fun p => rfl
  have hlt := catZ_take_le l
  (try (first | (with_reducible refine dops_go ?_; simp) | (with_reducible refine OKv_go ?_; simp) | (with_reducible refine OKr_go ?_; simp))); repeat' (first | refine awp_seq ?_ | refine awp_block ?_ | (refine awp_skip ?_; try simp) | (refine awp_exit ?_; try simp) | (refine awp_ret ?_; try simp) | (refine retP_same (by simp) ?_; simp) | (refine retP_flat (by simp) (by simp) (by simp) ?_; simp) | (refine awp_reg ?_; simp) | (refine awp_drawT (fun _ => false) mixed (by decide +kernel) ?_; simp) | (refine guarded_split ?_ ?_ <;> (intro hg; simp only [hg]; simp)) | (apply awp_cond_t; focus (simp; done)) | (apply awp_cond_f; focus (simp; done)) | (refine awp_cond ?_; simp; refine ⟨?_, ?_⟩ <;> intro hc))
  refine awp_block_cutH (fun A τ => A 0 = .sl 1 (l.map pAV) f ∧ A 3 = .raw (.int .i64 ((catZ l).length : Nat)) ∧ τ = σ) ?_ ?_
  · intro R1 hR1
    refine awp_loopH (fun n A τ => ∃ i : Nat, A 0 = .sl 1 (l.map pAV) f ∧ A 9 = .sl 1 (l.map pAV) f ∧ A 10 = .raw (.int .i64 l.length) ∧ A 11 = .raw (.int .i64 i) ∧ A 3 = .raw (.int .i64 ((catZ (l.take i)).length : Nat)) ∧ i ≤ l.length ∧ τ = σ ∧ n = l.length - i) l.length ?_ ?_
    · exact ⟨0, by simp, by simp, by simp, by simp, by simp [catZ], by omega, rfl, by omega⟩
    rintro n A τ ⟨i, a0, a9, a10, a11, a3, hi, rfl, rfl⟩ I1 hI1
    by_cases hlt' : i < l.length
    · have hx : l[i]? = some l[i] := List.getElem?_eq_getElem hlt'
      have ht := catZ_take hx
      have b1 := hlt (i + 1)
      have b2 := hlt i
      rw [ht, List.length_append] at b1
      have w1 : IntKind.i64.wrap ((i : Int) + 1) = ((i + 1 : Nat) : Int) := by rw [wrap64 (by omega) (by omega)]; omega
      have w2 : IntKind.i64.wrap (((catZ (l.take i)).length : Int) + (l[i].1.length : Int)) = (((catZ (l.take (i + 1))).length : Nat) : Int) := by rw [ht, wrap64 (by omega) (by omega)]; simp
      have hpl : ∀ p : List Rg × Bool, pAV p = .sl 2 (p.1.map rgAV) p.2 := fun p => rfl
      have c1 : ¬ (((catZ (l.take (i + 1))).length : Nat) : Int) < 0 := by omega
      generalize hq1 : ((catZ (l.take (i + 1))).length : Int) = q1 at *
      generalize hq2 : ((catZ (l.take i)).length : Int) = q2 at *
      (try (first | (with_reducible refine dops_go ?_; simp [a0, a9, a10, a11, a3, hlt', hx, hpc, hpl, w1, w2, c1]) | (with_reducible refine OKv_go ?_; simp [a0, a9, a10, a11, a3, hlt', hx, hpc, hpl, w1, w2, c1]) | (with_reducible refine OKr_go ?_; simp [a0, a9, a10, a11, a3, hlt', hx, hpc, hpl, w1, w2, c1]))); repeat' (first | refine awp_seq ?_ | refine awp_block ?_ | (refine awp_skip ?_; try simp) | (refine awp_exit ?_; try simp) | (refine awp_ret ?_; try simp) | (refine retP_same (by simp) ?_; simp) | (refine retP_flat (by simp) (by simp) (by simp [a0, a9, a10, a11, a3, hlt', hx, hpc, hpl, w1, w2, c1]) ?_; simp) | (refine awp_reg ?_; simp [a0, a9, a10, a11, a3, hlt', hx, hpc, hpl, w1, w2, c1]) | (refine awp_drawT (fun _ => false) mixed (by decide +kernel) ?_; simp [a0, a9, a10, a11, a3, hlt', hx, hpc, hpl, w1, w2, c1]) | (refine guarded_split ?_ ?_ <;> (intro hg; simp only [hg]; simp [a0, a9, a10, a11, a3, hlt', hx, hpc, hpl, w1, w2, c1])) | (apply awp_cond_t; focus (simp [a0, a9, a10, a11, a3, hlt', hx, hpc, hpl, w1, w2, c1]; done)) | (apply awp_cond_f; focus (simp [a0, a9, a10, a11, a3, hlt', hx, hpc, hpl, w1, w2, c1]; done)) | (refine awp_cond ?_; simp [a0, a9, a10, a11, a3, hlt', hx, hpc, hpl, w1, w2, c1]; refine ⟨?_, ?_⟩ <;> intro hc))
      exact hI1 (l.length - (i + 1)) _ _ (by omega) ⟨i + 1, by simp [a0], by simp [a9], by simp [a10], by simp, by simp [hq1], by omega, rfl, rfl⟩
    · have : i = l.length := by omega
      subst this
      rw [List.take_length] at a3
      (try (first | (with_reducible refine dops_go ?_; simp [a0, a9, a10, a11, a3]) | (with_reducible refine OKv_go ?_; simp [a0, a9, a10, a11, a3]) | (with_reducible refine OKr_go ?_; simp [a0, a9, a10, a11, a3]))); repeat' (first | refine awp_seq ?_ | refine awp_block ?_ | (refine awp_skip ?_; try simp) | (refine awp_exit ?_; try simp) | (refine awp_ret ?_; try simp) | (refine retP_same (by simp) ?_; simp) | (refine retP_flat (by simp) (by simp) (by simp [a0, a9, a10, a11, a3]) ?_; simp) | (refine awp_reg ?_; simp [a0, a9, a10, a11, a3]) | (refine awp_drawT (fun _ => false) mixed (by decide +kernel) ?_; simp [a0, a9, a10, a11, a3]) | (refine guarded_split ?_ ?_ <;> (intro hg; simp only [hg]; simp [a0, a9, a10, a11, a3])) | (apply awp_cond_t; focus (simp [a0, a9, a10, a11, a3]; done)) | (apply awp_cond_f; focus (simp [a0, a9, a10, a11, a3]; done)) | (refine awp_cond ?_; simp [a0, a9, a10, a11, a3]; refine ⟨?_, ?_⟩ <;> intro hc))
      exact hR1 _ _ ⟨by simp [a0], by simp [a3], rfl⟩
  · rintro A τ ⟨a0, a3, rfl⟩
    (try (first | (with_reducible refine dops_go ?_; simp [a0, a3]) | (with_reducible refine OKv_go ?_; simp [a0, a3]) | (with_reducible refine OKr_go ?_; simp [a0, a3]))); repeat' (first | refine awp_seq ?_ | refine awp_block ?_ | (refine awp_skip ?_; try simp) | (refine awp_exit ?_; try simp) | (refine awp_ret ?_; try simp) | (refine retP_same (by simp) ?_; simp) | (refine retP_flat (by simp) (by simp) (by simp [a0, a3]) ?_; simp) | (refine awp_reg ?_; simp [a0, a3]) | (refine awp_drawT (fun _ => false) mixed (by decide +kernel) ?_; simp [a0, a3]) | (refine guarded_split ?_ ?_ <;> (intro hg; simp only [hg]; simp [a0, a3])) | (apply awp_cond_t; focus (simp [a0, a3]; done)) | (apply awp_cond_f; focus (simp [a0, a3]; done)) | (refine awp_cond ?_; simp [a0, a3]; refine ⟨?_, ?_⟩ <;> intro hc))
    refine (grow_calls (catZ l).length (by omega)).mono ?_
    rintro v τ1 ⟨hO, hE⟩
    (try (first | (with_reducible refine dops_go ?_; simp [a0, a3]) | (with_reducible refine OKv_go ?_; simp [a0, a3]) | (with_reducible refine OKr_go ?_; simp [a0, a3]))); repeat' (first | refine awp_seq ?_ | refine awp_block ?_ | (refine awp_skip ?_; try simp) | (refine awp_exit ?_; try simp) | (refine awp_ret ?_; try simp) | (refine retP_same (by simp) ?_; simp) | (refine retP_flat (by simp) (by simp) (by simp [a0, a3]) ?_; simp) | (refine awp_reg ?_; simp [a0, a3]) | (refine awp_drawT (fun _ => false) mixed (by decide +kernel) ?_; simp [a0, a3]) | (refine guarded_split ?_ ?_ <;> (intro hg; simp only [hg]; simp [a0, a3])) | (apply awp_cond_t; focus (simp [a0, a3]; done)) | (apply awp_cond_f; focus (simp [a0, a3]; done)))
    refine awp_block_cutH (fun A τ' => ∃ v, A 6 = v ∧ OwnL τ τ' 2 v ((catZ l).map rgAV) ∧ Ext τ τ') ?_ ?_
    · intro R1 hR1
      refine awp_loopH (fun n A τ' => ∃ (i : Nat) (v : AV), A 25 = .sl 1 (l.map pAV) f ∧ A 26 = .raw (.int .i64 l.length) ∧ A 27 = .raw (.int .i64 i) ∧ A 6 = v ∧ OwnL τ τ' 2 v ((catZ (l.take i)).map rgAV) ∧ Ext τ τ' ∧ i ≤ l.length ∧ n = l.length - i) l.length ?_ ?_
      · exact ⟨0, v, by simp [a0], by simp [a0], by simp, by simp, by simpa [catZ] using hO, hE, by omega, by omega⟩
      clear a0 a3
      rintro n A τ' ⟨i, v, a25, a26, a27, a6, hO, hE, hi, rfl⟩ I1 hI1
      by_cases hlt' : i < l.length
      · have hx : l[i]? = some l[i] := List.getElem?_eq_getElem hlt'
        have ht := catZ_take hx
        have b1 := hlt (i + 1)
        rw [ht, List.length_append] at b1
        have w1 : IntKind.i64.wrap ((i : Int) + 1) = ((i + 1 : Nat) : Int) := by rw [wrap64 (by omega) (by omega)]; omega
        have hok : cellsOK (cellsL (l[i].1.map rgAV)) = true := by
          generalize l[i].1 = z
          induction z with
          | nil => rfl
          | cons r z ih => simp [cellsL, rgAV, cellsOK, cellOK] at ih ⊢; try exact ih
        (try (first | (with_reducible refine dops_go ?_; simp [-opAppend, a25, a26, a27, a6, hlt', hx, hpc]) | (with_reducible refine OKv_go ?_; simp [-opAppend, a25, a26, a27, a6, hlt', hx, hpc]) | (with_reducible refine OKr_go ?_; simp [-opAppend, a25, a26, a27, a6, hlt', hx, hpc]))); repeat' (first | refine awp_seq ?_ | refine awp_block ?_ | (refine awp_skip ?_; try simp) | (refine awp_exit ?_; try simp) | (refine awp_ret ?_; try simp) | (refine retP_same (by simp) ?_; simp) | (refine retP_flat (by simp) (by simp) (by simp [-opAppend, a25, a26, a27, a6, hlt', hx, hpc]) ?_; simp) | (refine awp_reg ?_; simp [-opAppend, a25, a26, a27, a6, hlt', hx, hpc]) | (refine awp_drawT (fun _ => false) mixed (by decide +kernel) ?_; simp [-opAppend, a25, a26, a27, a6, hlt', hx, hpc]) | (refine guarded_split ?_ ?_ <;> (intro hg; simp only [hg]; simp [-opAppend, a25, a26, a27, a6, hlt', hx, hpc])) | (apply awp_cond_t; focus (simp [-opAppend, a25, a26, a27, a6, hlt', hx, hpc]; done)) | (apply awp_cond_f; focus (simp [-opAppend, a25, a26, a27, a6, hlt', hx, hpc]; done)))
        refine okr_append slt22 hO hE (ys := l[i].1.map rgAV) rfl (.inr rfl) hok (by simp; omega) ?_
        intro v' τ2 hO2 hE2 hkeep hnx
        rw [← List.map_append, ← ht] at hO2
        (try (first | (with_reducible refine dops_go ?_; simp [a25, a26, a27, a6, w1]) | (with_reducible refine OKv_go ?_; simp [a25, a26, a27, a6, w1]) | (with_reducible refine OKr_go ?_; simp [a25, a26, a27, a6, w1]))); repeat' (first | refine awp_seq ?_ | refine awp_block ?_ | (refine awp_skip ?_; try simp) | (refine awp_exit ?_; try simp) | (refine awp_ret ?_; try simp) | (refine retP_same (by simp) ?_; simp) | (refine retP_flat (by simp) (by simp) (by simp [a25, a26, a27, a6, w1]) ?_; simp) | (refine awp_reg ?_; simp [a25, a26, a27, a6, w1]) | (refine awp_drawT (fun _ => false) mixed (by decide +kernel) ?_; simp [a25, a26, a27, a6, w1]) | (refine guarded_split ?_ ?_ <;> (intro hg; simp only [hg]; simp [a25, a26, a27, a6, w1])) | (apply awp_cond_t; focus (simp [a25, a26, a27, a6, w1]; done)) | (apply awp_cond_f; focus (simp [a25, a26, a27, a6, w1]; done)) | (refine awp_cond ?_; simp [a25, a26, a27, a6, w1]; refine ⟨?_, ?_⟩ <;> intro hc))
        exact hI1 (l.length - (i + 1)) _ _ (by omega) ⟨i + 1, v', by simp [a25], by simp [a26], by simp, by simp, hO2, hE2, by omega, rfl⟩
      · have : i = l.length := by omega
        subst this
        rw [List.take_length] at hO
        (try (first | (with_reducible refine dops_go ?_; simp [a25, a26, a27]) | (with_reducible refine OKv_go ?_; simp [a25, a26, a27]) | (with_reducible refine OKr_go ?_; simp [a25, a26, a27]))); repeat' (first | refine awp_seq ?_ | refine awp_block ?_ | (refine awp_skip ?_; try simp) | (refine awp_exit ?_; try simp) | (refine awp_ret ?_; try simp) | (refine retP_same (by simp) ?_; simp) | (refine retP_flat (by simp) (by simp) (by simp [a25, a26, a27]) ?_; simp) | (refine awp_reg ?_; simp [a25, a26, a27]) | (refine awp_drawT (fun _ => false) mixed (by decide +kernel) ?_; simp [a25, a26, a27]) | (refine guarded_split ?_ ?_ <;> (intro hg; simp only [hg]; simp [a25, a26, a27])) | (apply awp_cond_t; focus (simp [a25, a26, a27]; done)) | (apply awp_cond_f; focus (simp [a25, a26, a27]; done)) | (refine awp_cond ?_; simp [a25, a26, a27]; refine ⟨?_, ?_⟩ <;> intro hc))
        exact hR1 _ _ ⟨v, by simp [a6], hO, hE⟩
    · rintro A τ' ⟨v, a6, hO, hE⟩
      (try (first | (with_reducible refine dops_go ?_; simp [a6]) | (with_reducible refine OKv_go ?_; simp [a6]) | (with_reducible refine OKr_go ?_; simp [a6]))); repeat' (first | refine awp_seq ?_ | refine awp_block ?_ | (refine awp_skip ?_; try simp) | (refine awp_exit ?_; try simp) | (refine awp_ret ?_; try simp) | (refine awp_reg ?_; simp [a6]) | (refine awp_drawT (fun _ => false) mixed (by decide +kernel) ?_; simp [a6]) | (refine guarded_split ?_ ?_ <;> (intro hg; simp only [hg]; simp [a6])) | (apply awp_cond_t; focus (simp [a6]; done)) | (apply awp_cond_f; focus (simp [a6]; done)) | (refine awp_cond ?_; simp [a6]; refine ⟨?_, ?_⟩ <;> intro hc))
      exact retP_own (.inr rfl) (by simp) hO hE

theorem noIds_list {n : Nat} {l : List AV} {f : Bool} (h : ∀ a ∈ l, noIds a) : noIds (.sl n l f) := by
  simp only [noIds, AV.ids]
  induction l with
  | nil => simp [idsL]
  | cons a l ih => simp only [idsL]; exact ⟨h a (by simp), ih fun b hb => h b (by simp [hb])⟩
theorem or_calls (x y : List Rg) (fx fy : Bool) (hx : InZ x) (hy : InZ y) (hl : x.length + y.length < 256) (w : List Rg) (hw : ∀ z', z'.Perm (x ++ y) → SortedBy (fun r s => cmpI r.lo s.lo) z' → mergeZ z' = w) (ho : ∀ r ∈ x ++ y, r.lo ≤ r.hi) :
    PCalls Try.prog 22 [zAV x fx, zAV y fy] (zAV w false) := by
  refine pbody Try.func22 rfl (N := 16) rfl rfl (by simp) (noIds_zAV _ _) fun σ => ?_
  have hpc : ∀ z b, (zAV z b).cells = [zAV z b] := fun z b => rfl
  have hpo : ∀ z b, cellOK (zAV z b) = true := fun z b => rfl
  simp only [cellOK] at hpo
  have hc := concat_calls [(x, fx), (y, fy)] false (by simp) (by simp [catZ]; omega) (noIds_list fun a ha => by
    simp only [List.map_cons, List.map_nil, List.mem_cons, List.not_mem_nil, or_false] at ha
    rcases ha with rfl | rfl <;> exact noIds_zAV _ _)
  have hcat : catZ [(x, fx), (y, fy)] = x ++ y := by simp [catZ]
  rw [hcat] at hc
  have hof := of_calls (x ++ y) false (fun r hr => (List.mem_append.1 hr).elim (hx r) (hy r)) (by simp; omega) w hw ho
  (try (first | (with_reducible refine dops_go ?_; simp [hpc, hpo]) | (with_reducible refine OKv_go ?_; simp [hpc, hpo]) | (with_reducible refine OKr_go ?_; simp [hpc, hpo]))); repeat' (first | refine awp_seq ?_ | refine awp_block ?_ | (refine awp_skip ?_; try simp) | (refine awp_exit ?_; try simp) | (refine awp_ret ?_; try simp) | (refine retP_same (by simp) ?_; simp) | (refine retP_flat (by simp) (by simp) (by simp [hpc, hpo]) ?_; simp) | (refine awp_reg ?_; simp [hpc, hpo]) | (refine awp_drawT (fun _ => false) mixed (by decide +kernel) ?_; simp [hpc, hpo]) | (refine guarded_split ?_ ?_ <;> (intro hg; simp only [hg]; simp [hpc, hpo])) | (apply awp_cond_t; focus (simp [hpc, hpo]; done)) | (apply awp_cond_f; focus (simp [hpc, hpo]; done)) | (refine awp_cond ?_; simp [hpc, hpo]; refine ⟨?_, ?_⟩ <;> intro hc))
  refine ACalls.freeze ⟨10, σ.nx 10, 1⟩ ?_
  rw [show (List.map (giveUp ((σ.new 10 1 (.buf [zAV x fx, zAV y fy])).del ⟨10, σ.nx 10, 1⟩).m (σ.new 10 1 (.buf [zAV x fx, zAV y fy])).m) [.rs ⟨10, σ.nx 10, 1⟩ 0 2]) = [.sl 1 ([(x, fx), (y, fy)].map pAV) false] by
    simp only [List.map_cons, List.map_nil]
    rw [giveUp_rs_del new_self (by simp)]
    simp [pAV]]
  refine PCalls.use hc ?_
  (try (first | (with_reducible refine dops_go ?_; simp) | (with_reducible refine OKv_go ?_; simp) | (with_reducible refine OKr_go ?_; simp))); repeat' (first | refine awp_seq ?_ | refine awp_block ?_ | (refine awp_skip ?_; try simp) | (refine awp_exit ?_; try simp) | (refine awp_ret ?_; try simp) | (refine retP_same (by simp) ?_; simp) | (refine retP_flat (by simp) (by simp) (by simp) ?_; simp) | (refine awp_reg ?_; simp) | (refine awp_drawT (fun _ => false) mixed (by decide +kernel) ?_; simp) | (refine guarded_split ?_ ?_ <;> (intro hg; simp only [hg]; simp)) | (apply awp_cond_t; focus (simp; done)) | (apply awp_cond_f; focus (simp; done)) | (refine awp_cond ?_; simp; refine ⟨?_, ?_⟩ <;> intro hc))
  refine PCalls.use hof ?_
  have hE : Ext σ ((σ.new 10 1 (.buf [zAV x fx, zAV y fy])).del ⟨10, σ.nx 10, 1⟩) := ⟨fun i o h => by
    rw [del_other (fun e => by rw [e, fresh_none] at h; cases h)]; exact new_up _ _ h, fun s => St.new_le σ 10 1 (.buf [zAV x fx, zAV y fy]) s⟩
  generalize (σ.new 10 1 (.buf [zAV x fx, zAV y fy])).del ⟨10, σ.nx 10, 1⟩ = τ at *
  (try (first | (with_reducible refine dops_go ?_; simp) | (with_reducible refine OKv_go ?_; simp) | (with_reducible refine OKr_go ?_; simp))); repeat' (first | refine awp_seq ?_ | refine awp_block ?_ | (refine awp_skip ?_; try simp) | (refine awp_exit ?_; try simp) | (refine awp_ret ?_; try simp) | (refine awp_reg ?_; simp) | (refine awp_drawT (fun _ => false) mixed (by decide +kernel) ?_; simp) | (refine guarded_split ?_ ?_ <;> (intro hg; simp only [hg]; simp)) | (apply awp_cond_t; focus (simp; done)) | (apply awp_cond_f; focus (simp; done)) | (refine awp_cond ?_; simp; refine ⟨?_, ?_⟩ <;> intro hc))
  exact retP_flat (rv := zAV w false) (.inr rfl) rfl hE (by simp)
end Go.Proofs.Ytajikhpjjbohaaa.Av

/- The document's zones: cuts, ends, joining. -/
namespace Go.Proofs.Ytajikhpjjbohaaa.Av
open Go
set_option linter.unusedSimpArgs false
set_option linter.unusedVariables false
set_option maxRecDepth 100000
set_option maxHeartbeats 4000000
set_option pp.maxSteps 300

/-- Whole numbers, as a list. -/
def iAV (n : Int) : AV := .raw (.int .i64 n)
def inAV (l : List Int) (b : Bool) : AV := .sl 1 (l.map iAV) b
theorem noIds_inAV (z : List Int) (b : Bool) : noIds (inAV z b) := noIds_list fun a ha => by
  obtain ⟨x, _, rfl⟩ := List.mem_map.1 ha
  simp [noIds, iAV]

def cutsAll (l : List Rg) : List Int := 0 :: l.flatMap fun r => [r.lo, r.hi + 1]
def nextCut (all : List Int) (last : Int) : Int := all.foldl (fun next a => if last < a ∧ a < next then a else next) 4294967296
def cutsFrom (all : List Int) : Nat → Int → List Int
  | 0, _ => []
  | n + 1, last => if nextCut all last ≤ 4294967295 then nextCut all last :: cutsFrom all n (nextCut all last) else []
theorem cutsAll_take {l : List Rg} {i : Nat} {r : Rg} (h : l[i]? = some r) : cutsAll (l.take (i + 1)) = cutsAll (l.take i) ++ [r.lo, r.hi + 1] := by
  unfold cutsAll
  rw [List.take_add_one, h]; simp
theorem cutsAll_len (l : List Rg) : (cutsAll l).length = 1 + 2 * l.length := by
  unfold cutsAll
  induction l with
  | nil => rfl
  | cons r l ih => simp at ih ⊢; omega
/-- How many are still to come. -/
def above (all : List Int) (last : Int) : Nat := (all.filter fun a => decide (last < a) && decide (a < 4294967296)).length
theorem nextCut_spec (all : List Int) (last : Int) : ∀ (l : List Int) (x : Int), (∀ a ∈ l, a ∈ all) → (x = 4294967296 ∨ (x ∈ all ∧ last < x ∧ x < 4294967296)) → x ≤ 4294967296 →
    let y := l.foldl (fun next a => if last < a ∧ a < next then a else next) x
    (y = 4294967296 ∨ (y ∈ all ∧ last < y ∧ y < 4294967296)) ∧ y ≤ x ∧ ∀ a ∈ l, last < a → y ≤ a
  | [], x, _, h, hx => ⟨h, Int.le_refl _, fun a h => by cases h⟩
  | b :: l, x, hl, h, hx => by
    simp only [List.foldl_cons]
    by_cases hb : last < b ∧ b < x
    · rw [if_pos hb]
      obtain ⟨h1, h2, h3⟩ := nextCut_spec all last l b (fun a ha => hl a (by simp [ha])) (.inr ⟨hl b (by simp), hb.1, by omega⟩) (by omega)
      refine ⟨h1, by omega, fun a ha h => ?_⟩
      rcases List.mem_cons.1 ha with rfl | ha
      · exact h2
      · exact h3 a ha h
    · rw [if_neg hb]
      obtain ⟨h1, h2, h3⟩ := nextCut_spec all last l x (fun a ha => hl a (by simp [ha])) h hx
      refine ⟨h1, h2, fun a ha h => ?_⟩
      rcases List.mem_cons.1 ha with rfl | ha
      · omega
      · exact h3 a ha h
theorem nextCut_is (all : List Int) (last : Int) : (nextCut all last = 4294967296 ∨ (nextCut all last ∈ all ∧ last < nextCut all last ∧ nextCut all last < 4294967296)) ∧ nextCut all last ≤ 4294967296 ∧ ∀ a ∈ all, last < a → nextCut all last ≤ a :=
  nextCut_spec all last all 4294967296 (fun _ h => h) (.inl rfl) (Int.le_refl _)
theorem above_lt {all : List Int} {last : Int} (h : nextCut all last ≤ 4294967295) : above all (nextCut all last) < above all last := by
  obtain ⟨h1, h2, h3⟩ := nextCut_is all last
  have h1 := h1.resolve_left (by omega)
  unfold above
  generalize nextCut all last = x at *
  have hsub : ∀ l : List Int, (l.filter fun a => decide (x < a) && decide (a < 4294967296)).length ≤ (l.filter fun a => decide (last < a) && decide (a < 4294967296)).length := by
    intro l
    induction l with
    | nil => simp
    | cons a l ih =>
      simp only [List.filter_cons]
      by_cases ha : x < a ∧ a < 4294967296
      · have : last < a := by omega
        simp [ha.1, ha.2, this, ih]
      · have hn : (decide (x < a) && decide (a < 4294967296)) = false := by
          simp only [Bool.and_eq_false_iff, decide_eq_false_iff_not]; omega
        rw [hn]
        simp only [Bool.false_eq_true, if_false]
        split
        · simp; omega
        · exact ih
  obtain ⟨s, t, rfl⟩ := List.append_of_mem h1.1
  rw [List.filter_append, List.filter_append, List.length_append, List.length_append]
  have e1 := hsub s
  have e2 := hsub t
  simp only [List.filter_cons]
  have hn : (decide (x < x) && decide (x < 4294967296)) = false := by simp
  have hy : (decide (last < x) && decide (x < 4294967296)) = true := by simp [h1.2.1, h1.2.2]
  rw [hn, hy]
  simp
  omega
theorem cutsFrom_fuel (all : List Int) : ∀ (n m : Nat) (last : Int), above all last ≤ n → above all last ≤ m → cutsFrom all n last = cutsFrom all m last
  | 0, 0, _, _, _ => rfl
  | 0, m + 1, last, h, _ => by
    unfold cutsFrom
    split
    · rename_i hc; have := above_lt hc; omega
    · rfl
  | n + 1, 0, last, _, h => by
    unfold cutsFrom
    split
    · rename_i hc; have := above_lt hc; omega
    · rfl
  | n + 1, m + 1, last, h1, h2 => by
    unfold cutsFrom
    split
    · rename_i hc
      have := above_lt hc
      rw [cutsFrom_fuel all n m _ (by omega) (by omega)]
    · rfl
def cutsOf (l : List Rg) : List Int := cutsFrom (cutsAll l) (above (cutsAll l) (-1)) (-1)
theorem above_le (all : List Int) (last : Int) : above all last ≤ all.length := List.length_filter_le _ _
theorem cutsFrom_len (all : List Int) : ∀ (n : Nat) (last : Int), (cutsFrom all n last).length ≤ n
  | 0, _ => by simp [cutsFrom]
  | n + 1, last => by
    unfold cutsFrom
    split
    · have := cutsFrom_len all n (nextCut all last); simp; omega
    · simp
theorem nextCut_take {all : List Int} {last : Int} {i : Nat} {a : Int} (h : all[i]? = some a) : nextCut (all.take (i + 1)) last = if last < a ∧ a < nextCut (all.take i) last then a else nextCut (all.take i) last := by
  unfold nextCut
  rw [List.take_add_one, h, List.foldl_append]
  rfl
end Go.Proofs.Ytajikhpjjbohaaa.Av

/- The document's zones: the walks of Cuts, End, Join. -/
namespace Go.Proofs.Ytajikhpjjbohaaa.Av
open Go
set_option linter.unusedSimpArgs false
set_option linter.unusedVariables false
set_option maxRecDepth 100000
set_option maxHeartbeats 4000000
set_option pp.maxSteps 300

theorem cutsFrom_step {all : List Int} {last : Int} (h : nextCut all last ≤ 4294967295) : cutsFrom all (above all last) last = nextCut all last :: cutsFrom all (above all (nextCut all last)) (nextCut all last) := by
  have hlt := above_lt h
  obtain ⟨n, hn⟩ : ∃ n, above all last = n + 1 := ⟨above all last - 1, by omega⟩
  rw [hn, cutsFrom, if_pos h, cutsFrom_fuel all n (above all (nextCut all last)) _ (by omega) (Nat.le_refl _)]
theorem cutsFrom_stop {all : List Int} {last : Int} (h : ¬ nextCut all last ≤ 4294967295) : cutsFrom all (above all last) last = [] := by
  cases above all last with
  | zero => rfl
  | succ n => rw [cutsFrom, if_neg h]

theorem cuts_calls (l : List Rg) (f : Bool) (hz : InZ l) (hl : l.length < 2 ^ 30) : PCalls Try.prog 34 [zAV l f] (inAV (cutsOf l) false) := by
  refine pbody Try.func34 rfl (N := 67) rfl rfl (by simp) (noIds_inAV _ _) fun σ => ?_
  (try (first | (with_reducible refine dops_go ?_; simp) | (with_reducible refine OKv_go ?_; simp) | (with_reducible refine OKr_go ?_; simp))); repeat' (first | refine awp_seq ?_ | refine awp_block ?_ | (refine awp_skip ?_; try simp) | (refine awp_exit ?_; try simp) | (refine awp_ret ?_; try simp) | (refine retP_same (by simp) ?_; simp) | (refine retP_flat (by simp) (by simp) (by simp) ?_; simp) | (refine awp_reg ?_; simp) | (refine awp_drawT (fun _ => false) mixed (by decide +kernel) ?_; simp) | (refine guarded_split ?_ ?_ <;> (intro hg; simp only [hg]; simp)) | (apply awp_cond_t; focus (simp; done)) | (apply awp_cond_f; focus (simp; done)) | (refine awp_cond ?_; simp; refine ⟨?_, ?_⟩ <;> intro hc))
  refine awp_block_cutH (fun A τ => OwnL σ τ 1 (A 3) ((cutsAll l).map iAV) ∧ Ext σ τ) ?_ ?_
  · intro R1 hR1
    refine awp_loopH (fun n A τ => ∃ (i : Nat) (v : AV), A 0 = zAV l f ∧ A 4 = .raw (.int .i64 i) ∧ A 3 = v ∧ OwnL σ τ 1 v ((cutsAll (l.take i)).map iAV) ∧ Ext σ τ ∧ i ≤ l.length ∧ n = l.length - i) l.length ?_ ?_
    · exact ⟨0, .rs ⟨10, σ.nx 10, 1⟩ 0 1, by simp, by simp, by simp, OwnL.of rfl (by simp [cutsAll, iAV]) (fresh_none _ _ _) (by simp [cutsAll]), Ext.new _ _ _ _, by omega, by omega⟩
    rintro n A τ ⟨i, v, a0, a4, a3, hO, hE, hi, rfl⟩ I1 hI1
    by_cases hlt : i < l.length
    · have hx : l[i]? = some l[i] := List.getElem?_eq_getElem hlt
      obtain ⟨x1, x2, x3, x4⟩ := hz l[i] (List.getElem_mem _)
      have ht := cutsAll_take hx
      have hlen := cutsAll_len (l.take i)
      rw [List.length_take, Nat.min_eq_left hi] at hlen
      have w1 : IntKind.i64.wrap ((i : Int) + 1) = ((i + 1 : Nat) : Int) := by rw [wrap64 (by omega) (by omega)]; omega
      have w2 : IntKind.i64.wrap l[i].lo = l[i].lo := wrap64 (by omega) (by omega)
      have w3 : IntKind.i64.wrap l[i].hi = l[i].hi := wrap64 (by omega) (by omega)
      have w4 : IntKind.i64.wrap (l[i].hi + 1) = l[i].hi + 1 := wrap64 (by omega) (by omega)
      (try (first | (with_reducible refine dops_go ?_; simp [-opAppend, a0, a4, a3, zAV, rgAV, hlt, hx, w2, w3, w4]) | (with_reducible refine OKv_go ?_; simp [-opAppend, a0, a4, a3, zAV, rgAV, hlt, hx, w2, w3, w4]) | (with_reducible refine OKr_go ?_; simp [-opAppend, a0, a4, a3, zAV, rgAV, hlt, hx, w2, w3, w4]))); repeat' (first | refine awp_seq ?_ | refine awp_block ?_ | (refine awp_skip ?_; try simp) | (refine awp_exit ?_; try simp) | (refine awp_ret ?_; try simp) | (refine retP_same (by simp) ?_; simp) | (refine retP_flat (by simp) (by simp) (by simp [-opAppend, a0, a4, a3, zAV, rgAV, hlt, hx, w2, w3, w4]) ?_; simp) | (refine awp_reg ?_; simp [-opAppend, a0, a4, a3, zAV, rgAV, hlt, hx, w2, w3, w4]) | (refine awp_drawT (fun _ => false) mixed (by decide +kernel) ?_; simp [-opAppend, a0, a4, a3, zAV, rgAV, hlt, hx, w2, w3, w4]) | (refine guarded_split ?_ ?_ <;> (intro hg; simp only [hg]; simp [-opAppend, a0, a4, a3, zAV, rgAV, hlt, hx, w2, w3, w4])) | (apply awp_cond_t; focus (simp [-opAppend, a0, a4, a3, zAV, rgAV, hlt, hx, w2, w3, w4]; done)) | (apply awp_cond_f; focus (simp [-opAppend, a0, a4, a3, zAV, rgAV, hlt, hx, w2, w3, w4]; done)))
      have hE31 := Ext.new τ 31 1 (.buf [.raw (.int .i64 l[i].lo), .raw (.int .i64 (l[i].hi + 1))])
      refine okr_append slt49 (hO.ext hE31) (hE.trans hE31) (ys := [iAV l[i].lo, iAV (l[i].hi + 1)]) (by simp [iAV]) (.inr rfl) (by simp [iAV]) (by simp; omega) ?_
      intro v' τ2 hO2 hE2 hkeep hnx
      have hO3 : OwnL σ τ2 1 v' ((cutsAll (l.take (i + 1))).map iAV) := by rw [ht]; simpa using hO2
      clear hkeep
      (try (first | (with_reducible refine dops_go ?_; simp [a0, a4, w1]) | (with_reducible refine OKv_go ?_; simp [a0, a4, w1]) | (with_reducible refine OKr_go ?_; simp [a0, a4, w1]))); repeat' (first | refine awp_seq ?_ | refine awp_block ?_ | (refine awp_skip ?_; try simp) | (refine awp_exit ?_; try simp) | (refine awp_ret ?_; try simp) | (refine retP_same (by simp) ?_; simp) | (refine retP_flat (by simp) (by simp) (by simp [a0, a4, w1]) ?_; simp) | (refine awp_reg ?_; simp [a0, a4, w1]) | (refine awp_drawT (fun _ => false) mixed (by decide +kernel) ?_; simp [a0, a4, w1]) | (refine guarded_split ?_ ?_ <;> (intro hg; simp only [hg]; simp [a0, a4, w1])) | (apply awp_cond_t; focus (simp [a0, a4, w1]; done)) | (apply awp_cond_f; focus (simp [a0, a4, w1]; done)) | (refine awp_cond ?_; simp [a0, a4, w1]; refine ⟨?_, ?_⟩ <;> intro hc))
      exact hI1 (l.length - (i + 1)) _ _ (by omega) ⟨i + 1, v', by simp [a0, zAV, rgAV], by simp, by simp, hO3, hE2, by omega, rfl⟩
    · have : i = l.length := by omega
      subst this
      rw [List.take_length] at hO
      (try (first | (with_reducible refine dops_go ?_; simp [a0, a4, zAV]) | (with_reducible refine OKv_go ?_; simp [a0, a4, zAV]) | (with_reducible refine OKr_go ?_; simp [a0, a4, zAV]))); repeat' (first | refine awp_seq ?_ | refine awp_block ?_ | (refine awp_skip ?_; try simp) | (refine awp_exit ?_; try simp) | (refine awp_ret ?_; try simp) | (refine retP_same (by simp) ?_; simp) | (refine retP_flat (by simp) (by simp) (by simp [a0, a4, zAV]) ?_; simp) | (refine awp_reg ?_; simp [a0, a4, zAV]) | (refine awp_drawT (fun _ => false) mixed (by decide +kernel) ?_; simp [a0, a4, zAV]) | (refine guarded_split ?_ ?_ <;> (intro hg; simp only [hg]; simp [a0, a4, zAV])) | (apply awp_cond_t; focus (simp [a0, a4, zAV]; done)) | (apply awp_cond_f; focus (simp [a0, a4, zAV]; done)) | (refine awp_cond ?_; simp [a0, a4, zAV]; refine ⟨?_, ?_⟩ <;> intro hc))
      exact hR1 _ _ ⟨by simp [a3]; exact hO, hE⟩
  · rintro A τ ⟨hO, hE⟩
    refine awp_settle 3 hO hE ?_
    rintro A τ hE a3 - - - - -
    have a3 : A 3 = inAV (cutsAll l) false := a3
    have hcut : cutsFrom (cutsAll l) (above (cutsAll l) (-1)) (-1) = cutsOf l := rfl
    have hcl : (cutsOf l).length ≤ 1 + 2 * l.length := Nat.le_trans (cutsFrom_len _ _ _) (by have := above_le (cutsAll l) (-1); rw [cutsAll_len] at this; exact this)
    have hall : (cutsAll l).length ≤ 2 ^ 32 := by rw [cutsAll_len]; omega
    generalize cutsOf l = C at *
    generalize cutsAll l = all at *
    clear hO
    have w0 : IntKind.i64.wrap (-1) = -1 := wrap64 (by omega) (by omega)
    (try (first | (with_reducible refine dops_go ?_; simp [a3, w0]) | (with_reducible refine OKv_go ?_; simp [a3, w0]) | (with_reducible refine OKr_go ?_; simp [a3, w0]))); repeat' (first | refine awp_seq ?_ | refine awp_block ?_ | (refine awp_skip ?_; try simp) | (refine awp_exit ?_; try simp) | (refine awp_ret ?_; try simp) | (refine retP_same (by simp) ?_; simp) | (refine retP_flat (by simp) (by simp) (by simp [a3, w0]) ?_; simp) | (refine awp_reg ?_; simp [a3, w0]) | (refine awp_drawT (fun _ => false) mixed (by decide +kernel) ?_; simp [a3, w0]) | (refine guarded_split ?_ ?_ <;> (intro hg; simp only [hg]; simp [a3, w0])) | (apply awp_cond_t; focus (simp [a3, w0]; done)) | (apply awp_cond_f; focus (simp [a3, w0]; done)) | (refine awp_cond ?_; simp [a3, w0]; refine ⟨?_, ?_⟩ <;> intro hc))
    refine awp_block_cutH (fun A τ => OwnL σ τ 1 (A 5) (C.map iAV) ∧ Ext σ τ) ?_ ?_
    · intro R1 hR1
      refine awp_loopH (fun n A τ => ∃ (last : Int) (v : AV) (out : List Int), A 3 = inAV all false ∧ A 5 = v ∧ A 6 = .raw (.int .i64 last) ∧ OwnL σ τ 1 v (out.map iAV) ∧ Ext σ τ ∧ out.length ≤ C.length ∧
        ((A 7 = .raw (.bool true) ∧ out ++ cutsFrom all (above all last) last = C ∧ n = above all last + 1) ∨ (A 7 = .raw (.bool false) ∧ out = C ∧ n = 0))) (above all (-1) + 1) ?_ ?_
      · exact ⟨-1, .sl 0 [] true, [], by simp [a3], by simp, by simp, OwnL.nil, hE, by simp, .inl ⟨by simp, hcut, rfl⟩⟩
      clear a3 hE
      rintro n A τ ⟨last, v, out, a3, a5, a6, hO, hE, hol, ⟨a7, hc, rfl⟩ | ⟨a7, rfl, rfl⟩⟩ I1 hI1
      · (try (first | (with_reducible refine dops_go ?_; simp [a3, a5, a6, a7]) | (with_reducible refine OKv_go ?_; simp [a3, a5, a6, a7]) | (with_reducible refine OKr_go ?_; simp [a3, a5, a6, a7]))); repeat' (first | refine awp_seq ?_ | refine awp_block ?_ | (refine awp_skip ?_; try simp) | (refine awp_exit ?_; try simp) | (refine awp_ret ?_; try simp) | (refine retP_same (by simp) ?_; simp) | (refine retP_flat (by simp) (by simp) (by simp [a3, a5, a6, a7]) ?_; simp) | (refine awp_reg ?_; simp [a3, a5, a6, a7]) | (refine awp_drawT (fun _ => false) mixed (by decide +kernel) ?_; simp [a3, a5, a6, a7]) | (refine guarded_split ?_ ?_ <;> (intro hg; simp only [hg]; simp [a3, a5, a6, a7])) | (apply awp_cond_t; focus (simp [a3, a5, a6, a7]; done)) | (apply awp_cond_f; focus (simp [a3, a5, a6, a7]; done)) | (refine awp_cond ?_; simp [a3, a5, a6, a7]; refine ⟨?_, ?_⟩ <;> intro hc))
        refine awp_block_cutH (fun A' τ' => A' 3 = inAV all false ∧ A' 5 = v ∧ A' 6 = .raw (.int .i64 last) ∧ A' 8 = .raw (.int .i64 (nextCut all last)) ∧ τ' = τ) ?_ ?_
        · intro R2 hR2
          refine awp_loopH (fun n A' τ' => ∃ i : Nat, A' 3 = inAV all false ∧ A' 5 = v ∧ A' 6 = .raw (.int .i64 last) ∧ A' 9 = .raw (.int .i64 i) ∧ A' 8 = .raw (.int .i64 (nextCut (all.take i) last)) ∧ τ' = τ ∧ i ≤ all.length ∧ n = all.length - i) all.length ?_ ?_
          · exact ⟨0, by simp [a3], by simp [a5], by simp [a6], by simp, by simp [nextCut], rfl, by omega, by omega⟩
          clear a3 a5 a6 a7
          rintro n A' τ' ⟨i, a3, a5, a6, a9, a8, rfl, hi, rfl⟩ I2 hI2
          by_cases hlt : i < all.length
          · have hx : all[i]? = some all[i] := List.getElem?_eq_getElem hlt
            have ht := nextCut_take (last := last) hx
            have w1 : IntKind.i64.wrap ((i : Int) + 1) = ((i + 1 : Nat) : Int) := by rw [wrap64 (by omega) (by omega)]; omega
            generalize nextCut (all.take i) last = x at *
            have hic : ∀ n, (iAV n).cells = [iAV n] := fun n => rfl
            by_cases c1 : last < all[i]
            · by_cases c2 : all[i] < x
              · rw [if_pos ⟨c1, c2⟩] at ht
                (try (first | (with_reducible refine dops_go ?_; simp [a3, a5, a6, a9, a8, inAV, iAV, hlt, c1, c2, w1]) | (with_reducible refine OKv_go ?_; simp [a3, a5, a6, a9, a8, inAV, iAV, hlt, c1, c2, w1]) | (with_reducible refine OKr_go ?_; simp [a3, a5, a6, a9, a8, inAV, iAV, hlt, c1, c2, w1]))); repeat' (first | refine awp_seq ?_ | refine awp_block ?_ | (refine awp_skip ?_; try simp) | (refine awp_exit ?_; try simp) | (refine awp_ret ?_; try simp) | (refine retP_same (by simp) ?_; simp) | (refine retP_flat (by simp) (by simp) (by simp [a3, a5, a6, a9, a8, inAV, iAV, hlt, c1, c2, w1]) ?_; simp) | (refine awp_reg ?_; simp [a3, a5, a6, a9, a8, inAV, iAV, hlt, c1, c2, w1]) | (refine awp_drawT (fun _ => false) mixed (by decide +kernel) ?_; simp [a3, a5, a6, a9, a8, inAV, iAV, hlt, c1, c2, w1]) | (refine guarded_split ?_ ?_ <;> (intro hg; simp only [hg]; simp [a3, a5, a6, a9, a8, inAV, iAV, hlt, c1, c2, w1])) | (apply awp_cond_t; focus (simp [a3, a5, a6, a9, a8, inAV, iAV, hlt, c1, c2, w1]; done)) | (apply awp_cond_f; focus (simp [a3, a5, a6, a9, a8, inAV, iAV, hlt, c1, c2, w1]; done)) | (refine awp_cond ?_; simp [a3, a5, a6, a9, a8, inAV, iAV, hlt, c1, c2, w1]; refine ⟨?_, ?_⟩ <;> intro hc))
                exact hI2 (all.length - (i + 1)) _ _ (by omega) ⟨i + 1, by simp [a3, inAV, iAV], by simp [a5], by simp [a6], by simp, by simp [ht], rfl, by omega, rfl⟩
              · rw [if_neg (fun h => c2 h.2)] at ht
                (try (first | (with_reducible refine dops_go ?_; simp [a3, a5, a6, a9, a8, inAV, iAV, hlt, c1, c2, w1]) | (with_reducible refine OKv_go ?_; simp [a3, a5, a6, a9, a8, inAV, iAV, hlt, c1, c2, w1]) | (with_reducible refine OKr_go ?_; simp [a3, a5, a6, a9, a8, inAV, iAV, hlt, c1, c2, w1]))); repeat' (first | refine awp_seq ?_ | refine awp_block ?_ | (refine awp_skip ?_; try simp) | (refine awp_exit ?_; try simp) | (refine awp_ret ?_; try simp) | (refine retP_same (by simp) ?_; simp) | (refine retP_flat (by simp) (by simp) (by simp [a3, a5, a6, a9, a8, inAV, iAV, hlt, c1, c2, w1]) ?_; simp) | (refine awp_reg ?_; simp [a3, a5, a6, a9, a8, inAV, iAV, hlt, c1, c2, w1]) | (refine awp_drawT (fun _ => false) mixed (by decide +kernel) ?_; simp [a3, a5, a6, a9, a8, inAV, iAV, hlt, c1, c2, w1]) | (refine guarded_split ?_ ?_ <;> (intro hg; simp only [hg]; simp [a3, a5, a6, a9, a8, inAV, iAV, hlt, c1, c2, w1])) | (apply awp_cond_t; focus (simp [a3, a5, a6, a9, a8, inAV, iAV, hlt, c1, c2, w1]; done)) | (apply awp_cond_f; focus (simp [a3, a5, a6, a9, a8, inAV, iAV, hlt, c1, c2, w1]; done)) | (refine awp_cond ?_; simp [a3, a5, a6, a9, a8, inAV, iAV, hlt, c1, c2, w1]; refine ⟨?_, ?_⟩ <;> intro hc))
                exact hI2 (all.length - (i + 1)) _ _ (by omega) ⟨i + 1, by simp [a3, inAV, iAV], by simp [a5], by simp [a6], by simp, by simp [a8, ht], rfl, by omega, rfl⟩
            · rw [if_neg (fun h => c1 h.1)] at ht
              (try (first | (with_reducible refine dops_go ?_; simp [a3, a5, a6, a9, a8, inAV, iAV, hlt, c1, w1]) | (with_reducible refine OKv_go ?_; simp [a3, a5, a6, a9, a8, inAV, iAV, hlt, c1, w1]) | (with_reducible refine OKr_go ?_; simp [a3, a5, a6, a9, a8, inAV, iAV, hlt, c1, w1]))); repeat' (first | refine awp_seq ?_ | refine awp_block ?_ | (refine awp_skip ?_; try simp) | (refine awp_exit ?_; try simp) | (refine awp_ret ?_; try simp) | (refine retP_same (by simp) ?_; simp) | (refine retP_flat (by simp) (by simp) (by simp [a3, a5, a6, a9, a8, inAV, iAV, hlt, c1, w1]) ?_; simp) | (refine awp_reg ?_; simp [a3, a5, a6, a9, a8, inAV, iAV, hlt, c1, w1]) | (refine awp_drawT (fun _ => false) mixed (by decide +kernel) ?_; simp [a3, a5, a6, a9, a8, inAV, iAV, hlt, c1, w1]) | (refine guarded_split ?_ ?_ <;> (intro hg; simp only [hg]; simp [a3, a5, a6, a9, a8, inAV, iAV, hlt, c1, w1])) | (apply awp_cond_t; focus (simp [a3, a5, a6, a9, a8, inAV, iAV, hlt, c1, w1]; done)) | (apply awp_cond_f; focus (simp [a3, a5, a6, a9, a8, inAV, iAV, hlt, c1, w1]; done)) | (refine awp_cond ?_; simp [a3, a5, a6, a9, a8, inAV, iAV, hlt, c1, w1]; refine ⟨?_, ?_⟩ <;> intro hc))
              exact hI2 (all.length - (i + 1)) _ _ (by omega) ⟨i + 1, by simp [a3, inAV, iAV], by simp [a5], by simp [a6], by simp, by simp [a8, ht], rfl, by omega, rfl⟩
          · have : i = all.length := by omega
            subst this
            rw [List.take_length] at a8
            (try (first | (with_reducible refine dops_go ?_; simp [a3, a5, a6, a9, a8, inAV]) | (with_reducible refine OKv_go ?_; simp [a3, a5, a6, a9, a8, inAV]) | (with_reducible refine OKr_go ?_; simp [a3, a5, a6, a9, a8, inAV]))); repeat' (first | refine awp_seq ?_ | refine awp_block ?_ | (refine awp_skip ?_; try simp) | (refine awp_exit ?_; try simp) | (refine awp_ret ?_; try simp) | (refine retP_same (by simp) ?_; simp) | (refine retP_flat (by simp) (by simp) (by simp [a3, a5, a6, a9, a8, inAV]) ?_; simp) | (refine awp_reg ?_; simp [a3, a5, a6, a9, a8, inAV]) | (refine awp_drawT (fun _ => false) mixed (by decide +kernel) ?_; simp [a3, a5, a6, a9, a8, inAV]) | (refine guarded_split ?_ ?_ <;> (intro hg; simp only [hg]; simp [a3, a5, a6, a9, a8, inAV])) | (apply awp_cond_t; focus (simp [a3, a5, a6, a9, a8, inAV]; done)) | (apply awp_cond_f; focus (simp [a3, a5, a6, a9, a8, inAV]; done)) | (refine awp_cond ?_; simp [a3, a5, a6, a9, a8, inAV]; refine ⟨?_, ?_⟩ <;> intro hc))
            exact hR2 _ _ ⟨by simp [a3, inAV], by simp [a5], by simp [a6], by simp [a8], rfl⟩
        · clear a3 a5 a6 a7
          rintro A τ' ⟨a3, a5, a6, a8, rfl⟩
          by_cases hn : nextCut all last ≤ 4294967295
          · have hlt := above_lt hn
            rw [cutsFrom_step hn] at hc
            generalize nextCut all last = x at *
            have hlc := congrArg List.length hc
            simp only [List.length_append, List.length_cons] at hlc
            (try (first | (with_reducible refine dops_go ?_; simp [-opAppend, a3, a5, a6, a8, hn]) | (with_reducible refine OKv_go ?_; simp [-opAppend, a3, a5, a6, a8, hn]) | (with_reducible refine OKr_go ?_; simp [-opAppend, a3, a5, a6, a8, hn]))); repeat' (first | refine awp_seq ?_ | refine awp_block ?_ | (refine awp_skip ?_; try simp) | (refine awp_exit ?_; try simp) | (refine awp_ret ?_; try simp) | (refine retP_same (by simp) ?_; simp) | (refine retP_flat (by simp) (by simp) (by simp [-opAppend, a3, a5, a6, a8, hn]) ?_; simp) | (refine awp_reg ?_; simp [-opAppend, a3, a5, a6, a8, hn]) | (refine awp_drawT (fun _ => false) mixed (by decide +kernel) ?_; simp [-opAppend, a3, a5, a6, a8, hn]) | (refine guarded_split ?_ ?_ <;> (intro hg; simp only [hg]; simp [-opAppend, a3, a5, a6, a8, hn])) | (apply awp_cond_t; focus (simp [-opAppend, a3, a5, a6, a8, hn]; done)) | (apply awp_cond_f; focus (simp [-opAppend, a3, a5, a6, a8, hn]; done)))
            have hE63 := Ext.new τ' 63 1 (.buf [.raw (.int .i64 x)])
            refine okr_append slt49 (hO.ext hE63) (hE.trans hE63) (ys := [iAV x]) (by simp [iAV]) (.inr rfl) (by simp [iAV]) (by simp; omega) ?_
            intro v' τ2 hO2 hE2 hkeep hnx
            have hO3 : OwnL σ τ2 1 v' ((out ++ [x]).map iAV) := by simpa using hO2
            clear hkeep
            (try (first | (with_reducible refine dops_go ?_; simp [a3, a8]) | (with_reducible refine OKv_go ?_; simp [a3, a8]) | (with_reducible refine OKr_go ?_; simp [a3, a8]))); repeat' (first | refine awp_seq ?_ | refine awp_block ?_ | (refine awp_skip ?_; try simp) | (refine awp_exit ?_; try simp) | (refine awp_ret ?_; try simp) | (refine retP_same (by simp) ?_; simp) | (refine retP_flat (by simp) (by simp) (by simp [a3, a8]) ?_; simp) | (refine awp_reg ?_; simp [a3, a8]) | (refine awp_drawT (fun _ => false) mixed (by decide +kernel) ?_; simp [a3, a8]) | (refine guarded_split ?_ ?_ <;> (intro hg; simp only [hg]; simp [a3, a8])) | (apply awp_cond_t; focus (simp [a3, a8]; done)) | (apply awp_cond_f; focus (simp [a3, a8]; done)) | (refine awp_cond ?_; simp [a3, a8]; refine ⟨?_, ?_⟩ <;> intro hc))
            exact hI1 (above all x + 1) _ _ (by omega) ⟨x, v', out ++ [x], by simp [a3], by simp, by simp, hO3, hE2, by simp; omega, .inl ⟨by simp, by simpa using hc, rfl⟩⟩
          · rw [cutsFrom_stop hn, List.append_nil] at hc
            subst hc
            generalize nextCut all last = x at *
            (try (first | (with_reducible refine dops_go ?_; simp [a3, a5, a6, a8, hn]) | (with_reducible refine OKv_go ?_; simp [a3, a5, a6, a8, hn]) | (with_reducible refine OKr_go ?_; simp [a3, a5, a6, a8, hn]))); repeat' (first | refine awp_seq ?_ | refine awp_block ?_ | (refine awp_skip ?_; try simp) | (refine awp_exit ?_; try simp) | (refine awp_ret ?_; try simp) | (refine retP_same (by simp) ?_; simp) | (refine retP_flat (by simp) (by simp) (by simp [a3, a5, a6, a8, hn]) ?_; simp) | (refine awp_reg ?_; simp [a3, a5, a6, a8, hn]) | (refine awp_drawT (fun _ => false) mixed (by decide +kernel) ?_; simp [a3, a5, a6, a8, hn]) | (refine guarded_split ?_ ?_ <;> (intro hg; simp only [hg]; simp [a3, a5, a6, a8, hn])) | (apply awp_cond_t; focus (simp [a3, a5, a6, a8, hn]; done)) | (apply awp_cond_f; focus (simp [a3, a5, a6, a8, hn]; done)) | (refine awp_cond ?_; simp [a3, a5, a6, a8, hn]; refine ⟨?_, ?_⟩ <;> intro hc))
            exact hI1 0 _ _ (by omega) ⟨last, v, out, by simp [a3], by simp [a5], by simp [a6], hO, hE, Nat.le_refl _, .inr ⟨by simp, rfl, rfl⟩⟩
      · (try (first | (with_reducible refine dops_go ?_; simp [a3, a5, a6, a7]) | (with_reducible refine OKv_go ?_; simp [a3, a5, a6, a7]) | (with_reducible refine OKr_go ?_; simp [a3, a5, a6, a7]))); repeat' (first | refine awp_seq ?_ | refine awp_block ?_ | (refine awp_skip ?_; try simp) | (refine awp_exit ?_; try simp) | (refine awp_ret ?_; try simp) | (refine retP_same (by simp) ?_; simp) | (refine retP_flat (by simp) (by simp) (by simp [a3, a5, a6, a7]) ?_; simp) | (refine awp_reg ?_; simp [a3, a5, a6, a7]) | (refine awp_drawT (fun _ => false) mixed (by decide +kernel) ?_; simp [a3, a5, a6, a7]) | (refine guarded_split ?_ ?_ <;> (intro hg; simp only [hg]; simp [a3, a5, a6, a7])) | (apply awp_cond_t; focus (simp [a3, a5, a6, a7]; done)) | (apply awp_cond_f; focus (simp [a3, a5, a6, a7]; done)) | (refine awp_cond ?_; simp [a3, a5, a6, a7]; refine ⟨?_, ?_⟩ <;> intro hc))
        exact hR1 _ _ ⟨by simp [a5]; exact hO, hE⟩
    · rintro A τ ⟨hO, hE⟩
      generalize ha5 : A 5 = v at *
      (try (first | (with_reducible refine dops_go ?_; simp [ha5]) | (with_reducible refine OKv_go ?_; simp [ha5]) | (with_reducible refine OKr_go ?_; simp [ha5]))); repeat' (first | refine awp_seq ?_ | refine awp_block ?_ | (refine awp_skip ?_; try simp) | (refine awp_exit ?_; try simp) | (refine awp_ret ?_; try simp) | (refine awp_reg ?_; simp [ha5]) | (refine awp_drawT (fun _ => false) mixed (by decide +kernel) ?_; simp [ha5]) | (refine guarded_split ?_ ?_ <;> (intro hg; simp only [hg]; simp [ha5])) | (apply awp_cond_t; focus (simp [ha5]; done)) | (apply awp_cond_f; focus (simp [ha5]; done)) | (refine awp_cond ?_; simp [ha5]; refine ⟨?_, ?_⟩ <;> intro hc))
      exact retP_own (.inr rfl) (by simp) hO hE
end Go.Proofs.Ytajikhpjjbohaaa.Av

/- The document's zones: the walks of End, Join, Of, both. -/
namespace Go.Proofs.Ytajikhpjjbohaaa.Av
open Go
set_option linter.unusedSimpArgs false
set_option linter.unusedVariables false
set_option maxRecDepth 100000
set_option maxHeartbeats 4000000
set_option pp.maxSteps 300

def endOf (C : List Int) (i : Nat) : Int := match C[i + 1]? with | some x => x - 1 | none => 4294967295
theorem end_calls (C : List Int) (f : Bool) (i : Nat) (hl : C.length < 2 ^ 60) (hi : i < 2 ^ 60) (hC : ∀ x ∈ C, 0 ≤ x ∧ x ≤ 4294967296) : PCalls Try.prog 36 [inAV C f, .raw (.int .i64 i)] (.raw (.int .i64 (endOf C i))) := by
  refine pbody Try.func36 rfl (N := 16) rfl rfl (by simp) (by simp [noIds]) fun σ => ?_
  have w1 : IntKind.i64.wrap ((i : Int) + 1) = ((i + 1 : Nat) : Int) := by rw [wrap64 (by omega) (by omega)]; omega
  obtain ⟨k, hk⟩ : ∃ k, i + 1 = k := ⟨_, rfl⟩
  rw [hk] at w1
  unfold endOf
  rw [hk]
  by_cases hlt : k < C.length
  · have hx : C[k]? = some C[k] := List.getElem?_eq_getElem hlt
    obtain ⟨x1, x2⟩ := hC C[k] (List.getElem_mem _)
    have w2 : IntKind.i64.wrap (C[k] - 1) = C[k] - 1 := wrap64 (by omega) (by omega)
    (try (first | (with_reducible refine dops_go ?_; simp [inAV, iAV, w1, hlt, w2]) | (with_reducible refine OKv_go ?_; simp [inAV, iAV, w1, hlt, w2]) | (with_reducible refine OKr_go ?_; simp [inAV, iAV, w1, hlt, w2]))); repeat' (first | refine awp_seq ?_ | refine awp_block ?_ | (refine awp_skip ?_; try simp) | (refine awp_exit ?_; try simp) | (refine awp_ret ?_; try simp) | (refine retP_same (by simp) ?_; simp) | (refine retP_flat (by simp) (by simp) (by simp [inAV, iAV, w1, hlt, w2]) ?_; simp) | (refine awp_reg ?_; simp [inAV, iAV, w1, hlt, w2]) | (refine awp_drawT (fun _ => false) mixed (by decide +kernel) ?_; simp [inAV, iAV, w1, hlt, w2]) | (refine guarded_split ?_ ?_ <;> (intro hg; simp only [hg]; simp [inAV, iAV, w1, hlt, w2])) | (apply awp_cond_t; focus (simp [inAV, iAV, w1, hlt, w2]; done)) | (apply awp_cond_f; focus (simp [inAV, iAV, w1, hlt, w2]; done)) | (refine awp_cond ?_; simp [inAV, iAV, w1, hlt, w2]; refine ⟨?_, ?_⟩ <;> intro hc))
  · have hx : C[k]? = none := List.getElem?_eq_none (by omega)
    rw [hx]
    (try (first | (with_reducible refine dops_go ?_; simp [inAV, iAV, w1, hlt]) | (with_reducible refine OKv_go ?_; simp [inAV, iAV, w1, hlt]) | (with_reducible refine OKr_go ?_; simp [inAV, iAV, w1, hlt]))); repeat' (first | refine awp_seq ?_ | refine awp_block ?_ | (refine awp_skip ?_; try simp) | (refine awp_exit ?_; try simp) | (refine awp_ret ?_; try simp) | (refine retP_same (by simp) ?_; simp) | (refine retP_flat (by simp) (by simp) (by simp [inAV, iAV, w1, hlt]) ?_; simp) | (refine awp_reg ?_; simp [inAV, iAV, w1, hlt]) | (refine awp_drawT (fun _ => false) mixed (by decide +kernel) ?_; simp [inAV, iAV, w1, hlt]) | (refine guarded_split ?_ ?_ <;> (intro hg; simp only [hg]; simp [inAV, iAV, w1, hlt])) | (apply awp_cond_t; focus (simp [inAV, iAV, w1, hlt]; done)) | (apply awp_cond_f; focus (simp [inAV, iAV, w1, hlt]; done)) | (refine awp_cond ?_; simp [inAV, iAV, w1, hlt]; refine ⟨?_, ?_⟩ <;> intro hc))

def joinZ (z : List Rg) (f t : Int) : List Rg :=
  match z[z.length - 1]? with
  | some r => if r.hi + 1 = f then z.set (z.length - 1) ⟨r.lo, t⟩ else z ++ [⟨f, t⟩]
  | none => z ++ [⟨f, t⟩]
theorem joinZ_len (z : List Rg) (f t : Int) : (joinZ z f t).length ≤ z.length + 1 := by
  unfold joinZ
  split
  · split <;> simp
  · simp
theorem joinZ_in {z : List Rg} {f t : Int} (hz : InZ z) (hf : 0 ≤ f ∧ f < 4294967296) (ht : 0 ≤ t ∧ t < 4294967296) : InZ (joinZ z f t) := by
  unfold joinZ
  have hn : InZ (z ++ [⟨f, t⟩]) := fun s hs => by
    rcases List.mem_append.1 hs with hs | hs
    · exact hz s hs
    · simp only [List.mem_singleton] at hs; subst hs; exact ⟨hf.1, hf.2, ht.1, ht.2⟩
  split
  · rename_i r hr
    have hrz := hz r (List.mem_of_getElem? hr)
    split
    · intro s hs
      rcases List.mem_or_eq_of_mem_set hs with h | h
      · exact hz s h
      · subst h; exact ⟨hrz.1, hrz.2.1, ht.1, ht.2⟩
    · exact hn
  · exact hn

theorem join_calls {σ0 σ : St} {v : AV} {z : List Rg} {f t : Int} (hE : Ext σ0 σ) (hO : OwnL σ0 σ 2 v (z.map rgAV)) (hz : InZ z) (hf : 0 ≤ f ∧ f < 4294967296) (ht : 0 ≤ t ∧ t < 4294967296) (hl : z.length < 2 ^ 36) :
    ACalls Try.prog 35 [v, .raw (.int .i64 f), .raw (.int .i64 t)] σ fun v' τ => OwnL σ0 τ 2 v' ((joinZ z f t).map rgAV) ∧ Ext σ0 τ := by
  refine abody Try.func35 rfl (N := 40) rfl rfl (by simp) ?_
  have wf : IntKind.u32.wrap f = f := wrapU32 (by omega) (by omega)
  have wt : IntKind.u32.wrap t = t := wrapU32 (by omega) (by omega)
  have app : ∀ τ : St, τ = σ.new 38 2 (.buf [rgAV ⟨f, t⟩]) → ∀ k : AV → St → Prop, (∀ v' τ', OwnL σ0 τ' 2 v' ((z ++ [(⟨f, t⟩ : Rg)]).map rgAV) → Ext σ0 τ' → k v' τ') →
      OKr (opAppend Try.prog τ.m 22 v (.rs ⟨38, σ.nx 38, 2⟩ 0 1)) (Res.go 39 τ k) := by
    rintro τ rfl k hk
    have hE38 := Ext.new σ 38 2 (.buf [rgAV ⟨f, t⟩])
    refine okr_append slt22 (hO.ext hE38) (hE.trans hE38) (ys := [rgAV ⟨f, t⟩]) (by simp) (.inr rfl) (by simp [rgAV]) (by simp; omega) ?_
    intro v' τ' h1 h2 _ _
    exact hk v' τ' (by simpa using h1) h2
  rcases Nat.eq_zero_or_pos z.length with h0 | hpos
  · have hz0 : z = [] := List.eq_nil_of_length_eq_zero h0
    subst hz0
    have hj : joinZ [] f t = [] ++ [⟨f, t⟩] := rfl
    rw [hj]
    rcases hO with ⟨_, rfl⟩ | ⟨j, rfl, hjs, hm, hn⟩
    · (try (first | (with_reducible refine dops_go ?_; simp [-opAppend, wf, wt]) | (with_reducible refine OKv_go ?_; simp [-opAppend, wf, wt]) | (with_reducible refine OKr_go ?_; simp [-opAppend, wf, wt]))); repeat' (first | refine awp_seq ?_ | refine awp_block ?_ | (refine awp_skip ?_; try simp) | (refine awp_exit ?_; try simp) | (refine awp_ret ?_; try simp) | (refine awp_reg ?_; simp [-opAppend, wf, wt]) | (refine awp_drawT (fun _ => false) mixed (by decide +kernel) ?_; simp [-opAppend, wf, wt]) | (refine guarded_split ?_ ?_ <;> (intro hg; simp only [hg]; simp [-opAppend, wf, wt])) | (apply awp_cond_t; focus (simp [-opAppend, wf, wt]; done)) | (apply awp_cond_f; focus (simp [-opAppend, wf, wt]; done)) | (refine awp_cond ?_; simp [-opAppend, wf, wt]; refine ⟨?_, ?_⟩ <;> intro hc))
      refine app _ rfl _ fun v' τ' h1 h2 => ?_
      (try (first | (with_reducible refine dops_go ?_; simp) | (with_reducible refine OKv_go ?_; simp) | (with_reducible refine OKr_go ?_; simp))); repeat' (first | refine awp_seq ?_ | refine awp_block ?_ | (refine awp_skip ?_; try simp) | (refine awp_exit ?_; try simp) | (refine awp_ret ?_; try simp) | (refine awp_reg ?_; simp) | (refine awp_drawT (fun _ => false) mixed (by decide +kernel) ?_; simp) | (refine guarded_split ?_ ?_ <;> (intro hg; simp only [hg]; simp)) | (apply awp_cond_t; focus (simp; done)) | (apply awp_cond_f; focus (simp; done)) | (refine awp_cond ?_; simp; refine ⟨?_, ?_⟩ <;> intro hc))
      exact retK_of (x := v') (.inr rfl) (by simp) ⟨h1, h2⟩
    · (try (first | (with_reducible refine dops_go ?_; simp [-opAppend, wf, wt]) | (with_reducible refine OKv_go ?_; simp [-opAppend, wf, wt]) | (with_reducible refine OKr_go ?_; simp [-opAppend, wf, wt]))); repeat' (first | refine awp_seq ?_ | refine awp_block ?_ | (refine awp_skip ?_; try simp) | (refine awp_exit ?_; try simp) | (refine awp_ret ?_; try simp) | (refine awp_reg ?_; simp [-opAppend, wf, wt]) | (refine awp_drawT (fun _ => false) mixed (by decide +kernel) ?_; simp [-opAppend, wf, wt]) | (refine guarded_split ?_ ?_ <;> (intro hg; simp only [hg]; simp [-opAppend, wf, wt])) | (apply awp_cond_t; focus (simp [-opAppend, wf, wt]; done)) | (apply awp_cond_f; focus (simp [-opAppend, wf, wt]; done)) | (refine awp_cond ?_; simp [-opAppend, wf, wt]; refine ⟨?_, ?_⟩ <;> intro hc))
      refine app _ rfl _ fun v' τ' h1 h2 => ?_
      (try (first | (with_reducible refine dops_go ?_; simp) | (with_reducible refine OKv_go ?_; simp) | (with_reducible refine OKr_go ?_; simp))); repeat' (first | refine awp_seq ?_ | refine awp_block ?_ | (refine awp_skip ?_; try simp) | (refine awp_exit ?_; try simp) | (refine awp_ret ?_; try simp) | (refine awp_reg ?_; simp) | (refine awp_drawT (fun _ => false) mixed (by decide +kernel) ?_; simp) | (refine guarded_split ?_ ?_ <;> (intro hg; simp only [hg]; simp)) | (apply awp_cond_t; focus (simp; done)) | (apply awp_cond_f; focus (simp; done)) | (refine awp_cond ?_; simp; refine ⟨?_, ?_⟩ <;> intro hc))
      exact retK_of (x := v') (.inr rfl) (by simp) ⟨h1, h2⟩
  · obtain ⟨k, hk⟩ : ∃ k, z.length = k + 1 := ⟨z.length - 1, by omega⟩
    have hx : z[k]? = some (z[k]'(by omega)) := List.getElem?_eq_getElem (by omega)
    obtain ⟨x1, x2, x3, x4⟩ := hz (z[k]'(by omega)) (List.getElem_mem _)
    have hj : joinZ z f t = if (z[k]'(by omega)).hi + 1 = f then z.set k ⟨(z[k]'(by omega)).lo, t⟩ else z ++ [⟨f, t⟩] := by
      unfold joinZ
      rw [show z.length - 1 = k by omega, hx]
    rw [hj]
    generalize z[k]'(by omega) = r at *
    rcases hO with ⟨hz0, rfl⟩ | ⟨j, rfl, hjs, hm, hn⟩
    · simp at hz0; subst hz0; simp at hk
    · rw [List.length_map, hk] at app ⊢
      have w1 : IntKind.i64.wrap (k : Int) = (k : Int) := wrap64 (by omega) (by omega)
      have w2 : IntKind.i64.wrap r.hi = r.hi := wrap64 (by omega) (by omega)
      have w3 : IntKind.i64.wrap (r.hi + 1) = r.hi + 1 := wrap64 (by omega) (by omega)
      have w4 : IntKind.i64.wrap f = f := wrap64 (by omega) (by omega)
      have c1 : (0 : Int) < (k : Int) + 1 := by omega
      have c2 : (k : Int) < (k : Int) + 1 := by omega
      have hsp : setPart (rgAV r) 1 [AV.raw (.int .u32 t)] = rgAV ⟨r.lo, t⟩ := rfl
      have hm' : σ.m j = some (.buf (z.map rgAV)) := hm
      by_cases hc : r.hi + 1 = f
      · rw [if_pos hc]
        (try (first | (with_reducible refine dops_go ?_; simp [-opAppend, wf, wt, w1, w2, w3, w4, c1, c2, hm', hx, hjs, rg_cells, hc]) | (with_reducible refine OKv_go ?_; simp [-opAppend, wf, wt, w1, w2, w3, w4, c1, c2, hm', hx, hjs, rg_cells, hc]) | (with_reducible refine OKr_go ?_; simp [-opAppend, wf, wt, w1, w2, w3, w4, c1, c2, hm', hx, hjs, rg_cells, hc]))); repeat' (first | refine awp_seq ?_ | refine awp_block ?_ | (refine awp_skip ?_; try simp) | (refine awp_exit ?_; try simp) | (refine awp_ret ?_; try simp) | (refine awp_reg ?_; simp [-opAppend, wf, wt, w1, w2, w3, w4, c1, c2, hm', hx, hjs, rg_cells, hc]) | (refine awp_drawT (fun _ => false) mixed (by decide +kernel) ?_; simp [-opAppend, wf, wt, w1, w2, w3, w4, c1, c2, hm', hx, hjs, rg_cells, hc]) | (refine guarded_split ?_ ?_ <;> (intro hg; simp only [hg]; simp [-opAppend, wf, wt, w1, w2, w3, w4, c1, c2, hm', hx, hjs, rg_cells, hc])) | (apply awp_cond_t; focus (simp [-opAppend, wf, wt, w1, w2, w3, w4, c1, c2, hm', hx, hjs, rg_cells, hc]; done)) | (apply awp_cond_f; focus (simp [-opAppend, wf, wt, w1, w2, w3, w4, c1, c2, hm', hx, hjs, rg_cells, hc]; done)) | (refine awp_cond ?_; simp [-opAppend, wf, wt, w1, w2, w3, w4, c1, c2, hm', hx, hjs, rg_cells, hc]; refine ⟨?_, ?_⟩ <;> intro hc))
        refine retK_of (x := .rs j 0 (k + 1)) (.inr rfl) (by simp) ⟨OwnL.of hjs (by simp [hm', hsp]) hn (by simp [hk]), ⟨fun i o h => ?_, hE.nx⟩⟩
        rw [set_other (fun e => by rw [e, hn] at h; cases h)]; exact hE.m i o h
      · rw [if_neg hc]
        (try (first | (with_reducible refine dops_go ?_; simp [-opAppend, wf, wt, w1, w2, w3, w4, c1, c2, hm', hx, hjs, rg_cells, hc]) | (with_reducible refine OKv_go ?_; simp [-opAppend, wf, wt, w1, w2, w3, w4, c1, c2, hm', hx, hjs, rg_cells, hc]) | (with_reducible refine OKr_go ?_; simp [-opAppend, wf, wt, w1, w2, w3, w4, c1, c2, hm', hx, hjs, rg_cells, hc]))); repeat' (first | refine awp_seq ?_ | refine awp_block ?_ | (refine awp_skip ?_; try simp) | (refine awp_exit ?_; try simp) | (refine awp_ret ?_; try simp) | (refine awp_reg ?_; simp [-opAppend, wf, wt, w1, w2, w3, w4, c1, c2, hm', hx, hjs, rg_cells, hc]) | (refine awp_drawT (fun _ => false) mixed (by decide +kernel) ?_; simp [-opAppend, wf, wt, w1, w2, w3, w4, c1, c2, hm', hx, hjs, rg_cells, hc]) | (refine guarded_split ?_ ?_ <;> (intro hg; simp only [hg]; simp [-opAppend, wf, wt, w1, w2, w3, w4, c1, c2, hm', hx, hjs, rg_cells, hc])) | (apply awp_cond_t; focus (simp [-opAppend, wf, wt, w1, w2, w3, w4, c1, c2, hm', hx, hjs, rg_cells, hc]; done)) | (apply awp_cond_f; focus (simp [-opAppend, wf, wt, w1, w2, w3, w4, c1, c2, hm', hx, hjs, rg_cells, hc]; done)) | (refine awp_cond ?_; simp [-opAppend, wf, wt, w1, w2, w3, w4, c1, c2, hm', hx, hjs, rg_cells, hc]; refine ⟨?_, ?_⟩ <;> intro hc))
        refine app _ rfl _ fun v' τ' h1 h2 => ?_
        (try (first | (with_reducible refine dops_go ?_; simp) | (with_reducible refine OKv_go ?_; simp) | (with_reducible refine OKr_go ?_; simp))); repeat' (first | refine awp_seq ?_ | refine awp_block ?_ | (refine awp_skip ?_; try simp) | (refine awp_exit ?_; try simp) | (refine awp_ret ?_; try simp) | (refine awp_reg ?_; simp) | (refine awp_drawT (fun _ => false) mixed (by decide +kernel) ?_; simp) | (refine guarded_split ?_ ?_ <;> (intro hg; simp only [hg]; simp)) | (apply awp_cond_t; focus (simp; done)) | (apply awp_cond_f; focus (simp; done)) | (refine awp_cond ?_; simp; refine ⟨?_, ?_⟩ <;> intro hc))
        exact retK_of (x := v') (.inr rfl) (by simp) ⟨by simpa using h1, h2⟩

/-- Joining the cuts that are wanted, behind what is there. -/
def joins (p : Int → Bool) (C : List Int) : Nat → List Rg
  | 0 => []
  | i + 1 => match C[i]? with
    | some c => if p c then joinZ (joins p C i) c (endOf C i) else joins p C i
    | none => joins p C i
theorem joins_len (p : Int → Bool) (C : List Int) : ∀ i, (joins p C i).length ≤ i
  | 0 => by simp [joins]
  | i + 1 => by
    have := joins_len p C i
    unfold joins
    split
    · split
      · rename_i c _ _; have := joinZ_len (joins p C i) c (endOf C i); omega
      · omega
    · omega
theorem endOf_in {C : List Int} (hC : ∀ x ∈ C, 0 ≤ x ∧ x < 4294967296) (hp : ∀ i x, C[i + 1]? = some x → 0 < x) (i : Nat) : 0 ≤ endOf C i ∧ endOf C i < 4294967296 := by
  unfold endOf
  split
  · rename_i x hx
    have h1 := hC x (List.mem_of_getElem? hx)
    have h2 := hp i x hx
    omega
  · omega
theorem joins_in {p : Int → Bool} {C : List Int} (hC : ∀ x ∈ C, 0 ≤ x ∧ x < 4294967296) (hp : ∀ i x, C[i + 1]? = some x → 0 < x) : ∀ i, InZ (joins p C i)
  | 0 => by intro r h; simp [joins] at h
  | i + 1 => by
    have ih := joins_in (p := p) hC hp i
    unfold joins
    split
    · rename_i c hc
      split
      · exact joinZ_in ih (hC c (List.mem_of_getElem? hc)) (endOf_in hC hp i)
      · exact ih
    · exact ih

theorem refOf_calls (l : List Rg) (f : Bool) (hz : InZ l) (hl : l.length < 2 ^ 30) (ho : ∀ r ∈ l, r.lo ≤ r.hi) (hC : ∀ x ∈ cutsOf l, 0 ≤ x ∧ x < 4294967296) (hp : ∀ i x, (cutsOf l)[i + 1]? = some x → 0 < x) :
    PCalls Try.prog 10 [zAV l f] (.tup [zAV (joins (hasB l) (cutsOf l) (cutsOf l).length) false, .raw (.int .i64 0)]) := by
  refine pbody Try.func10 rfl (N := 52) rfl rfl (by simp) (by have := noIds_zAV (joins (hasB l) (cutsOf l) (cutsOf l).length) false; simpa [noIds] using this) fun σ => ?_
  (try (first | (with_reducible refine dops_go ?_; simp) | (with_reducible refine OKv_go ?_; simp) | (with_reducible refine OKr_go ?_; simp))); repeat' (first | refine awp_seq ?_ | refine awp_block ?_ | (refine awp_skip ?_; try simp) | (refine awp_exit ?_; try simp) | (refine awp_ret ?_; try simp) | (refine retP_same (by simp) ?_; simp) | (refine retP_flat (by simp) (by simp) (by simp) ?_; simp) | (refine awp_reg ?_; simp) | (refine awp_drawT (fun _ => false) mixed (by decide +kernel) ?_; simp) | (refine guarded_split ?_ ?_ <;> (intro hg; simp only [hg]; simp)) | (apply awp_cond_t; focus (simp; done)) | (apply awp_cond_f; focus (simp; done)) | (refine awp_cond ?_; simp; refine ⟨?_, ?_⟩ <;> intro hc))
  refine awp_block_cutH (fun A τ => A 0 = zAV l f ∧ τ = σ) ?_ ?_
  · intro R1 hR1
    refine awp_loopH (fun n A τ => ∃ i : Nat, A 0 = zAV l f ∧ A 4 = .raw (.int .i64 i) ∧ τ = σ ∧ i ≤ l.length ∧ n = l.length - i) l.length ?_ ?_
    · exact ⟨0, by simp, by simp, rfl, by omega, by omega⟩
    rintro n A τ ⟨i, a0, a4, rfl, hi, rfl⟩ I1 hI1
    by_cases hlt : i < l.length
    · have hx : l[i]? = some l[i] := List.getElem?_eq_getElem hlt
      have hxo := ho l[i] (List.getElem_mem _)
      have c1 : ¬ l[i].hi < l[i].lo := by omega
      have w1 : IntKind.i64.wrap ((i : Int) + 1) = ((i + 1 : Nat) : Int) := by rw [wrap64 (by omega) (by omega)]; omega
      (try (first | (with_reducible refine dops_go ?_; simp [a0, a4, zAV, rgAV, hlt, c1, w1]) | (with_reducible refine OKv_go ?_; simp [a0, a4, zAV, rgAV, hlt, c1, w1]) | (with_reducible refine OKr_go ?_; simp [a0, a4, zAV, rgAV, hlt, c1, w1]))); repeat' (first | refine awp_seq ?_ | refine awp_block ?_ | (refine awp_skip ?_; try simp) | (refine awp_exit ?_; try simp) | (refine awp_ret ?_; try simp) | (refine retP_same (by simp) ?_; simp) | (refine retP_flat (by simp) (by simp) (by simp [a0, a4, zAV, rgAV, hlt, c1, w1]) ?_; simp) | (refine awp_reg ?_; simp [a0, a4, zAV, rgAV, hlt, c1, w1]) | (refine awp_drawT (fun _ => false) mixed (by decide +kernel) ?_; simp [a0, a4, zAV, rgAV, hlt, c1, w1]) | (refine guarded_split ?_ ?_ <;> (intro hg; simp only [hg]; simp [a0, a4, zAV, rgAV, hlt, c1, w1])) | (apply awp_cond_t; focus (simp [a0, a4, zAV, rgAV, hlt, c1, w1]; done)) | (apply awp_cond_f; focus (simp [a0, a4, zAV, rgAV, hlt, c1, w1]; done)) | (refine awp_cond ?_; simp [a0, a4, zAV, rgAV, hlt, c1, w1]; refine ⟨?_, ?_⟩ <;> intro hc))
      exact hI1 (l.length - (i + 1)) _ _ (by omega) ⟨i + 1, by simp [a0, zAV, rgAV], by simp, rfl, by omega, rfl⟩
    · have : i = l.length := by omega
      subst this
      (try (first | (with_reducible refine dops_go ?_; simp [a0, a4, zAV]) | (with_reducible refine OKv_go ?_; simp [a0, a4, zAV]) | (with_reducible refine OKr_go ?_; simp [a0, a4, zAV]))); repeat' (first | refine awp_seq ?_ | refine awp_block ?_ | (refine awp_skip ?_; try simp) | (refine awp_exit ?_; try simp) | (refine awp_ret ?_; try simp) | (refine retP_same (by simp) ?_; simp) | (refine retP_flat (by simp) (by simp) (by simp [a0, a4, zAV]) ?_; simp) | (refine awp_reg ?_; simp [a0, a4, zAV]) | (refine awp_drawT (fun _ => false) mixed (by decide +kernel) ?_; simp [a0, a4, zAV]) | (refine guarded_split ?_ ?_ <;> (intro hg; simp only [hg]; simp [a0, a4, zAV])) | (apply awp_cond_t; focus (simp [a0, a4, zAV]; done)) | (apply awp_cond_f; focus (simp [a0, a4, zAV]; done)) | (refine awp_cond ?_; simp [a0, a4, zAV]; refine ⟨?_, ?_⟩ <;> intro hc))
      exact hR1 _ _ ⟨by simp [a0, zAV], rfl⟩
  · rintro A τ ⟨a0, rfl⟩
    have hcc := cuts_calls l f hz hl
    have hcl : (cutsOf l).length ≤ 1 + 2 * l.length := Nat.le_trans (cutsFrom_len _ _ _) (by have := above_le (cutsAll l) (-1); rw [cutsAll_len] at this; exact this)
    (try (first | (with_reducible refine dops_go ?_; simp [a0]) | (with_reducible refine OKv_go ?_; simp [a0]) | (with_reducible refine OKr_go ?_; simp [a0]))); repeat' (first | refine awp_seq ?_ | refine awp_block ?_ | (refine awp_skip ?_; try simp) | (refine awp_exit ?_; try simp) | (refine awp_ret ?_; try simp) | (refine retP_same (by simp) ?_; simp) | (refine retP_flat (by simp) (by simp) (by simp [a0]) ?_; simp) | (refine awp_reg ?_; simp [a0]) | (refine awp_drawT (fun _ => false) mixed (by decide +kernel) ?_; simp [a0]) | (refine guarded_split ?_ ?_ <;> (intro hg; simp only [hg]; simp [a0])) | (apply awp_cond_t; focus (simp [a0]; done)) | (apply awp_cond_f; focus (simp [a0]; done)) | (refine awp_cond ?_; simp [a0]; refine ⟨?_, ?_⟩ <;> intro hc))
    refine PCalls.use hcc ?_
    generalize cutsOf l = C at *
    (try (first | (with_reducible refine dops_go ?_; simp [a0]) | (with_reducible refine OKv_go ?_; simp [a0]) | (with_reducible refine OKr_go ?_; simp [a0]))); repeat' (first | refine awp_seq ?_ | refine awp_block ?_ | (refine awp_skip ?_; try simp) | (refine awp_exit ?_; try simp) | (refine awp_ret ?_; try simp) | (refine retP_same (by simp) ?_; simp) | (refine retP_flat (by simp) (by simp) (by simp [a0]) ?_; simp) | (refine awp_reg ?_; simp [a0]) | (refine awp_drawT (fun _ => false) mixed (by decide +kernel) ?_; simp [a0]) | (refine guarded_split ?_ ?_ <;> (intro hg; simp only [hg]; simp [a0])) | (apply awp_cond_t; focus (simp [a0]; done)) | (apply awp_cond_f; focus (simp [a0]; done)) | (refine awp_cond ?_; simp [a0]; refine ⟨?_, ?_⟩ <;> intro hc))
    refine awp_block_cutH (fun A τ' => OwnL τ τ' 2 (A 5) ((joins (hasB l) C C.length).map rgAV) ∧ Ext τ τ') ?_ ?_
    · intro R1 hR1
      refine awp_loopH (fun n A τ' => ∃ (i : Nat) (v : AV), A 0 = zAV l f ∧ A 5 = v ∧ A 6 = inAV C false ∧ A 7 = .raw (.int .i64 i) ∧ OwnL τ τ' 2 v ((joins (hasB l) C i).map rgAV) ∧ Ext τ τ' ∧ i ≤ C.length ∧ n = C.length - i) C.length ?_ ?_
      · exact ⟨0, .sl 0 [] true, by simp [a0], by simp, by simp, by simp, OwnL.nil, Ext.refl _, by omega, by omega⟩
      clear a0
      rintro n A τ' ⟨i, v, a0, a5, a6, a7, hO, hE, hi, rfl⟩ I1 hI1
      by_cases hlt : i < C.length
      · have hx : C[i]? = some C[i] := List.getElem?_eq_getElem hlt
        have hCi := hC C[i] (List.getElem_mem _)
        have w1 : IntKind.i64.wrap ((i : Int) + 1) = ((i + 1 : Nat) : Int) := by rw [wrap64 (by omega) (by omega)]; omega
        have w2 : IntKind.u32.wrap C[i] = C[i] := wrapU32 (by omega) (by omega)
        have hh := refHas_calls l f C[i] (by omega)
        have he := end_calls C false i (by omega) (by omega) (fun x hx => by have := hC x hx; omega)
        have hei := endOf_in hC hp i
        have hjl := joins_len (hasB l) C i
        have hji := joins_in (p := hasB l) hC hp i
        have hj := join_calls (f := C[i]) (t := endOf C i) hE hO hji hCi hei (by omega)
        have hstep : joins (hasB l) C (i + 1) = if hasB l C[i] then joinZ (joins (hasB l) C i) C[i] (endOf C i) else joins (hasB l) C i := by
          conv => lhs; rw [joins]
          rw [hx]
        have hCl : ∀ g, inAV C g = .sl 1 (C.map iAV) g := fun g => rfl
        cases hb : hasB l C[i] with
        | true =>
          rw [hb] at hh hstep
          rw [if_pos rfl] at hstep
          rw [← hstep] at hj
          (try (first | (with_reducible refine dops_go ?_; simp [a0, a5, a6, a7, inAV, iAV, hlt, w2]) | (with_reducible refine OKv_go ?_; simp [a0, a5, a6, a7, inAV, iAV, hlt, w2]) | (with_reducible refine OKr_go ?_; simp [a0, a5, a6, a7, inAV, iAV, hlt, w2]))); repeat' (first | refine awp_seq ?_ | refine awp_block ?_ | (refine awp_skip ?_; try simp) | (refine awp_exit ?_; try simp) | (refine awp_ret ?_; try simp) | (refine retP_same (by simp) ?_; simp) | (refine retP_flat (by simp) (by simp) (by simp [a0, a5, a6, a7, inAV, iAV, hlt, w2]) ?_; simp) | (refine awp_reg ?_; simp [a0, a5, a6, a7, inAV, iAV, hlt, w2]) | (refine awp_drawT (fun _ => false) mixed (by decide +kernel) ?_; simp [a0, a5, a6, a7, inAV, iAV, hlt, w2]) | (refine guarded_split ?_ ?_ <;> (intro hg; simp only [hg]; simp [a0, a5, a6, a7, inAV, iAV, hlt, w2])) | (apply awp_cond_t; focus (simp [a0, a5, a6, a7, inAV, iAV, hlt, w2]; done)) | (apply awp_cond_f; focus (simp [a0, a5, a6, a7, inAV, iAV, hlt, w2]; done)) | (refine awp_cond ?_; simp [a0, a5, a6, a7, inAV, iAV, hlt, w2]; refine ⟨?_, ?_⟩ <;> intro hc))
          refine PCalls.use hh ?_
          (try (first | (with_reducible refine dops_go ?_; simp [a0, a5, a6, a7, inAV, iAV, hlt, w2]) | (with_reducible refine OKv_go ?_; simp [a0, a5, a6, a7, inAV, iAV, hlt, w2]) | (with_reducible refine OKr_go ?_; simp [a0, a5, a6, a7, inAV, iAV, hlt, w2]))); repeat' (first | refine awp_seq ?_ | refine awp_block ?_ | (refine awp_skip ?_; try simp) | (refine awp_exit ?_; try simp) | (refine awp_ret ?_; try simp) | (refine retP_same (by simp) ?_; simp) | (refine retP_flat (by simp) (by simp) (by simp [a0, a5, a6, a7, inAV, iAV, hlt, w2]) ?_; simp) | (refine awp_reg ?_; simp [a0, a5, a6, a7, inAV, iAV, hlt, w2]) | (refine awp_drawT (fun _ => false) mixed (by decide +kernel) ?_; simp [a0, a5, a6, a7, inAV, iAV, hlt, w2]) | (refine guarded_split ?_ ?_ <;> (intro hg; simp only [hg]; simp [a0, a5, a6, a7, inAV, iAV, hlt, w2])) | (apply awp_cond_t; focus (simp [a0, a5, a6, a7, inAV, iAV, hlt, w2]; done)) | (apply awp_cond_f; focus (simp [a0, a5, a6, a7, inAV, iAV, hlt, w2]; done)) | (refine awp_cond ?_; simp [a0, a5, a6, a7, inAV, iAV, hlt, w2]; refine ⟨?_, ?_⟩ <;> intro hc))
          refine awp_drawT (fun o => o.dst == some 49) mixed (by decide +kernel) ?_
          (try (first | (with_reducible refine dops_go ?_; simp [a0, a5, a6, a7, inAV, iAV, hlt, w2]) | (with_reducible refine OKv_go ?_; simp [a0, a5, a6, a7, inAV, iAV, hlt, w2]) | (with_reducible refine OKr_go ?_; simp [a0, a5, a6, a7, inAV, iAV, hlt, w2]))); repeat' (first | refine awp_seq ?_ | refine awp_block ?_ | (refine awp_skip ?_; try simp) | (refine awp_exit ?_; try simp) | (refine awp_ret ?_; try simp) | (refine retP_same (by simp) ?_; simp) | (refine retP_flat (by simp) (by simp) (by simp [a0, a5, a6, a7, inAV, iAV, hlt, w2]) ?_; simp) | (refine awp_reg ?_; simp [a0, a5, a6, a7, inAV, iAV, hlt, w2]) | (refine awp_drawT (fun _ => false) mixed (by decide +kernel) ?_; simp [a0, a5, a6, a7, inAV, iAV, hlt, w2]) | (refine guarded_split ?_ ?_ <;> (intro hg; simp only [hg]; simp [a0, a5, a6, a7, inAV, iAV, hlt, w2])) | (apply awp_cond_t; focus (simp [a0, a5, a6, a7, inAV, iAV, hlt, w2]; done)) | (apply awp_cond_f; focus (simp [a0, a5, a6, a7, inAV, iAV, hlt, w2]; done)) | (refine awp_cond ?_; simp [a0, a5, a6, a7, inAV, iAV, hlt, w2]; refine ⟨?_, ?_⟩ <;> intro hc))
          refine ⟨_, .inl he, hj.mono ?_⟩
          rintro v' τ2 ⟨hO2, hE2⟩
          (try (first | (with_reducible refine dops_go ?_; simp [a0, a5, a6, a7, w1]) | (with_reducible refine OKv_go ?_; simp [a0, a5, a6, a7, w1]) | (with_reducible refine OKr_go ?_; simp [a0, a5, a6, a7, w1]))); repeat' (first | refine awp_seq ?_ | refine awp_block ?_ | (refine awp_skip ?_; try simp) | (refine awp_exit ?_; try simp) | (refine awp_ret ?_; try simp) | (refine retP_same (by simp) ?_; simp) | (refine retP_flat (by simp) (by simp) (by simp [a0, a5, a6, a7, w1]) ?_; simp) | (refine awp_reg ?_; simp [a0, a5, a6, a7, w1]) | (refine awp_drawT (fun _ => false) mixed (by decide +kernel) ?_; simp [a0, a5, a6, a7, w1]) | (refine guarded_split ?_ ?_ <;> (intro hg; simp only [hg]; simp [a0, a5, a6, a7, w1])) | (apply awp_cond_t; focus (simp [a0, a5, a6, a7, w1]; done)) | (apply awp_cond_f; focus (simp [a0, a5, a6, a7, w1]; done)) | (refine awp_cond ?_; simp [a0, a5, a6, a7, w1]; refine ⟨?_, ?_⟩ <;> intro hc))
          exact hI1 (C.length - (i + 1)) _ _ (by omega) ⟨i + 1, v', by simp [a0], by simp, by simp [a6, inAV, iAV], by simp, hO2, hE2, by omega, rfl⟩
        | false =>
          rw [hb] at hh hstep
          rw [if_neg (by simp)] at hstep
          (try (first | (with_reducible refine dops_go ?_; simp [a0, a5, a6, a7, inAV, iAV, hlt, w2]) | (with_reducible refine OKv_go ?_; simp [a0, a5, a6, a7, inAV, iAV, hlt, w2]) | (with_reducible refine OKr_go ?_; simp [a0, a5, a6, a7, inAV, iAV, hlt, w2]))); repeat' (first | refine awp_seq ?_ | refine awp_block ?_ | (refine awp_skip ?_; try simp) | (refine awp_exit ?_; try simp) | (refine awp_ret ?_; try simp) | (refine retP_same (by simp) ?_; simp) | (refine retP_flat (by simp) (by simp) (by simp [a0, a5, a6, a7, inAV, iAV, hlt, w2]) ?_; simp) | (refine awp_reg ?_; simp [a0, a5, a6, a7, inAV, iAV, hlt, w2]) | (refine awp_drawT (fun _ => false) mixed (by decide +kernel) ?_; simp [a0, a5, a6, a7, inAV, iAV, hlt, w2]) | (refine guarded_split ?_ ?_ <;> (intro hg; simp only [hg]; simp [a0, a5, a6, a7, inAV, iAV, hlt, w2])) | (apply awp_cond_t; focus (simp [a0, a5, a6, a7, inAV, iAV, hlt, w2]; done)) | (apply awp_cond_f; focus (simp [a0, a5, a6, a7, inAV, iAV, hlt, w2]; done)) | (refine awp_cond ?_; simp [a0, a5, a6, a7, inAV, iAV, hlt, w2]; refine ⟨?_, ?_⟩ <;> intro hc))
          refine PCalls.use hh ?_
          (try (first | (with_reducible refine dops_go ?_; simp [a0, a5, a6, a7, inAV, iAV, hlt, w2, w1]) | (with_reducible refine OKv_go ?_; simp [a0, a5, a6, a7, inAV, iAV, hlt, w2, w1]) | (with_reducible refine OKr_go ?_; simp [a0, a5, a6, a7, inAV, iAV, hlt, w2, w1]))); repeat' (first | refine awp_seq ?_ | refine awp_block ?_ | (refine awp_skip ?_; try simp) | (refine awp_exit ?_; try simp) | (refine awp_ret ?_; try simp) | (refine retP_same (by simp) ?_; simp) | (refine retP_flat (by simp) (by simp) (by simp [a0, a5, a6, a7, inAV, iAV, hlt, w2, w1]) ?_; simp) | (refine awp_reg ?_; simp [a0, a5, a6, a7, inAV, iAV, hlt, w2, w1]) | (refine awp_drawT (fun _ => false) mixed (by decide +kernel) ?_; simp [a0, a5, a6, a7, inAV, iAV, hlt, w2, w1]) | (refine guarded_split ?_ ?_ <;> (intro hg; simp only [hg]; simp [a0, a5, a6, a7, inAV, iAV, hlt, w2, w1])) | (apply awp_cond_t; focus (simp [a0, a5, a6, a7, inAV, iAV, hlt, w2, w1]; done)) | (apply awp_cond_f; focus (simp [a0, a5, a6, a7, inAV, iAV, hlt, w2, w1]; done)) | (refine awp_cond ?_; simp [a0, a5, a6, a7, inAV, iAV, hlt, w2, w1]; refine ⟨?_, ?_⟩ <;> intro hc))
          exact hI1 (C.length - (i + 1)) _ _ (by omega) ⟨i + 1, v, by simp [a0], by simp [a5], by simp [a6, inAV, iAV], by simp, by rw [hstep]; exact hO, hE, by omega, rfl⟩
      · have : i = C.length := by omega
        subst this
        (try (first | (with_reducible refine dops_go ?_; simp [a0, a5, a6, a7, inAV]) | (with_reducible refine OKv_go ?_; simp [a0, a5, a6, a7, inAV]) | (with_reducible refine OKr_go ?_; simp [a0, a5, a6, a7, inAV]))); repeat' (first | refine awp_seq ?_ | refine awp_block ?_ | (refine awp_skip ?_; try simp) | (refine awp_exit ?_; try simp) | (refine awp_ret ?_; try simp) | (refine retP_same (by simp) ?_; simp) | (refine retP_flat (by simp) (by simp) (by simp [a0, a5, a6, a7, inAV]) ?_; simp) | (refine awp_reg ?_; simp [a0, a5, a6, a7, inAV]) | (refine awp_drawT (fun _ => false) mixed (by decide +kernel) ?_; simp [a0, a5, a6, a7, inAV]) | (refine guarded_split ?_ ?_ <;> (intro hg; simp only [hg]; simp [a0, a5, a6, a7, inAV])) | (apply awp_cond_t; focus (simp [a0, a5, a6, a7, inAV]; done)) | (apply awp_cond_f; focus (simp [a0, a5, a6, a7, inAV]; done)) | (refine awp_cond ?_; simp [a0, a5, a6, a7, inAV]; refine ⟨?_, ?_⟩ <;> intro hc))
        exact hR1 _ _ ⟨by simp [a5]; exact hO, hE⟩
    · rintro A τ' ⟨hO, hE⟩
      generalize ha5 : A 5 = v at *
      (try (first | (with_reducible refine dops_go ?_; simp [ha5]) | (with_reducible refine OKv_go ?_; simp [ha5]) | (with_reducible refine OKr_go ?_; simp [ha5]))); repeat' (first | refine awp_seq ?_ | refine awp_block ?_ | (refine awp_skip ?_; try simp) | (refine awp_exit ?_; try simp) | (refine awp_ret ?_; try simp) | (refine awp_reg ?_; simp [ha5]) | (refine awp_drawT (fun _ => false) mixed (by decide +kernel) ?_; simp [ha5]) | (refine guarded_split ?_ ?_ <;> (intro hg; simp only [hg]; simp [ha5])) | (apply awp_cond_t; focus (simp [ha5]; done)) | (apply awp_cond_f; focus (simp [ha5]; done)) | (refine awp_cond ?_; simp [ha5]; refine ⟨?_, ?_⟩ <;> intro hc))
      exact retP_own2 (.inr rfl) (by simp) hO hE

theorem ACalls.args {P : Program} {f : FuncId} {as_ bs : List AV} {σ : St} {K : AV → St → Prop} (hw : ∀ S vs, LRel S as_ vs → LRel S bs vs) (h : ACalls P f bs σ K) : ACalls P f as_ σ K :=
  ⟨h.1, fun S vs hS hl => h.2 S vs hS (hw S vs hl)⟩
theorem lrel_one {a b : AV} (h : Weaker a b) : ∀ S vs, LRel S [a] vs → LRel S [b] vs := fun S vs hl => by
  simp only [LRel] at hl ⊢
  obtain ⟨v, us, e, h1, h2⟩ := hl
  exact ⟨v, us, e, h _ _ h1, h2⟩
/-- A list that was made, handed on for good. -/
theorem PCalls.useOwn {P : Program} {f : FuncId} {σ0 σ : St} {n : Nat} {v r : AV} {es : List AV} {K : AV → St → Prop} (h : PCalls P f [.sl n es false] r) (hO : OwnL σ0 σ n v es) (hE : Ext σ0 σ) (k : ∀ τ', Ext σ0 τ' → K r τ') : ACalls P f [v] σ K := by
  rcases hO with ⟨rfl, rfl⟩ | ⟨j, rfl, hj, hm, hn⟩
  · exact ACalls.args (lrel_one weaker_sl) (h.use (k _ hE))
  · refine ACalls.freeze j ?_
    have e1 : [AV.rs j 0 es.length].map (giveUp (σ.del j).m σ.m) = [.sl n es false] := by
      simp only [List.map_cons, List.map_nil]
      rw [giveUp_rs_del hm (by simp), hj]; simp
    rw [e1]
    refine h.use (k _ ⟨fun i o hi => ?_, hE.nx⟩)
    rw [del_other (fun e => by rw [e, hn] at hi; cases hi)]; exact hE.m i o hi

def howP (how : Int) (p q : Bool) : Bool := (how == 1 && p && q) || (how == 2 && (p || q)) || (how == 3 && p && !q)
theorem both_calls (x y : List Rg) (fx fy : Bool) (how : Int) (hhow : how = 1 ∨ how = 2 ∨ how = 3) (hx : InZ x) (hy : InZ y) (hl : x.length + y.length < 2 ^ 30) (hC : ∀ c ∈ cutsOf (x ++ y), 0 ≤ c ∧ c < 4294967296) (hp : ∀ i c, (cutsOf (x ++ y))[i + 1]? = some c → 0 < c) :
    PCalls Try.prog 39 [zAV x fx, zAV y fy, .raw (.int .i64 how)] (zAV (joins (fun a => howP how (hasB x a) (hasB y a)) (cutsOf (x ++ y)) (cutsOf (x ++ y)).length) false) := by
  refine pbody Try.func39 rfl (N := 80) rfl rfl (by simp) (noIds_zAV _ _) fun σ => ?_
  have ok : ∀ z : List Rg, cellsOK (cellsL (z.map rgAV)) = true := fun z => by
    induction z with
    | nil => rfl
    | cons r z ih => simp [cellsL, rgAV, cellsOK, cellOK] at ih ⊢; try exact ih
  (try (first | (with_reducible refine dops_go ?_; simp [-opAppend]) | (with_reducible refine OKv_go ?_; simp [-opAppend]) | (with_reducible refine OKr_go ?_; simp [-opAppend]))); repeat' (first | refine awp_seq ?_ | refine awp_block ?_ | (refine awp_skip ?_; try simp) | (refine awp_exit ?_; try simp) | (refine awp_ret ?_; try simp) | (refine awp_reg ?_; simp [-opAppend]) | (refine awp_drawT (fun _ => false) mixed (by decide +kernel) ?_; simp [-opAppend]) | (refine guarded_split ?_ ?_ <;> (intro hg; simp only [hg]; simp [-opAppend])) | (apply awp_cond_t; focus (simp [-opAppend]; done)) | (apply awp_cond_f; focus (simp [-opAppend]; done)) | (refine awp_cond ?_; simp [-opAppend]; refine ⟨?_, ?_⟩ <;> intro hc))
  refine okr_append slt22 (σ0 := σ) (es := []) (OwnL.of rfl (by simp) (fresh_none _ _ _) rfl) (Ext.new _ _ _ _) (ys := x.map rgAV) (by simp [zAV]) (.inr rfl) (ok x) (by simp; omega) ?_
  intro v1 τ1 hO1 hE1 _ _
  rw [List.nil_append] at hO1
  (try (first | (with_reducible refine dops_go ?_; simp [-opAppend]) | (with_reducible refine OKv_go ?_; simp [-opAppend]) | (with_reducible refine OKr_go ?_; simp [-opAppend]))); repeat' (first | refine awp_seq ?_ | refine awp_block ?_ | (refine awp_skip ?_; try simp) | (refine awp_exit ?_; try simp) | (refine awp_ret ?_; try simp) | (refine awp_reg ?_; simp [-opAppend]) | (refine awp_drawT (fun _ => false) mixed (by decide +kernel) ?_; simp [-opAppend]) | (refine guarded_split ?_ ?_ <;> (intro hg; simp only [hg]; simp [-opAppend])) | (apply awp_cond_t; focus (simp [-opAppend]; done)) | (apply awp_cond_f; focus (simp [-opAppend]; done)) | (refine awp_cond ?_; simp [-opAppend]; refine ⟨?_, ?_⟩ <;> intro hc))
  refine okr_append slt22 hO1 hE1 (ys := y.map rgAV) (by simp [zAV]) (.inr rfl) (ok y) (by simp; omega) ?_
  intro v2 τ2 hO2 hE2 _ _
  rw [← List.map_append] at hO2
  (try (first | (with_reducible refine dops_go ?_; simp [-opAppend]) | (with_reducible refine OKv_go ?_; simp [-opAppend]) | (with_reducible refine OKr_go ?_; simp [-opAppend]))); repeat' (first | refine awp_seq ?_ | refine awp_block ?_ | (refine awp_skip ?_; try simp) | (refine awp_exit ?_; try simp) | (refine awp_ret ?_; try simp) | (refine awp_reg ?_; simp [-opAppend]) | (refine awp_drawT (fun _ => false) mixed (by decide +kernel) ?_; simp [-opAppend]) | (refine guarded_split ?_ ?_ <;> (intro hg; simp only [hg]; simp [-opAppend])) | (apply awp_cond_t; focus (simp [-opAppend]; done)) | (apply awp_cond_f; focus (simp [-opAppend]; done)) | (refine awp_cond ?_; simp [-opAppend]; refine ⟨?_, ?_⟩ <;> intro hc))
  have hcc := cuts_calls (x ++ y) false (fun r hr => (List.mem_append.1 hr).elim (hx r) (hy r)) (by simp; omega)
  refine hcc.useOwn hO2 hE2 fun τ hE => ?_
  have hcl : (cutsOf (x ++ y)).length ≤ 1 + 2 * (x ++ y).length := Nat.le_trans (cutsFrom_len _ _ _) (by have := above_le (cutsAll (x ++ y)) (-1); rw [cutsAll_len] at this; exact this)
  rw [List.length_append] at hcl
  generalize cutsOf (x ++ y) = C at *
  clear hO1 hO2 hE1 hE2
  (try (first | (with_reducible refine dops_go ?_; simp) | (with_reducible refine OKv_go ?_; simp) | (with_reducible refine OKr_go ?_; simp))); repeat' (first | refine awp_seq ?_ | refine awp_block ?_ | (refine awp_skip ?_; try simp) | (refine awp_exit ?_; try simp) | (refine awp_ret ?_; try simp) | (refine retP_same (by simp) ?_; simp) | (refine retP_flat (by simp) (by simp) (by simp) ?_; simp) | (refine awp_reg ?_; simp) | (refine awp_drawT (fun _ => false) mixed (by decide +kernel) ?_; simp) | (refine guarded_split ?_ ?_ <;> (intro hg; simp only [hg]; simp)) | (apply awp_cond_t; focus (simp; done)) | (apply awp_cond_f; focus (simp; done)) | (refine awp_cond ?_; simp; refine ⟨?_, ?_⟩ <;> intro hc))
  refine awp_block_cutH (fun A τ' => OwnL σ τ' 2 (A 9) ((joins (fun a => howP how (hasB x a) (hasB y a)) C C.length).map rgAV) ∧ Ext σ τ') ?_ ?_
  · intro R1 hR1
    refine awp_loopH (fun n A τ' => ∃ (i : Nat) (v : AV), A 0 = zAV x fx ∧ A 1 = zAV y fy ∧ A 2 = .raw (.int .i64 how) ∧ A 8 = inAV C false ∧ A 9 = v ∧ A 10 = .raw (.int .i64 i) ∧ OwnL σ τ' 2 v ((joins (fun a => howP how (hasB x a) (hasB y a)) C i).map rgAV) ∧ Ext σ τ' ∧ i ≤ C.length ∧ n = C.length - i) C.length ?_ ?_
    · exact ⟨0, .sl 0 [] true, by simp, by simp, by simp, by simp, by simp, by simp, OwnL.nil, hE, by omega, by omega⟩
    clear hE
    rintro n A τ' ⟨i, v, a0, a1, a2, a8, a9, a10, hO, hE, hi, rfl⟩ I1 hI1
    by_cases hlt : i < C.length
    · have hci : C[i]? = some C[i] := List.getElem?_eq_getElem hlt
      have hCi := hC C[i] (List.getElem_mem _)
      have w1 : IntKind.i64.wrap ((i : Int) + 1) = ((i + 1 : Nat) : Int) := by rw [wrap64 (by omega) (by omega)]; omega
      have w2 : IntKind.u32.wrap C[i] = C[i] := wrapU32 (by omega) (by omega)
      have hh := refHas_calls x fx C[i] (by omega)
      have hg := refHas_calls y fy C[i] (by omega)
      have he := end_calls C false i (by omega) (by omega) (fun x hx => by have := hC x hx; omega)
      have hei := endOf_in hC hp i
      have hjl := joins_len (fun a => howP how (hasB x a) (hasB y a)) C i
      have hji := joins_in (p := fun a => howP how (hasB x a) (hasB y a)) hC hp i
      have hj := join_calls (f := C[i]) (t := endOf C i) hE hO hji hCi hei (by omega)
      have hstep : joins (fun a => howP how (hasB x a) (hasB y a)) C (i + 1) = if howP how (hasB x C[i]) (hasB y C[i]) then joinZ (joins (fun a => howP how (hasB x a) (hasB y a)) C i) C[i] (endOf C i) else joins (fun a => howP how (hasB x a) (hasB y a)) C i := by
        conv => lhs; rw [joins]
        rw [hci]
      generalize hJ0 : joins (fun a => howP how (hasB x a) (hasB y a)) C i = J0 at *
      generalize hJ1 : joins (fun a => howP how (hasB x a) (hasB y a)) C (i + 1) = J1 at *
      generalize hasB x C[i] = p at *
      generalize hasB y C[i] = q at *
      have yes : howP how p q = true → ∀ A' : Env, A' 0 = zAV x fx → A' 1 = zAV y fy → A' 2 = .raw (.int .i64 how) → A' 8 = inAV C false → A' 10 = .raw (.int .i64 ((i + 1 : Nat) : Int)) → ∀ v' τ2, OwnL σ τ2 2 v' ((joinZ J0 C[i] (endOf C i)).map rgAV) → Ext σ τ2 → A' 9 = v' → I1 A' τ2 := by
        intro hh A' b0 b1 b2 b8 b10 v' τ2 hO2 hE2 b9
        rw [if_pos hh] at hstep
        rw [← hstep] at hO2
        exact hI1 (C.length - (i + 1)) _ _ (by omega) ⟨i + 1, v', b0, b1, b2, b8, b9, b10, by rw [hJ1]; exact hO2, hE2, by omega, rfl⟩
      have no : howP how p q = false → ∀ A' : Env, A' 0 = zAV x fx → A' 1 = zAV y fy → A' 2 = .raw (.int .i64 how) → A' 8 = inAV C false → A' 10 = .raw (.int .i64 ((i + 1 : Nat) : Int)) → A' 9 = v → I1 A' τ' := by
        intro hh A' b0 b1 b2 b8 b10 b9
        rw [if_neg (by rw [hh]; simp)] at hstep
        exact hI1 (C.length - (i + 1)) _ _ (by omega) ⟨i + 1, v, b0, b1, b2, b8, b9, b10, by rw [hJ1, hstep]; exact hO, hE, by omega, rfl⟩
      clear hI1 hJ0 hJ1 hstep
      (try (first | (with_reducible refine dops_go ?_; simp [a0, a1, a2, a8, a9, a10, inAV, iAV, hlt, w2]) | (with_reducible refine OKv_go ?_; simp [a0, a1, a2, a8, a9, a10, inAV, iAV, hlt, w2]) | (with_reducible refine OKr_go ?_; simp [a0, a1, a2, a8, a9, a10, inAV, iAV, hlt, w2]))); repeat' (first | refine awp_seq ?_ | refine awp_block ?_ | (refine awp_skip ?_; try simp) | (refine awp_exit ?_; try simp) | (refine awp_ret ?_; try simp) | (refine retP_same (by simp) ?_; simp) | (refine retP_flat (by simp) (by simp) (by simp [a0, a1, a2, a8, a9, a10, inAV, iAV, hlt, w2]) ?_; simp) | (refine awp_reg ?_; simp [a0, a1, a2, a8, a9, a10, inAV, iAV, hlt, w2]) | (refine awp_drawT (fun _ => false) mixed (by decide +kernel) ?_; simp [a0, a1, a2, a8, a9, a10, inAV, iAV, hlt, w2]) | (refine guarded_split ?_ ?_ <;> (intro hg; simp only [hg]; simp [a0, a1, a2, a8, a9, a10, inAV, iAV, hlt, w2])) | (apply awp_cond_t; focus (simp [a0, a1, a2, a8, a9, a10, inAV, iAV, hlt, w2]; done)) | (apply awp_cond_f; focus (simp [a0, a1, a2, a8, a9, a10, inAV, iAV, hlt, w2]; done)) | (refine awp_cond ?_; simp [a0, a1, a2, a8, a9, a10, inAV, iAV, hlt, w2]; refine ⟨?_, ?_⟩ <;> intro hc))
      refine PCalls.use hh ?_
      (try (first | (with_reducible refine dops_go ?_; simp [a0, a1, a2, a8, a9, a10, inAV, iAV, hlt, w2]) | (with_reducible refine OKv_go ?_; simp [a0, a1, a2, a8, a9, a10, inAV, iAV, hlt, w2]) | (with_reducible refine OKr_go ?_; simp [a0, a1, a2, a8, a9, a10, inAV, iAV, hlt, w2]))); repeat' (first | refine awp_seq ?_ | refine awp_block ?_ | (refine awp_skip ?_; try simp) | (refine awp_exit ?_; try simp) | (refine awp_ret ?_; try simp) | (refine retP_same (by simp) ?_; simp) | (refine retP_flat (by simp) (by simp) (by simp [a0, a1, a2, a8, a9, a10, inAV, iAV, hlt, w2]) ?_; simp) | (refine awp_reg ?_; simp [a0, a1, a2, a8, a9, a10, inAV, iAV, hlt, w2]) | (refine awp_drawT (fun _ => false) mixed (by decide +kernel) ?_; simp [a0, a1, a2, a8, a9, a10, inAV, iAV, hlt, w2]) | (refine guarded_split ?_ ?_ <;> (intro hg; simp only [hg]; simp [a0, a1, a2, a8, a9, a10, inAV, iAV, hlt, w2])) | (apply awp_cond_t; focus (simp [a0, a1, a2, a8, a9, a10, inAV, iAV, hlt, w2]; done)) | (apply awp_cond_f; focus (simp [a0, a1, a2, a8, a9, a10, inAV, iAV, hlt, w2]; done)) | (refine awp_cond ?_; simp [a0, a1, a2, a8, a9, a10, inAV, iAV, hlt, w2]; refine ⟨?_, ?_⟩ <;> intro hc))
      refine PCalls.use hg ?_
      rcases hhow with rfl | rfl | rfl <;> cases p <;> cases q
      all_goals (try (first | (with_reducible refine dops_go ?_; simp [a0, a1, a2, a8, a9, a10, inAV, iAV, hlt, w2, w1]) | (with_reducible refine OKv_go ?_; simp [a0, a1, a2, a8, a9, a10, inAV, iAV, hlt, w2, w1]) | (with_reducible refine OKr_go ?_; simp [a0, a1, a2, a8, a9, a10, inAV, iAV, hlt, w2, w1]))); repeat' (first | refine awp_seq ?_ | refine awp_block ?_ | (refine awp_skip ?_; try simp) | (refine awp_exit ?_; try simp) | (refine awp_ret ?_; try simp) | (refine retP_same (by simp) ?_; simp) | (refine retP_flat (by simp) (by simp) (by simp [a0, a1, a2, a8, a9, a10, inAV, iAV, hlt, w2, w1]) ?_; simp) | (refine awp_reg ?_; simp [a0, a1, a2, a8, a9, a10, inAV, iAV, hlt, w2, w1]) | (refine awp_drawT (fun _ => false) mixed (by decide +kernel) ?_; simp [a0, a1, a2, a8, a9, a10, inAV, iAV, hlt, w2, w1]) | (refine guarded_split ?_ ?_ <;> (intro hg; simp only [hg]; simp [a0, a1, a2, a8, a9, a10, inAV, iAV, hlt, w2, w1])) | (apply awp_cond_t; focus (simp [a0, a1, a2, a8, a9, a10, inAV, iAV, hlt, w2, w1]; done)) | (apply awp_cond_f; focus (simp [a0, a1, a2, a8, a9, a10, inAV, iAV, hlt, w2, w1]; done)) | (refine awp_cond ?_; simp [a0, a1, a2, a8, a9, a10, inAV, iAV, hlt, w2, w1]; refine ⟨?_, ?_⟩ <;> intro hc))
      all_goals first
        | exact no rfl _ (by simp [a0]) (by simp [a1]) (by simp [a2]) (by simp [a8, inAV, iAV]) (by simp) (by simp [a9])
        | (refine awp_drawT (fun o => o.dst == some 77) mixed (by decide +kernel) ?_
           (try (first | (with_reducible refine dops_go ?_; simp [a0, a1, a2, a8, a9, a10, inAV, iAV, hlt, w2]) | (with_reducible refine OKv_go ?_; simp [a0, a1, a2, a8, a9, a10, inAV, iAV, hlt, w2]) | (with_reducible refine OKr_go ?_; simp [a0, a1, a2, a8, a9, a10, inAV, iAV, hlt, w2]))); repeat' (first | refine awp_seq ?_ | refine awp_block ?_ | (refine awp_skip ?_; try simp) | (refine awp_exit ?_; try simp) | (refine awp_ret ?_; try simp) | (refine retP_same (by simp) ?_; simp) | (refine retP_flat (by simp) (by simp) (by simp [a0, a1, a2, a8, a9, a10, inAV, iAV, hlt, w2]) ?_; simp) | (refine awp_reg ?_; simp [a0, a1, a2, a8, a9, a10, inAV, iAV, hlt, w2]) | (refine awp_drawT (fun _ => false) mixed (by decide +kernel) ?_; simp [a0, a1, a2, a8, a9, a10, inAV, iAV, hlt, w2]) | (refine guarded_split ?_ ?_ <;> (intro hg; simp only [hg]; simp [a0, a1, a2, a8, a9, a10, inAV, iAV, hlt, w2])) | (apply awp_cond_t; focus (simp [a0, a1, a2, a8, a9, a10, inAV, iAV, hlt, w2]; done)) | (apply awp_cond_f; focus (simp [a0, a1, a2, a8, a9, a10, inAV, iAV, hlt, w2]; done)) | (refine awp_cond ?_; simp [a0, a1, a2, a8, a9, a10, inAV, iAV, hlt, w2]; refine ⟨?_, ?_⟩ <;> intro hc))
           refine ⟨_, .inl he, hj.mono ?_⟩
           rintro v' τ2 ⟨hO2, hE2⟩
           (try (first | (with_reducible refine dops_go ?_; simp [a0, a1, a2, a8, a9, a10, w1]) | (with_reducible refine OKv_go ?_; simp [a0, a1, a2, a8, a9, a10, w1]) | (with_reducible refine OKr_go ?_; simp [a0, a1, a2, a8, a9, a10, w1]))); repeat' (first | refine awp_seq ?_ | refine awp_block ?_ | (refine awp_skip ?_; try simp) | (refine awp_exit ?_; try simp) | (refine awp_ret ?_; try simp) | (refine retP_same (by simp) ?_; simp) | (refine retP_flat (by simp) (by simp) (by simp [a0, a1, a2, a8, a9, a10, w1]) ?_; simp) | (refine awp_reg ?_; simp [a0, a1, a2, a8, a9, a10, w1]) | (refine awp_drawT (fun _ => false) mixed (by decide +kernel) ?_; simp [a0, a1, a2, a8, a9, a10, w1]) | (refine guarded_split ?_ ?_ <;> (intro hg; simp only [hg]; simp [a0, a1, a2, a8, a9, a10, w1])) | (apply awp_cond_t; focus (simp [a0, a1, a2, a8, a9, a10, w1]; done)) | (apply awp_cond_f; focus (simp [a0, a1, a2, a8, a9, a10, w1]; done)) | (refine awp_cond ?_; simp [a0, a1, a2, a8, a9, a10, w1]; refine ⟨?_, ?_⟩ <;> intro hc))
           exact yes rfl _ (by simp [a0]) (by simp [a1]) (by simp [a2]) (by simp [a8, inAV, iAV]) (by simp) v' τ2 hO2 hE2 (by simp))
    · have : i = C.length := by omega
      subst this
      (try (first | (with_reducible refine dops_go ?_; simp [a0, a1, a8, a9, a10, inAV]) | (with_reducible refine OKv_go ?_; simp [a0, a1, a8, a9, a10, inAV]) | (with_reducible refine OKr_go ?_; simp [a0, a1, a8, a9, a10, inAV]))); repeat' (first | refine awp_seq ?_ | refine awp_block ?_ | (refine awp_skip ?_; try simp) | (refine awp_exit ?_; try simp) | (refine awp_ret ?_; try simp) | (refine retP_same (by simp) ?_; simp) | (refine retP_flat (by simp) (by simp) (by simp [a0, a1, a8, a9, a10, inAV]) ?_; simp) | (refine awp_reg ?_; simp [a0, a1, a8, a9, a10, inAV]) | (refine awp_drawT (fun _ => false) mixed (by decide +kernel) ?_; simp [a0, a1, a8, a9, a10, inAV]) | (refine guarded_split ?_ ?_ <;> (intro hg; simp only [hg]; simp [a0, a1, a8, a9, a10, inAV])) | (apply awp_cond_t; focus (simp [a0, a1, a8, a9, a10, inAV]; done)) | (apply awp_cond_f; focus (simp [a0, a1, a8, a9, a10, inAV]; done)) | (refine awp_cond ?_; simp [a0, a1, a8, a9, a10, inAV]; refine ⟨?_, ?_⟩ <;> intro hc))
      exact hR1 _ _ ⟨by simp [a9]; exact hO, hE⟩
  · rintro A τ' ⟨hO, hE⟩
    generalize ha9 : A 9 = v at *
    (try (first | (with_reducible refine dops_go ?_; simp [ha9]) | (with_reducible refine OKv_go ?_; simp [ha9]) | (with_reducible refine OKr_go ?_; simp [ha9]))); repeat' (first | refine awp_seq ?_ | refine awp_block ?_ | (refine awp_skip ?_; try simp) | (refine awp_exit ?_; try simp) | (refine awp_ret ?_; try simp) | (refine awp_reg ?_; simp [ha9]) | (refine awp_drawT (fun _ => false) mixed (by decide +kernel) ?_; simp [ha9]) | (refine guarded_split ?_ ?_ <;> (intro hg; simp only [hg]; simp [ha9])) | (apply awp_cond_t; focus (simp [ha9]; done)) | (apply awp_cond_f; focus (simp [ha9]; done)) | (refine awp_cond ?_; simp [ha9]; refine ⟨?_, ?_⟩ <;> intro hc))
    exact retP_own (.inr rfl) (by simp) hO hE
end Go.Proofs.Ytajikhpjjbohaaa.Av

/- Zones in plain Lean: what joining the wanted cuts comes to; counting. -/
namespace Go.Proofs.Ytajikhpjjbohaaa.Av
set_option linter.unusedSimpArgs false
set_option linter.unusedVariables false

theorem joinZ_nil (f t : Int) : joinZ [] f t = [⟨f, t⟩] := rfl
theorem joinZ_one (r : Rg) (f t : Int) : joinZ [r] f t = if r.hi + 1 = f then [⟨r.lo, t⟩] else [r, ⟨f, t⟩] := rfl
theorem joinZ_cons (r s : Rg) (z : List Rg) (f t : Int) : joinZ (r :: s :: z) f t = r :: joinZ (s :: z) f t := by
  unfold joinZ
  have e1 : (r :: s :: z)[(r :: s :: z).length - 1]? = (s :: z)[(s :: z).length - 1]? := by simp
  rw [e1]
  have e2 : ∀ q, (r :: s :: z).set ((r :: s :: z).length - 1) q = r :: (s :: z).set ((s :: z).length - 1) q := fun q => by simp
  split
  · split
    · rw [e2]
    · rfl
  · rfl
theorem joinZ_spec : ∀ (z : List Rg) (b f t : Int), RZ b z → (∀ r ∈ z, r.hi < f) → b < f → f ≤ t → RZ b (joinZ z f t) ∧ (∀ a, MZ (joinZ z f t) a ↔ MZ z a ∨ (f ≤ a ∧ a ≤ t)) ∧ ∀ r ∈ joinZ z f t, r.hi ≤ t
  | [], b, f, t, _, _, h1, h2 => by
    rw [joinZ_nil]
    refine ⟨⟨h1, h2, trivial⟩, fun a => ?_, fun r hr => by simp at hr; subst hr; exact Int.le_refl _⟩
    rw [mz_cons]
    constructor
    · rintro (h | h); exact .inr h; exact .inl h
    · rintro (h | h); exact .inr h; exact .inl h
  | [r], b, f, t, h, h0, h1, h2 => by
    obtain ⟨k1, k2, _⟩ := h
    have hr := h0 r (by simp)
    rw [joinZ_one]
    split
    · rename_i e
      refine ⟨⟨k1, by simp only []; omega, trivial⟩, fun a => ?_, fun s hs => by simp at hs; subst hs; exact Int.le_refl _⟩
      rw [mz_cons, mz_cons]
      simp only []
      constructor
      · rintro (h | h)
        · by_cases a ≤ r.hi
          · exact .inl (.inl ⟨h.1, by assumption⟩)
          · exact .inr ⟨by omega, h.2⟩
        · exact absurd h mz_nil
      · rintro ((h | h) | h)
        · exact .inl ⟨h.1, by omega⟩
        · exact absurd h mz_nil
        · exact .inl ⟨by omega, h.2⟩
    · rename_i e
      refine ⟨⟨k1, k2, by simp only []; omega, h2, trivial⟩, fun a => ?_, fun s hs => ?_⟩
      · rw [mz_cons, mz_cons, mz_cons]
        constructor
        · rintro (h | h | h)
          · exact .inl (.inl h)
          · exact .inr h
          · exact absurd h mz_nil
        · rintro ((h | h) | h)
          · exact .inl h
          · exact absurd h mz_nil
          · exact .inr (.inl h)
      · simp at hs
        rcases hs with rfl | rfl
        · omega
        · exact Int.le_refl _
  | r :: s :: z, b, f, t, h, h0, h1, h2 => by
    obtain ⟨k1, k2, k3⟩ := h
    have hr := h0 s (by simp)
    have k3' := k3
    obtain ⟨l1, l2, _⟩ := k3
    obtain ⟨q1, q2, q3⟩ := joinZ_spec (s :: z) (r.hi + 1) f t k3' (fun x hx => h0 x (by simp [hx])) (by omega) h2
    rw [joinZ_cons]
    refine ⟨⟨k1, k2, q1⟩, fun a => ?_, fun x hx => ?_⟩
    · rw [mz_cons, q2, mz_cons (r := r), or_assoc]
    · rcases List.mem_cons.1 hx with rfl | hx
      · have := h0 x (by simp); omega
      · exact q3 x hx

theorem cf_spec (all : List Int) : ∀ (n : Nat) (last : Int), above all last ≤ n →
    (∀ c ∈ cutsFrom all n last, c ∈ all ∧ last < c ∧ c < 4294967296) ∧
    (∀ a ∈ all, last < a → a < 4294967296 → ∃ d, (cutsFrom all n last)[0]? = some d ∧ d ≤ a) ∧
    (∀ (i : Nat) (c : Int), (cutsFrom all n last)[i]? = some c → ∀ a ∈ all, c < a → a < 4294967296 → ∃ d, (cutsFrom all n last)[i + 1]? = some d ∧ d ≤ a) ∧
    (∀ (i : Nat) (c d : Int), (cutsFrom all n last)[i]? = some c → (cutsFrom all n last)[i + 1]? = some d → c < d)
  | 0, last, h => by
    refine ⟨(fun c hc => by simp [cutsFrom] at hc), fun a ha h1 h2 => ?_, (fun i c hc => by simp [cutsFrom] at hc), (fun i c d hc => by simp [cutsFrom] at hc)⟩
    have : 0 < above all last := by
      unfold above
      exact List.length_pos_of_mem (List.mem_filter.2 ⟨ha, by simp [h1, h2]⟩)
    omega
  | n + 1, last, h => by
    obtain ⟨n1, n2, n3⟩ := nextCut_is all last
    unfold cutsFrom
    by_cases hx : nextCut all last ≤ 4294967295
    · rw [if_pos hx]
      have hlt := above_lt hx
      have n1 := n1.resolve_left (by omega)
      obtain ⟨h1, h2, h3, h4⟩ := cf_spec all n (nextCut all last) (by omega)
      generalize nextCut all last = x at *
      refine ⟨fun c hc => ?_, fun a ha q1 q2 => ⟨x, rfl, n3 a ha q1⟩, fun i c hc a ha q1 q2 => ?_, fun i c d hc hd => ?_⟩
      · rcases List.mem_cons.1 hc with rfl | hc
        · exact n1
        · have := h1 c hc; exact ⟨this.1, by omega, this.2.2⟩
      · cases i with
        | zero => simp at hc; subst hc; simpa using h2 a ha q1 q2
        | succ i => simpa using h3 i c (by simpa using hc) a ha q1 q2
      · cases i with
        | zero =>
          simp at hc; subst hc
          have := h1 d (List.mem_of_getElem? (by simpa using hd))
          exact this.2.1
        | succ i => exact h4 i c d (by simpa using hc) (by simpa using hd)
    · rw [if_neg hx]
      refine ⟨(fun c hc => by cases hc), fun a ha q1 q2 => ?_, (fun i c hc => by simp at hc), (fun i c d hc => by simp at hc)⟩
      have := n3 a ha q1; omega
theorem cutsAll_mem {l : List Rg} {a : Int} : a ∈ cutsAll l ↔ a = 0 ∨ ∃ r ∈ l, a = r.lo ∨ a = r.hi + 1 := by
  unfold cutsAll; simp
structure Cuts (l : List Rg) (C : List Int) : Prop where
  rng : ∀ c ∈ C, 0 ≤ c ∧ c < 4294967296
  zero : C[0]? = some 0
  up : ∀ (i : Nat) (c d : Int), C[i]? = some c → C[i + 1]? = some d → c < d
  full : ∀ (i : Nat) (c : Int), C[i]? = some c → ∀ a ∈ cutsAll l, c < a → a < 4294967296 → ∃ d, C[i + 1]? = some d ∧ d ≤ a
theorem cuts_of (l : List Rg) (hz : InZ l) : Cuts l (cutsOf l) := by
  obtain ⟨h1, h2, h3, h4⟩ := cf_spec (cutsAll l) (above (cutsAll l) (-1)) (-1) (Nat.le_refl _)
  have hr : ∀ c ∈ cutsOf l, 0 ≤ c ∧ c < 4294967296 := fun c hc => by have := h1 c hc; omega
  refine ⟨hr, ?_, h4, h3⟩
  obtain ⟨d, hd, hle⟩ := h2 0 (cutsAll_mem.2 (.inl rfl)) (by omega) (by omega)
  have := hr d (List.mem_of_getElem? hd)
  rw [show (cutsOf l)[0]? = some d from hd, show d = 0 by omega]
theorem Cuts.pos {l : List Rg} {C : List Int} (h : Cuts l C) : ∀ i c, C[i + 1]? = some c → 0 < c := fun i c hc => by
  have hi := (List.getElem?_eq_some_iff.1 hc).1
  have hx : C[i]? = some C[i] := List.getElem?_eq_getElem (by omega)
  have := h.up i _ _ hx hc
  have := h.rng C[i] (List.getElem_mem _)
  omega
def nextOf (C : List Int) (i : Nat) : Int := match C[i]? with | some c => c | none => 4294967296
theorem endOf_next (C : List Int) (i : Nat) : endOf C i = nextOf C (i + 1) - 1 := by
  unfold endOf nextOf
  cases C[i + 1]? <;> simp
theorem Cuts.hasB {l m : List Rg} {C : List Int} (h : Cuts l C) (hm : ∀ r ∈ m, r ∈ l) (hz : InZ m) {i : Nat} {c a : Int} (hc : C[i]? = some c) (h1 : c ≤ a) (h2 : a ≤ endOf C i) : hasB m a = hasB m c := by
  have no : ∀ x ∈ cutsAll l, ¬ (c < x ∧ x ≤ a) := fun x hx k => by
    have ha : a < 4294967296 := by
      rw [endOf_next] at h2
      have : nextOf C (i + 1) ≤ 4294967296 := by
        unfold nextOf; split
        · rename_i d hd; have := h.rng d (List.mem_of_getElem? hd); omega
        · omega
      omega
    obtain ⟨d, hd, hle⟩ := h.full i c hc x hx k.1 (by omega)
    rw [endOf_next] at h2
    unfold nextOf at h2
    rw [hd] at h2
    simp only [] at h2
    omega
  unfold Av.hasB
  rw [Bool.eq_iff_iff, List.any_eq_true, List.any_eq_true]
  have hc0 := h.rng c (List.mem_of_getElem? hc)
  constructor
  · rintro ⟨r, hr, k⟩
    refine ⟨r, hr, ?_⟩
    simp only [Bool.and_eq_true, decide_eq_true_eq] at k ⊢
    have n1 := no r.lo (cutsAll_mem.2 (.inr ⟨r, hm r hr, .inl rfl⟩))
    omega
  · rintro ⟨r, hr, k⟩
    refine ⟨r, hr, ?_⟩
    simp only [Bool.and_eq_true, decide_eq_true_eq] at k ⊢
    have n1 := no (r.hi + 1) (cutsAll_mem.2 (.inr ⟨r, hm r hr, .inr rfl⟩))
    omega
theorem joins_spec {l : List Rg} {C : List Int} (h : Cuts l C) (p : Int → Bool) (hp : ∀ (i : Nat) (c a : Int), C[i]? = some c → c ≤ a → a ≤ endOf C i → p a = p c) : ∀ i, i ≤ C.length →
    RZ (-1) (joins p C i) ∧ (∀ r ∈ joins p C i, r.hi < nextOf C i) ∧ ∀ a, MZ (joins p C i) a ↔ 0 ≤ a ∧ a < nextOf C i ∧ p a = true
  | 0, _ => by
    have : nextOf C 0 = 0 := by unfold nextOf; rw [h.zero]
    rw [this]
    exact ⟨trivial, fun r hr => by simp [joins] at hr, fun a => ⟨fun k => absurd k mz_nil, fun k => by omega⟩⟩
  | i + 1, hi => by
    obtain ⟨h1, h2, h3⟩ := joins_spec h p hp i (by omega)
    have hx : C[i]? = some C[i] := List.getElem?_eq_getElem (by omega)
    have hn : nextOf C i = C[i] := by unfold nextOf; rw [hx]
    have hCi := h.rng C[i] (List.getElem_mem _)
    have he := endOf_next C i
    have hup : C[i] < nextOf C (i + 1) := by
      unfold nextOf
      split
      · rename_i d hd; exact h.up i _ _ hx hd
      · omega
    rw [hn] at h2 h3
    rw [joins, hx]
    simp only []
    by_cases hpc : p C[i] = true
    · rw [if_pos hpc]
      obtain ⟨q1, q2, q3⟩ := joinZ_spec _ (-1) C[i] (endOf C i) h1 h2 (by omega) (by omega)
      refine ⟨q1, fun r hr => by have := q3 r hr; omega, fun a => ?_⟩
      rw [q2, h3]
      constructor
      · rintro (k | k)
        · exact ⟨k.1, by omega, k.2.2⟩
        · exact ⟨by omega, by omega, by rw [hp i _ a hx k.1 k.2]; exact hpc⟩
      · rintro ⟨k1, k2, k3⟩
        by_cases hlt : a < C[i]
        · exact .inl ⟨k1, hlt, k3⟩
        · exact .inr ⟨by omega, by omega⟩
    · rw [if_neg hpc]
      refine ⟨h1, fun r hr => by have := h2 r hr; omega, fun a => ?_⟩
      rw [h3]
      constructor
      · exact fun k => ⟨k.1, by omega, k.2.2⟩
      · rintro ⟨k1, k2, k3⟩
        refine ⟨k1, ?_, k3⟩
        apply Int.lt_of_not_ge
        intro hge
        exact hpc ((hp i _ a hx hge (by omega)) ▸ k3)
theorem joins_all {l : List Rg} {C : List Int} (h : Cuts l C) (p : Int → Bool) (hp : ∀ (i : Nat) (c a : Int), C[i]? = some c → c ≤ a → a ≤ endOf C i → p a = p c) :
    RZ (-1) (joins p C C.length) ∧ ∀ a, MZ (joins p C C.length) a ↔ 0 ≤ a ∧ a < 4294967296 ∧ p a = true := by
  obtain ⟨h1, _, h3⟩ := joins_spec h p hp C.length (Nat.le_refl _)
  have : nextOf C C.length = 4294967296 := by unfold nextOf; rw [List.getElem?_eq_none (by omega)]
  rw [this] at h3
  exact ⟨h1, h3⟩
theorem mz_rng {z : List Rg} (hz : InZ z) {a : Int} (h : MZ z a) : 0 ≤ a ∧ a < 4294967296 := by
  obtain ⟨r, hr, k⟩ := h
  obtain ⟨a, b, c, d⟩ := hz r hr
  omega

/-- The document's zone of ranges. -/
def refOfZ (l : List Rg) : List Rg := joins (hasB l) (cutsOf l) (cutsOf l).length
theorem refOfZ_spec {l : List Rg} (hz : InZ l) : RZ (-1) (refOfZ l) ∧ (∀ a, MZ (refOfZ l) a ↔ MZ l a) ∧ InZ (refOfZ l) := by
  have hC := cuts_of l hz
  obtain ⟨h1, h2⟩ := joins_all hC (hasB l) (fun i c a hc k1 k2 => hC.hasB (fun r h => h) hz hc k1 k2)
  refine ⟨h1, fun a => ?_, joins_in hC.rng hC.pos _⟩
  rw [refOfZ, h2, hasB_iff]
  exact ⟨fun k => k.2.2, fun k => ⟨(mz_rng hz k).1, (mz_rng hz k).2, k⟩⟩
def refBothZ (how : Int) (x y : List Rg) : List Rg := joins (fun a => howP how (hasB x a) (hasB y a)) (cutsOf (x ++ y)) (cutsOf (x ++ y)).length
theorem refBothZ_spec {x y : List Rg} (how : Int) (hx : InZ x) (hy : InZ y) : RZ (-1) (refBothZ how x y) ∧ (∀ a, MZ (refBothZ how x y) a ↔ 0 ≤ a ∧ a < 4294967296 ∧ howP how (hasB x a) (hasB y a) = true) ∧ InZ (refBothZ how x y) := by
  have hz : InZ (x ++ y) := fun r hr => (List.mem_append.1 hr).elim (hx r) (hy r)
  have hC := cuts_of (x ++ y) hz
  obtain ⟨h1, h2⟩ := joins_all hC (fun a => howP how (hasB x a) (hasB y a)) (fun i c a hc k1 k2 => by
    rw [hC.hasB (m := x) (fun r h => by simp [h]) hx hc k1 k2, hC.hasB (m := y) (fun r h => by simp [h]) hy hc k1 k2])
  exact ⟨h1, h2, joins_in hC.rng hC.pos _⟩
/-- A zone is known by what it has. -/
theorem zone_eq {x y : List Rg} (h : RZ (-1) x) (k : RZ (-1) y) (e : ∀ a, MZ x a ↔ MZ y a) : x = y := h.ext k e

theorem of_is {z : List Rg} (hz : InZ z) (ho : ∀ r ∈ z, r.lo ≤ r.hi) : ∀ z', z'.Perm z → SortedBy (fun r s => cmpI r.lo s.lo) z' → mergeZ z' = refOfZ z := by
  intro z' hp hs
  obtain ⟨h1, h2, h3⟩ := refOfZ_spec hz
  have hs' : z'.Pairwise fun x y => x.lo ≤ y.lo := hs.imp fun h => by rw [cmpI_neg] at h; omega
  obtain ⟨k1, k2, _⟩ := mergeZ_spec (fun r hr => hz r (hp.mem_iff.1 hr)) (fun r hr => ho r (hp.mem_iff.1 hr)) hs'
  refine zone_eq k1 h1 fun a => ?_
  rw [k2, h2]
  unfold MZ
  constructor
  · rintro ⟨r, hr, k⟩; exact ⟨r, hp.mem_iff.1 hr, k⟩
  · rintro ⟨r, hr, k⟩; exact ⟨r, hp.mem_iff.2 hr, k⟩
theorem and_is {x y : List Rg} (hx : InZ x) (hy : InZ y) (rx : RZ (-1) x) (ry : RZ (-1) y) : andZ x y = refBothZ 1 x y := by
  obtain ⟨h1, h2, h3⟩ := refBothZ_spec 1 hx hy
  obtain ⟨k1, k2, k3, _⟩ := andZ_spec _ x y (-1) (-1) (Nat.le_refl _) rx ry
  refine zone_eq (k1.weaken (by omega)) h1 fun a => ?_
  rw [k2, h2, ← hasB_iff, ← hasB_iff]
  cases hp : hasB x a <;> cases hq : hasB y a <;> simp [howP]
  have := mz_rng hx (hasB_iff.1 hp); omega
theorem or_is {x y : List Rg} (hx : InZ x) (hy : InZ y) : refOfZ (x ++ y) = refBothZ 2 x y := by
  obtain ⟨h1, h2, h3⟩ := refBothZ_spec 2 hx hy
  obtain ⟨k1, k2, k3⟩ := refOfZ_spec (l := x ++ y) fun r hr => (List.mem_append.1 hr).elim (hx r) (hy r)
  refine zone_eq k1 h1 fun a => ?_
  rw [k2, h2, mz_append, ← hasB_iff, ← hasB_iff]
  cases hp : hasB x a <;> cases hq : hasB y a <;> simp [howP]
  · have := mz_rng hy (hasB_iff.1 hq); omega
  · have := mz_rng hx (hasB_iff.1 hp); omega
  · have := mz_rng hx (hasB_iff.1 hp); omega
theorem minus_is {x y : List Rg} (hx : InZ x) (hy : InZ y) (rx : RZ (-1) x) (ry : RZ (-1) y) : andZ x (notZ 0 y) = refBothZ 3 x y := by
  obtain ⟨h1, h2, h3⟩ := refBothZ_spec 3 hx hy
  obtain ⟨n1, n2, n3, _⟩ := notZ_spec y 0 (by simpa using ry) hy (Int.le_refl _)
  obtain ⟨k1, k2, k3, _⟩ := andZ_spec _ x (notZ 0 y) (-1) (-1) (Nat.le_refl _) rx (by simpa using n1)
  refine zone_eq (k1.weaken (by omega)) h1 fun a => ?_
  rw [k2, n2, h2, ← hasB_iff, ← hasB_iff]
  cases hp : hasB x a <;> cases hq : hasB y a <;> simp [howP]
end Go.Proofs.Ytajikhpjjbohaaa.Av
