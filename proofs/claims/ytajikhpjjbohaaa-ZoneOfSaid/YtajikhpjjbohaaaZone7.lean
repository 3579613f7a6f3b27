/- The five given statements on zones (ZoneOf, ZoneTells, ZoneBoth, ZoneHas, ZoneLaws) are proved: for every input that the row speaks of, the law returns true and its arguments read as before. No condition is added. Part 7 of 11: AvZ7, AvZ8, AvZ9, AvZA, AvZB, AvZC, AvZD, AvZE, AvZF, AvZG, AvZH, AvZI. -/
import Derived.Test.YtajikhpjjbohaaaZone6
import Derived.Sort.AssemblyPlain

/- Sorting, part 1: insertion sort of an owned list of ranges. -/
namespace Go.Proofs.Ytajikhpjjbohaaa.Av
open Go
set_option linter.unusedSimpArgs false
set_option linter.unusedVariables false
set_option maxRecDepth 100000
set_option pp.maxSteps 300

instance : Inhabited Rg := ⟨⟨0, 0⟩⟩
def bufOf (d : Array Rg) : Ob := .buf (d.toList.map rgAV)
theorem rg_cells (r : Rg) : (rgAV r).cells = [.raw (.int .u32 r.lo), .raw (.int .u32 r.hi)] := rfl
theorem rg_fold (r : Rg) : AV.agg [.raw (.int .u32 r.lo), .raw (.int .u32 r.hi)] = rgAV r := rfl
theorem rg_setPart (r s : Rg) : setPart (rgAV r) 0 [.raw (.int .u32 s.lo), .raw (.int .u32 s.hi)] = rgAV s := rfl
theorem get_bang {d : Array Rg} {i : Nat} (h : i < d.size) : d[i]? = some d[i]! := by
  rw [Array.getElem?_eq_getElem h, getElem!_pos d i h]
theorem set_map (d : Array Rg) (i : Nat) (x : Rg) : (d.toList.map rgAV).set i (rgAV x) = (d.setIfInBounds i x).toList.map rgAV := by
  simp [List.map_set]
theorem swp_buf (d : Array Rg) (i j : Nat) : ((d.toList.map rgAV).set i (rgAV d[j]!)).set j (rgAV d[i]!) = (Sort.swp d i j).toList.map rgAV := by
  rw [set_map, set_map]; rfl
theorem swp_size' (d : Array Rg) (i j : Nat) : (Sort.swp d i j).size = d.size := by simp [Sort.swp]
@[simp] theorem set_set {σ : St} {i : Id} {o o' : Ob} : (σ.set i o).set i o' = σ.set i o' := by
  apply St.ext'
  · funext j
    by_cases h : j = i
    · subst h; cases hm : σ.m j <;> simp [hm]
    · rw [set_other h, set_other h, set_other h]
  · rfl

theorem set_same {σ : St} {i : Id} {o : Ob} (h : σ.m i = some o) : σ.set i o = σ := by
  apply St.ext'
  · funext j
    by_cases e : j = i
    · subst e; simp [h]
    · rw [set_other e]
  · rfl

/-- What an order is told by. -/
structure Cmp (g : FuncId) (c : Rg → Rg → Int) : Prop where
  calls : ∀ x y, PCalls Try.prog g [rgAV x, rgAV y] (.raw (.int .i64 (c x y)))
def ltOf (c : Rg → Rg → Int) (x y : Rg) : Bool := decide (c x y < 0)

theorem insertion_calls {g : FuncId} {c : Rg → Rg → Int} (hc : Cmp g c) {j : Id} (hjs : j.sz = 2) {d : Array Rg} {a b : Nat} (hab : a ≤ b) (hb : b ≤ d.size) (hsz : d.size < 2 ^ 40) {σ : St} (hj : σ.m j = some (bufOf d)) :
    ACalls Try.prog 52 [.rs j 0 d.size, .raw (.int .i64 a), .raw (.int .i64 b), .fn (.func g) [] []] σ fun r τ => r = .tup [] ∧ τ = σ.set j (bufOf (Sort.insertionSort (ltOf c) d a b)) := by
  refine abody Try.func52 rfl (N := 53) rfl rfl (by simp) ?_
  have w0 : IntKind.i64.wrap ((a : Int) + 1) = ((a + 1 : Nat) : Int) := by rw [wrap64 (by omega) (by omega)]; simp
  (try (first | (with_reducible refine dops_go ?_; simp [w0]) | (with_reducible refine OKv_go ?_; simp [w0]) | (with_reducible refine OKr_go ?_; simp [w0]))); repeat' (first | refine awp_seq ?_ | refine awp_block ?_ | (refine awp_skip ?_; try simp) | (refine awp_exit ?_; try simp) | (refine awp_ret ?_; try simp) | (refine retP_same (by simp) ?_; simp) | (refine retP_flat (by simp) (by simp) (by simp [w0]) ?_; simp) | (refine awp_reg ?_; simp [w0]) | (refine awp_drawT (fun _ => false) mixed (by decide +kernel) ?_; simp [w0]) | (refine guarded_split ?_ ?_ <;> (intro hg; simp only [hg]; simp [w0])) | (apply awp_cond_t; focus (simp [w0]; done)) | (apply awp_cond_f; focus (simp [w0]; done)) | (refine awp_cond ?_; simp [w0]; refine ⟨?_, ?_⟩ <;> intro hc))
  refine awp_loop (fun n A τ => A 0 = .rs j 0 d.size ∧ A 1 = .raw (.int .i64 a) ∧ A 2 = .raw (.int .i64 b) ∧ A 3 = .fn (.func g) [] [] ∧ ∃ (i : Nat) (d' : Array Rg), A 8 = .raw (.int .i64 i) ∧ a + 1 ≤ i ∧ n = b + 1 - i ∧ d'.size = d.size ∧
    Sort.insOuter (ltOf c) a b i d' = Sort.insertionSort (ltOf c) d a b ∧ τ.m j = some (bufOf d') ∧ τ.set j (bufOf d) = σ) (b + 1 - (a + 1)) ?_ ?_
  · simp
    exact ⟨a + 1, by simp, by omega, by omega, d, rfl, rfl, hj, set_same hj⟩
  rintro n A τ ⟨a0, a1, a2, a3, i, d', a8, hai, rfl, hd', hins, hτ, hτσ⟩
  by_cases hib : i < b
  · have wi : IntKind.i64.wrap ((i : Int) + 1) = ((i + 1 : Nat) : Int) := by rw [wrap64 (by omega) (by omega)]; simp
    (try (first | (with_reducible refine dops_go ?_; simp [a0, a1, a2, a3, a8, hib]) | (with_reducible refine OKv_go ?_; simp [a0, a1, a2, a3, a8, hib]) | (with_reducible refine OKr_go ?_; simp [a0, a1, a2, a3, a8, hib]))); repeat' (first | refine awp_seq ?_ | refine awp_block ?_ | (refine awp_skip ?_; try simp) | (refine awp_exit ?_; try simp) | (refine awp_ret ?_; try simp) | (refine retP_same (by simp) ?_; simp) | (refine retP_flat (by simp) (by simp) (by simp [a0, a1, a2, a3, a8, hib]) ?_; simp) | (refine awp_reg ?_; simp [a0, a1, a2, a3, a8, hib]) | (refine awp_drawT (fun _ => false) mixed (by decide +kernel) ?_; simp [a0, a1, a2, a3, a8, hib]) | (refine guarded_split ?_ ?_ <;> (intro hg; simp only [hg]; simp [a0, a1, a2, a3, a8, hib])) | (apply awp_cond_t; focus (simp [a0, a1, a2, a3, a8, hib]; done)) | (apply awp_cond_f; focus (simp [a0, a1, a2, a3, a8, hib]; done)) | (refine awp_cond ?_; simp [a0, a1, a2, a3, a8, hib]; refine ⟨?_, ?_⟩ <;> intro hc))
    refine awp_loop (fun n B τ' => B 0 = .rs j 0 d.size ∧ B 1 = .raw (.int .i64 a) ∧ B 2 = .raw (.int .i64 b) ∧ B 3 = .fn (.func g) [] [] ∧ B 8 = .raw (.int .i64 i) ∧ ∃ (k : Nat) (e : Array Rg), B 9 = .raw (.int .i64 k) ∧ k ≤ i ∧ n = k ∧ e.size = d.size ∧
      Sort.insInner (ltOf c) a k e = Sort.insInner (ltOf c) a i d' ∧ τ'.m j = some (bufOf e) ∧ τ'.set j (bufOf d) = σ) i ?_ ?_
    · simp [a0, a1, a2, a3, a8]
      exact ⟨i, rfl, Nat.le_refl _, rfl, d', hd', rfl, hτ, hτσ⟩
    rintro n B τ' ⟨b0, b1, b2, b3, b8, k, e, b9, hki, hnk, he, hinn, hτ', hτσ'⟩
    have hb' : τ'.m j = some (.buf (e.toList.map rgAV)) := hτ'
    by_cases hka : a < k
    · have hx : e[k]? = some e[k]! := get_bang (by omega)
      have hy : e[k - 1]? = some e[k - 1]! := get_bang (by omega)
      have wk : IntKind.i64.wrap ((k : Int) - 1) = ((k - 1 : Nat) : Int) := by rw [wrap64 (by omega) (by omega)]; omega
      have hks : (k : Int) < d.size := by omega
      have hks2 : ((k - 1 : Nat) : Int) < d.size := by omega
      (try (first | (with_reducible refine dops_go ?_; simp [b0, b1, b2, b3, b8, b9, hka, hb', hx, hy, wk, hjs, hks, hks2, rg_cells, rg_fold]) | (with_reducible refine OKv_go ?_; simp [b0, b1, b2, b3, b8, b9, hka, hb', hx, hy, wk, hjs, hks, hks2, rg_cells, rg_fold]) | (with_reducible refine OKr_go ?_; simp [b0, b1, b2, b3, b8, b9, hka, hb', hx, hy, wk, hjs, hks, hks2, rg_cells, rg_fold]))); repeat' (first | refine awp_seq ?_ | refine awp_block ?_ | (refine awp_skip ?_; try simp) | (refine awp_exit ?_; try simp) | (refine awp_ret ?_; try simp) | (refine retP_same (by simp) ?_; simp) | (refine retP_flat (by simp) (by simp) (by simp [b0, b1, b2, b3, b8, b9, hka, hb', hx, hy, wk, hjs, hks, hks2, rg_cells, rg_fold]) ?_; simp) | (refine awp_reg ?_; simp [b0, b1, b2, b3, b8, b9, hka, hb', hx, hy, wk, hjs, hks, hks2, rg_cells, rg_fold]) | (refine awp_drawT (fun _ => false) mixed (by decide +kernel) ?_; simp [b0, b1, b2, b3, b8, b9, hka, hb', hx, hy, wk, hjs, hks, hks2, rg_cells, rg_fold]) | (refine guarded_split ?_ ?_ <;> (intro hg; simp only [hg]; simp [b0, b1, b2, b3, b8, b9, hka, hb', hx, hy, wk, hjs, hks, hks2, rg_cells, rg_fold])) | (apply awp_cond_t; focus (simp [b0, b1, b2, b3, b8, b9, hka, hb', hx, hy, wk, hjs, hks, hks2, rg_cells, rg_fold]; done)) | (apply awp_cond_f; focus (simp [b0, b1, b2, b3, b8, b9, hka, hb', hx, hy, wk, hjs, hks, hks2, rg_cells, rg_fold]; done)) | (refine awp_cond ?_; simp [b0, b1, b2, b3, b8, b9, hka, hb', hx, hy, wk, hjs, hks, hks2, rg_cells, rg_fold]; refine ⟨?_, ?_⟩ <;> intro hc))
      refine PCalls.use (hc.calls _ _) ?_
      have hne : ¬ k = k - 1 := by omega
      have hins1 : Sort.insInner (ltOf c) a k e = if ltOf c e[k]! e[k - 1]! = true then Sort.insInner (ltOf c) a (k - 1) (Sort.swp e k (k - 1)) else e := by
        obtain ⟨m, rfl⟩ : ∃ m, k = m + 1 := ⟨k - 1, by omega⟩
        rw [Sort.insInner]; simp [hka]
      (try (first | (with_reducible refine dops_go ?_; simp [b0, b1, b2, b3, b8, b9, hka, hb', hx, hy, wk, hjs, hks, hks2, rg_cells, rg_fold, he, rg_setPart, hne, swp_buf]) | (with_reducible refine OKv_go ?_; simp [b0, b1, b2, b3, b8, b9, hka, hb', hx, hy, wk, hjs, hks, hks2, rg_cells, rg_fold, he, rg_setPart, hne, swp_buf]) | (with_reducible refine OKr_go ?_; simp [b0, b1, b2, b3, b8, b9, hka, hb', hx, hy, wk, hjs, hks, hks2, rg_cells, rg_fold, he, rg_setPart, hne, swp_buf]))); repeat' (first | refine awp_seq ?_ | refine awp_block ?_ | (refine awp_skip ?_; try simp) | (refine awp_exit ?_; try simp) | (refine awp_ret ?_; try simp) | (refine retP_same (by simp) ?_; simp) | (refine retP_flat (by simp) (by simp) (by simp [b0, b1, b2, b3, b8, b9, hka, hb', hx, hy, wk, hjs, hks, hks2, rg_cells, rg_fold, he, rg_setPart, hne, swp_buf]) ?_; simp) | (refine awp_reg ?_; simp [b0, b1, b2, b3, b8, b9, hka, hb', hx, hy, wk, hjs, hks, hks2, rg_cells, rg_fold, he, rg_setPart, hne, swp_buf]) | (refine awp_drawT (fun _ => false) mixed (by decide +kernel) ?_; simp [b0, b1, b2, b3, b8, b9, hka, hb', hx, hy, wk, hjs, hks, hks2, rg_cells, rg_fold, he, rg_setPart, hne, swp_buf]) | (refine guarded_split ?_ ?_ <;> (intro hg; simp only [hg]; simp [b0, b1, b2, b3, b8, b9, hka, hb', hx, hy, wk, hjs, hks, hks2, rg_cells, rg_fold, he, rg_setPart, hne, swp_buf])) | (apply awp_cond_t; focus (simp [b0, b1, b2, b3, b8, b9, hka, hb', hx, hy, wk, hjs, hks, hks2, rg_cells, rg_fold, he, rg_setPart, hne, swp_buf]; done)) | (apply awp_cond_f; focus (simp [b0, b1, b2, b3, b8, b9, hka, hb', hx, hy, wk, hjs, hks, hks2, rg_cells, rg_fold, he, rg_setPart, hne, swp_buf]; done)) | (refine awp_cond ?_; simp [b0, b1, b2, b3, b8, b9, hka, hb', hx, hy, wk, hjs, hks, hks2, rg_cells, rg_fold, he, rg_setPart, hne, swp_buf]; refine ⟨?_, ?_⟩ <;> intro hc))
      · refine ⟨k - 1, by omega, k - 1, rfl, by omega, rfl, Sort.swp e k (k - 1), by rw [swp_size', he], ?_, by simp [bufOf], hτσ'⟩
        rw [← hinn, hins1, if_pos (by simpa [ltOf] using hc)]
      · refine ⟨b - i, by omega, i + 1, wi, by omega, by omega, e, he, ?_, rfl, hτσ'⟩
        rw [← hins]
        conv => rhs; rw [Sort.insOuter, if_pos hib, ← hinn, hins1, if_neg (by simp [ltOf]; omega)]
    · have hne : Sort.insInner (ltOf c) a k e = e := by
        cases k with
        | zero => rfl
        | succ m => rw [Sort.insInner]; simp [hka]
      (try (first | (with_reducible refine dops_go ?_; simp [b0, b1, b2, b3, b8, b9, hka]) | (with_reducible refine OKv_go ?_; simp [b0, b1, b2, b3, b8, b9, hka]) | (with_reducible refine OKr_go ?_; simp [b0, b1, b2, b3, b8, b9, hka]))); repeat' (first | refine awp_seq ?_ | refine awp_block ?_ | (refine awp_skip ?_; try simp) | (refine awp_exit ?_; try simp) | (refine awp_ret ?_; try simp) | (refine retP_same (by simp) ?_; simp) | (refine retP_flat (by simp) (by simp) (by simp [b0, b1, b2, b3, b8, b9, hka]) ?_; simp) | (refine awp_reg ?_; simp [b0, b1, b2, b3, b8, b9, hka]) | (refine awp_drawT (fun _ => false) mixed (by decide +kernel) ?_; simp [b0, b1, b2, b3, b8, b9, hka]) | (refine guarded_split ?_ ?_ <;> (intro hg; simp only [hg]; simp [b0, b1, b2, b3, b8, b9, hka])) | (apply awp_cond_t; focus (simp [b0, b1, b2, b3, b8, b9, hka]; done)) | (apply awp_cond_f; focus (simp [b0, b1, b2, b3, b8, b9, hka]; done)) | (refine awp_cond ?_; simp [b0, b1, b2, b3, b8, b9, hka]; refine ⟨?_, ?_⟩ <;> intro hc))
      refine ⟨b - i, by omega, i + 1, wi, by omega, by omega, e, he, ?_, hτ', hτσ'⟩
      rw [← hins]
      conv => rhs; rw [Sort.insOuter, if_pos hib, ← hinn, hne]
  · (try (first | (with_reducible refine dops_go ?_; simp [a0, a1, a2, a3, a8, hib]) | (with_reducible refine OKv_go ?_; simp [a0, a1, a2, a3, a8, hib]) | (with_reducible refine OKr_go ?_; simp [a0, a1, a2, a3, a8, hib]))); repeat' (first | refine awp_seq ?_ | refine awp_block ?_ | (refine awp_skip ?_; try simp) | (refine awp_exit ?_; try simp) | (refine awp_ret ?_; try simp) | (refine retP_same (by simp) ?_; simp) | (refine retP_flat (by simp) (by simp) (by simp [a0, a1, a2, a3, a8, hib]) ?_; simp) | (refine awp_reg ?_; simp [a0, a1, a2, a3, a8, hib]) | (refine awp_drawT (fun _ => false) mixed (by decide +kernel) ?_; simp [a0, a1, a2, a3, a8, hib]) | (refine guarded_split ?_ ?_ <;> (intro hg; simp only [hg]; simp [a0, a1, a2, a3, a8, hib])) | (apply awp_cond_t; focus (simp [a0, a1, a2, a3, a8, hib]; done)) | (apply awp_cond_f; focus (simp [a0, a1, a2, a3, a8, hib]; done)) | (refine awp_cond ?_; simp [a0, a1, a2, a3, a8, hib]; refine ⟨?_, ?_⟩ <;> intro hc))
    refine retK_of (x := .tup []) (.inl rfl) (by simp) ⟨rfl, ?_⟩
    rw [Sort.insOuter, if_neg hib] at hins
    rw [← hτσ, set_set, ← hins, set_same hτ]
end Go.Proofs.Ytajikhpjjbohaaa.Av

/- Sorting, part 2: heap sort. -/
namespace Go.Proofs.Ytajikhpjjbohaaa.Av
open Go
set_option linter.unusedSimpArgs false
set_option linter.unusedVariables false
set_option maxRecDepth 100000
set_option pp.maxSteps 300

theorem wadd {a b c : Nat} (h : a + b = c) (hc : c < 2 ^ 62) : IntKind.i64.wrap ((a : Int) + b) = c := by rw [wrap64 (by omega) (by omega)]; omega
theorem siftDown_calls {g : FuncId} {c : Rg → Rg → Int} (hcc : Cmp g c) {j : Id} (hjs : j.sz = 2) {d : Array Rg} {lo hi first : Nat} (hb : first + hi ≤ d.size) (hsz : d.size < 2 ^ 40) (hlo : lo ≤ d.size) {σ : St} (hj : σ.m j = some (bufOf d)) :
    ACalls Try.prog 62 [.rs j 0 d.size, .raw (.int .i64 lo), .raw (.int .i64 hi), .raw (.int .i64 first), .fn (.func g) [] []] σ fun r τ => r = .tup [] ∧ τ = σ.set j (bufOf (Sort.siftDown (ltOf c) hi first lo d)) := by
  refine abody Try.func62 rfl (N := 82) rfl rfl (by simp) ?_
  (try (first | (with_reducible refine dops_go ?_; simp) | (with_reducible refine OKv_go ?_; simp) | (with_reducible refine OKr_go ?_; simp))); repeat' (first | refine awp_seq ?_ | refine awp_block ?_ | (refine awp_skip ?_; try simp) | (refine awp_exit ?_; try simp) | (refine awp_ret ?_; try simp) | (refine retP_same (by simp) ?_; simp) | (refine retP_flat (by simp) (by simp) (by simp) ?_; simp) | (refine awp_reg ?_; simp) | (refine awp_drawT (fun _ => false) mixed (by decide +kernel) ?_; simp) | (refine guarded_split ?_ ?_ <;> (intro hg; simp only [hg]; simp)) | (apply awp_cond_t; focus (simp; done)) | (apply awp_cond_f; focus (simp; done)) | (refine awp_cond ?_; simp; refine ⟨?_, ?_⟩ <;> intro hc))
  refine awp_loop (fun n A τ => A 0 = .rs j 0 d.size ∧ A 2 = .raw (.int .i64 hi) ∧ A 3 = .raw (.int .i64 first) ∧ A 4 = .fn (.func g) [] [] ∧ ∃ (r : Nat) (d' : Array Rg), A 10 = .raw (.int .i64 r) ∧ n = d.size + 1 - r ∧ d'.size = d.size ∧ r ≤ d.size ∧
    Sort.siftDown (ltOf c) hi first r d' = Sort.siftDown (ltOf c) hi first lo d ∧ τ.m j = some (bufOf d') ∧ τ.set j (bufOf d) = σ) (d.size + 1 - lo) ?_ ?_
  · simp
    exact ⟨lo, rfl, rfl, d, rfl, hlo, rfl, hj, set_same hj⟩
  rintro n A τ ⟨a0, a2, a3, a4, r, d', a10, hn, hd', hr, hins, hτ, hτσ⟩
  have hb' : τ.m j = some (.buf (d'.toList.map rgAV)) := hτ
  have done : τ = σ.set j (bufOf d') := by rw [← hτσ, set_set, set_same hτ]
  have w1 : IntKind.i64.wrap (2 * (r : Int)) = ((2 * r : Nat) : Int) := by rw [wrap64 (by omega) (by omega)]; omega
  have w2 : IntKind.i64.wrap (((2 * r : Nat) : Int) + 1) = ((2 * r + 1 : Nat) : Int) := by rw [wrap64 (by omega) (by omega)]; omega
  by_cases h1 : hi ≤ 2 * r + 1
  · have h1' : (hi : Int) ≤ ((2 * r + 1 : Nat) : Int) := by omega
    generalize ((2 * r : Nat) : Int) = y at *
    generalize hq : 2 * r + 1 = q at *
    (try (first | (with_reducible refine dops_go ?_; simp [a0, a2, a3, a4, a10, w1, w2, h1']) | (with_reducible refine OKv_go ?_; simp [a0, a2, a3, a4, a10, w1, w2, h1']) | (with_reducible refine OKr_go ?_; simp [a0, a2, a3, a4, a10, w1, w2, h1']))); repeat' (first | refine awp_seq ?_ | refine awp_block ?_ | (refine awp_skip ?_; try simp) | (refine awp_exit ?_; try simp) | (refine awp_ret ?_; try simp) | (refine retP_same (by simp) ?_; simp) | (refine retP_flat (by simp) (by simp) (by simp [a0, a2, a3, a4, a10, w1, w2, h1']) ?_; simp) | (refine awp_reg ?_; simp [a0, a2, a3, a4, a10, w1, w2, h1']) | (refine awp_drawT (fun _ => false) mixed (by decide +kernel) ?_; simp [a0, a2, a3, a4, a10, w1, w2, h1']) | (refine guarded_split ?_ ?_ <;> (intro hg; simp only [hg]; simp [a0, a2, a3, a4, a10, w1, w2, h1'])) | (apply awp_cond_t; focus (simp [a0, a2, a3, a4, a10, w1, w2, h1']; done)) | (apply awp_cond_f; focus (simp [a0, a2, a3, a4, a10, w1, w2, h1']; done)) | (refine awp_cond ?_; simp [a0, a2, a3, a4, a10, w1, w2, h1']; refine ⟨?_, ?_⟩ <;> intro hc))
    refine retK_of (x := .tup []) (.inl rfl) (by simp) ⟨rfl, ?_⟩
    rw [← hins, Sort.siftDown, dif_pos (by omega)]
    exact done
  · obtain ⟨q, hq⟩ : ∃ q : Nat, 2 * r + 1 = q := ⟨_, rfl⟩
    obtain ⟨q1, hq1⟩ : ∃ q1 : Nat, q + 1 = q1 := ⟨_, rfl⟩
    obtain ⟨fq, hfq⟩ : ∃ fq : Nat, first + q = fq := ⟨_, rfl⟩
    obtain ⟨fp, hfp⟩ : ∃ fp : Nat, fq + 1 = fp := ⟨_, rfl⟩
    obtain ⟨fr, hfr⟩ : ∃ fr : Nat, first + r = fr := ⟨_, rfl⟩
    have h1' : ¬ (hi : Int) ≤ (q : Int) := by omega
    have h1q : q < hi := by omega
    have w3 : IntKind.i64.wrap ((q : Int) + 1) = q1 := by rw [wrap64 (by omega) (by omega)]; omega
    have w4 : IntKind.i64.wrap ((first : Int) + q) = fq := by rw [wrap64 (by omega) (by omega)]; omega
    have w5 : IntKind.i64.wrap ((fq : Int) + 1) = fp := by rw [wrap64 (by omega) (by omega)]; omega
    have w6 : IntKind.i64.wrap ((first : Int) + r) = fr := by rw [wrap64 (by omega) (by omega)]; omega
    have w7 : IntKind.i64.wrap ((first : Int) + q1) = fp := by rw [wrap64 (by omega) (by omega)]; omega
    have hx : d'[fq]? = some d'[fq]! := get_bang (by omega)
    have hz : d'[fr]? = some d'[fr]! := get_bang (by omega)
    have b1 : (fq : Int) < d.size := by omega
    have b3 : (fr : Int) < d.size := by omega
    rw [hq] at w2
    have hne : ¬ fr = fq := by omega
    generalize ((2 * r : Nat) : Int) = y at *
    have hsd : Sort.siftDown (ltOf c) hi first r d' = if (q1 < hi && ltOf c d'[fq]! d'[fp]!) = true then (if (!ltOf c d'[fr]! d'[fp]!) = true then d' else Sort.siftDown (ltOf c) hi first q1 (Sort.swp d' fr fp)) else (if (!ltOf c d'[fr]! d'[fq]!) = true then d' else Sort.siftDown (ltOf c) hi first q (Sort.swp d' fr fq)) := by
      rw [Sort.siftDown, dif_neg (by omega)]
      have e1 : 2 * r + 1 + 1 = q1 := by omega
      have e2 : first + (2 * r + 1) = fq := by omega
      have e3 : fq + 1 = fp := hfp
      have e4 : first + r = fr := hfr
      have e5 : first + q1 = fp := by omega
      rw [e1, e2, e3, e4, e5, hq]
      by_cases hh : q1 < hi
      · simp [hh]
      · simp [hh]
    by_cases h2 : q1 < hi
    · have hy : d'[fp]? = some d'[fp]! := get_bang (by omega)
      have b2 : (fp : Int) < d.size := by omega
      have hne2 : ¬ fr = fp := by omega
      (try (first | (with_reducible refine dops_go ?_; simp [a0, a2, a3, a4, a10, w1, w2, h1', h1q, w3, w4, w5, w6, w7, hx, hz, hb', b1, b3, h2, hy, b2, hjs, rg_cells, rg_fold, hd']) | (with_reducible refine OKv_go ?_; simp [a0, a2, a3, a4, a10, w1, w2, h1', h1q, w3, w4, w5, w6, w7, hx, hz, hb', b1, b3, h2, hy, b2, hjs, rg_cells, rg_fold, hd']) | (with_reducible refine OKr_go ?_; simp [a0, a2, a3, a4, a10, w1, w2, h1', h1q, w3, w4, w5, w6, w7, hx, hz, hb', b1, b3, h2, hy, b2, hjs, rg_cells, rg_fold, hd']))); repeat' (first | refine awp_seq ?_ | refine awp_block ?_ | (refine awp_skip ?_; try simp) | (refine awp_exit ?_; try simp) | (refine awp_ret ?_; try simp) | (refine retP_same (by simp) ?_; simp) | (refine retP_flat (by simp) (by simp) (by simp [a0, a2, a3, a4, a10, w1, w2, h1', h1q, w3, w4, w5, w6, w7, hx, hz, hb', b1, b3, h2, hy, b2, hjs, rg_cells, rg_fold, hd']) ?_; simp) | (refine awp_reg ?_; simp [a0, a2, a3, a4, a10, w1, w2, h1', h1q, w3, w4, w5, w6, w7, hx, hz, hb', b1, b3, h2, hy, b2, hjs, rg_cells, rg_fold, hd']) | (refine awp_drawT (fun _ => false) mixed (by decide +kernel) ?_; simp [a0, a2, a3, a4, a10, w1, w2, h1', h1q, w3, w4, w5, w6, w7, hx, hz, hb', b1, b3, h2, hy, b2, hjs, rg_cells, rg_fold, hd']) | (refine guarded_split ?_ ?_ <;> (intro hg; simp only [hg]; simp [a0, a2, a3, a4, a10, w1, w2, h1', h1q, w3, w4, w5, w6, w7, hx, hz, hb', b1, b3, h2, hy, b2, hjs, rg_cells, rg_fold, hd'])) | (apply awp_cond_t; focus (simp [a0, a2, a3, a4, a10, w1, w2, h1', h1q, w3, w4, w5, w6, w7, hx, hz, hb', b1, b3, h2, hy, b2, hjs, rg_cells, rg_fold, hd']; done)) | (apply awp_cond_f; focus (simp [a0, a2, a3, a4, a10, w1, w2, h1', h1q, w3, w4, w5, w6, w7, hx, hz, hb', b1, b3, h2, hy, b2, hjs, rg_cells, rg_fold, hd']; done)) | (refine awp_cond ?_; simp [a0, a2, a3, a4, a10, w1, w2, h1', h1q, w3, w4, w5, w6, w7, hx, hz, hb', b1, b3, h2, hy, b2, hjs, rg_cells, rg_fold, hd']; refine ⟨?_, ?_⟩ <;> intro hc))
      refine PCalls.use (hcc.calls _ _) ?_
      (try (first | (with_reducible refine dops_go ?_; simp [a0, a2, a3, a4, a10, w1, w2, h1', h1q, w3, w4, w5, w6, w7, hx, hz, hb', b1, b3, h2, hy, b2, hjs, rg_cells, rg_fold, hd']) | (with_reducible refine OKv_go ?_; simp [a0, a2, a3, a4, a10, w1, w2, h1', h1q, w3, w4, w5, w6, w7, hx, hz, hb', b1, b3, h2, hy, b2, hjs, rg_cells, rg_fold, hd']) | (with_reducible refine OKr_go ?_; simp [a0, a2, a3, a4, a10, w1, w2, h1', h1q, w3, w4, w5, w6, w7, hx, hz, hb', b1, b3, h2, hy, b2, hjs, rg_cells, rg_fold, hd']))); repeat' (first | refine awp_seq ?_ | refine awp_block ?_ | (refine awp_skip ?_; try simp) | (refine awp_exit ?_; try simp) | (refine awp_ret ?_; try simp) | (refine retP_same (by simp) ?_; simp) | (refine retP_flat (by simp) (by simp) (by simp [a0, a2, a3, a4, a10, w1, w2, h1', h1q, w3, w4, w5, w6, w7, hx, hz, hb', b1, b3, h2, hy, b2, hjs, rg_cells, rg_fold, hd']) ?_; simp) | (refine awp_reg ?_; simp [a0, a2, a3, a4, a10, w1, w2, h1', h1q, w3, w4, w5, w6, w7, hx, hz, hb', b1, b3, h2, hy, b2, hjs, rg_cells, rg_fold, hd']) | (refine awp_drawT (fun _ => false) mixed (by decide +kernel) ?_; simp [a0, a2, a3, a4, a10, w1, w2, h1', h1q, w3, w4, w5, w6, w7, hx, hz, hb', b1, b3, h2, hy, b2, hjs, rg_cells, rg_fold, hd']) | (refine guarded_split ?_ ?_ <;> (intro hg; simp only [hg]; simp [a0, a2, a3, a4, a10, w1, w2, h1', h1q, w3, w4, w5, w6, w7, hx, hz, hb', b1, b3, h2, hy, b2, hjs, rg_cells, rg_fold, hd'])) | (apply awp_cond_t; focus (simp [a0, a2, a3, a4, a10, w1, w2, h1', h1q, w3, w4, w5, w6, w7, hx, hz, hb', b1, b3, h2, hy, b2, hjs, rg_cells, rg_fold, hd']; done)) | (apply awp_cond_f; focus (simp [a0, a2, a3, a4, a10, w1, w2, h1', h1q, w3, w4, w5, w6, w7, hx, hz, hb', b1, b3, h2, hy, b2, hjs, rg_cells, rg_fold, hd']; done)) | (refine awp_cond ?_; simp [a0, a2, a3, a4, a10, w1, w2, h1', h1q, w3, w4, w5, w6, w7, hx, hz, hb', b1, b3, h2, hy, b2, hjs, rg_cells, rg_fold, hd']; refine ⟨?_, ?_⟩ <;> intro hc))
      · have hc1 : ltOf c d'[fq]! d'[fp]! = true := by simpa [ltOf] using hc
        refine PCalls.use (hcc.calls _ _) ?_
        (try (first | (with_reducible refine dops_go ?_; simp [a0, a2, a3, a4, a10, w1, w2, h1', h1q, w3, w4, w5, w6, w7, hx, hz, hb', b1, b3, h2, hy, b2, hjs, rg_cells, rg_fold, hd', rg_setPart, hne, hne2, swp_buf]) | (with_reducible refine OKv_go ?_; simp [a0, a2, a3, a4, a10, w1, w2, h1', h1q, w3, w4, w5, w6, w7, hx, hz, hb', b1, b3, h2, hy, b2, hjs, rg_cells, rg_fold, hd', rg_setPart, hne, hne2, swp_buf]) | (with_reducible refine OKr_go ?_; simp [a0, a2, a3, a4, a10, w1, w2, h1', h1q, w3, w4, w5, w6, w7, hx, hz, hb', b1, b3, h2, hy, b2, hjs, rg_cells, rg_fold, hd', rg_setPart, hne, hne2, swp_buf]))); repeat' (first | refine awp_seq ?_ | refine awp_block ?_ | (refine awp_skip ?_; try simp) | (refine awp_exit ?_; try simp) | (refine awp_ret ?_; try simp) | (refine retP_same (by simp) ?_; simp) | (refine retP_flat (by simp) (by simp) (by simp [a0, a2, a3, a4, a10, w1, w2, h1', h1q, w3, w4, w5, w6, w7, hx, hz, hb', b1, b3, h2, hy, b2, hjs, rg_cells, rg_fold, hd', rg_setPart, hne, hne2, swp_buf]) ?_; simp) | (refine awp_reg ?_; simp [a0, a2, a3, a4, a10, w1, w2, h1', h1q, w3, w4, w5, w6, w7, hx, hz, hb', b1, b3, h2, hy, b2, hjs, rg_cells, rg_fold, hd', rg_setPart, hne, hne2, swp_buf]) | (refine awp_drawT (fun _ => false) mixed (by decide +kernel) ?_; simp [a0, a2, a3, a4, a10, w1, w2, h1', h1q, w3, w4, w5, w6, w7, hx, hz, hb', b1, b3, h2, hy, b2, hjs, rg_cells, rg_fold, hd', rg_setPart, hne, hne2, swp_buf]) | (refine guarded_split ?_ ?_ <;> (intro hg; simp only [hg]; simp [a0, a2, a3, a4, a10, w1, w2, h1', h1q, w3, w4, w5, w6, w7, hx, hz, hb', b1, b3, h2, hy, b2, hjs, rg_cells, rg_fold, hd', rg_setPart, hne, hne2, swp_buf])) | (apply awp_cond_t; focus (simp [a0, a2, a3, a4, a10, w1, w2, h1', h1q, w3, w4, w5, w6, w7, hx, hz, hb', b1, b3, h2, hy, b2, hjs, rg_cells, rg_fold, hd', rg_setPart, hne, hne2, swp_buf]; done)) | (apply awp_cond_f; focus (simp [a0, a2, a3, a4, a10, w1, w2, h1', h1q, w3, w4, w5, w6, w7, hx, hz, hb', b1, b3, h2, hy, b2, hjs, rg_cells, rg_fold, hd', rg_setPart, hne, hne2, swp_buf]; done)) | (refine awp_cond ?_; simp [a0, a2, a3, a4, a10, w1, w2, h1', h1q, w3, w4, w5, w6, w7, hx, hz, hb', b1, b3, h2, hy, b2, hjs, rg_cells, rg_fold, hd', rg_setPart, hne, hne2, swp_buf]; refine ⟨?_, ?_⟩ <;> intro hc))
        · have hc2 : ltOf c d'[fr]! d'[fp]! = false := by simpa [ltOf] using hc
          refine retK_of (x := .tup []) (.inr rfl) (by simp) ⟨rfl, ?_⟩
          rw [← hins, hsd]
          simp only [h2, hc1, hc2, Bool.and_true, Bool.true_and, Bool.false_and, Bool.and_false, decide_true, decide_false, if_true, Bool.not_false, Bool.false_eq_true, if_false]
          exact done
        · have hc2 : ltOf c d'[fr]! d'[fp]! = true := by simpa [ltOf] using hc
          refine ⟨d.size + 1 - q1, by omega, q1, rfl, rfl, Sort.swp d' fr fp, by rw [swp_size', hd'], by omega, ?_, by simp [bufOf], hτσ⟩
          rw [← hins, hsd]
          simp only [h2, hc1, hc2, Bool.and_true, Bool.true_and, Bool.false_and, Bool.and_false, decide_true, decide_false, if_true, Bool.not_true, Bool.false_eq_true, if_false]
      · have hc1 : ltOf c d'[fq]! d'[fp]! = false := by simpa [ltOf] using hc
        refine PCalls.use (hcc.calls _ _) ?_
        (try (first | (with_reducible refine dops_go ?_; simp [a0, a2, a3, a4, a10, w1, w2, h1', h1q, w3, w4, w5, w6, w7, hx, hz, hb', b1, b3, h2, hy, b2, hjs, rg_cells, rg_fold, hd', rg_setPart, hne, hne2, swp_buf]) | (with_reducible refine OKv_go ?_; simp [a0, a2, a3, a4, a10, w1, w2, h1', h1q, w3, w4, w5, w6, w7, hx, hz, hb', b1, b3, h2, hy, b2, hjs, rg_cells, rg_fold, hd', rg_setPart, hne, hne2, swp_buf]) | (with_reducible refine OKr_go ?_; simp [a0, a2, a3, a4, a10, w1, w2, h1', h1q, w3, w4, w5, w6, w7, hx, hz, hb', b1, b3, h2, hy, b2, hjs, rg_cells, rg_fold, hd', rg_setPart, hne, hne2, swp_buf]))); repeat' (first | refine awp_seq ?_ | refine awp_block ?_ | (refine awp_skip ?_; try simp) | (refine awp_exit ?_; try simp) | (refine awp_ret ?_; try simp) | (refine retP_same (by simp) ?_; simp) | (refine retP_flat (by simp) (by simp) (by simp [a0, a2, a3, a4, a10, w1, w2, h1', h1q, w3, w4, w5, w6, w7, hx, hz, hb', b1, b3, h2, hy, b2, hjs, rg_cells, rg_fold, hd', rg_setPart, hne, hne2, swp_buf]) ?_; simp) | (refine awp_reg ?_; simp [a0, a2, a3, a4, a10, w1, w2, h1', h1q, w3, w4, w5, w6, w7, hx, hz, hb', b1, b3, h2, hy, b2, hjs, rg_cells, rg_fold, hd', rg_setPart, hne, hne2, swp_buf]) | (refine awp_drawT (fun _ => false) mixed (by decide +kernel) ?_; simp [a0, a2, a3, a4, a10, w1, w2, h1', h1q, w3, w4, w5, w6, w7, hx, hz, hb', b1, b3, h2, hy, b2, hjs, rg_cells, rg_fold, hd', rg_setPart, hne, hne2, swp_buf]) | (refine guarded_split ?_ ?_ <;> (intro hg; simp only [hg]; simp [a0, a2, a3, a4, a10, w1, w2, h1', h1q, w3, w4, w5, w6, w7, hx, hz, hb', b1, b3, h2, hy, b2, hjs, rg_cells, rg_fold, hd', rg_setPart, hne, hne2, swp_buf])) | (apply awp_cond_t; focus (simp [a0, a2, a3, a4, a10, w1, w2, h1', h1q, w3, w4, w5, w6, w7, hx, hz, hb', b1, b3, h2, hy, b2, hjs, rg_cells, rg_fold, hd', rg_setPart, hne, hne2, swp_buf]; done)) | (apply awp_cond_f; focus (simp [a0, a2, a3, a4, a10, w1, w2, h1', h1q, w3, w4, w5, w6, w7, hx, hz, hb', b1, b3, h2, hy, b2, hjs, rg_cells, rg_fold, hd', rg_setPart, hne, hne2, swp_buf]; done)) | (refine awp_cond ?_; simp [a0, a2, a3, a4, a10, w1, w2, h1', h1q, w3, w4, w5, w6, w7, hx, hz, hb', b1, b3, h2, hy, b2, hjs, rg_cells, rg_fold, hd', rg_setPart, hne, hne2, swp_buf]; refine ⟨?_, ?_⟩ <;> intro hc))
        · have hc2 : ltOf c d'[fr]! d'[fq]! = false := by simpa [ltOf] using hc
          refine retK_of (x := .tup []) (.inr rfl) (by simp) ⟨rfl, ?_⟩
          rw [← hins, hsd]
          simp only [h2, hc1, hc2, Bool.and_true, Bool.true_and, Bool.false_and, Bool.and_false, decide_true, decide_false, if_true, Bool.not_false, Bool.false_eq_true, if_false]
          exact done
        · have hc2 : ltOf c d'[fr]! d'[fq]! = true := by simpa [ltOf] using hc
          refine ⟨d.size + 1 - q, by omega, q, rfl, rfl, Sort.swp d' fr fq, by rw [swp_size', hd'], by omega, ?_, by simp [bufOf], hτσ⟩
          rw [← hins, hsd]
          simp only [h2, hc1, hc2, Bool.and_true, Bool.true_and, Bool.false_and, Bool.and_false, decide_true, decide_false, if_true, Bool.not_true, Bool.false_eq_true, if_false]
    · (try (first | (with_reducible refine dops_go ?_; simp [a0, a2, a3, a4, a10, w1, w2, h1', h1q, w3, w4, w5, w6, w7, hx, hz, hb', b1, b3, h2, hjs, rg_cells, rg_fold, hd', rg_setPart, hne, swp_buf]) | (with_reducible refine OKv_go ?_; simp [a0, a2, a3, a4, a10, w1, w2, h1', h1q, w3, w4, w5, w6, w7, hx, hz, hb', b1, b3, h2, hjs, rg_cells, rg_fold, hd', rg_setPart, hne, swp_buf]) | (with_reducible refine OKr_go ?_; simp [a0, a2, a3, a4, a10, w1, w2, h1', h1q, w3, w4, w5, w6, w7, hx, hz, hb', b1, b3, h2, hjs, rg_cells, rg_fold, hd', rg_setPart, hne, swp_buf]))); repeat' (first | refine awp_seq ?_ | refine awp_block ?_ | (refine awp_skip ?_; try simp) | (refine awp_exit ?_; try simp) | (refine awp_ret ?_; try simp) | (refine retP_same (by simp) ?_; simp) | (refine retP_flat (by simp) (by simp) (by simp [a0, a2, a3, a4, a10, w1, w2, h1', h1q, w3, w4, w5, w6, w7, hx, hz, hb', b1, b3, h2, hjs, rg_cells, rg_fold, hd', rg_setPart, hne, swp_buf]) ?_; simp) | (refine awp_reg ?_; simp [a0, a2, a3, a4, a10, w1, w2, h1', h1q, w3, w4, w5, w6, w7, hx, hz, hb', b1, b3, h2, hjs, rg_cells, rg_fold, hd', rg_setPart, hne, swp_buf]) | (refine awp_drawT (fun _ => false) mixed (by decide +kernel) ?_; simp [a0, a2, a3, a4, a10, w1, w2, h1', h1q, w3, w4, w5, w6, w7, hx, hz, hb', b1, b3, h2, hjs, rg_cells, rg_fold, hd', rg_setPart, hne, swp_buf]) | (refine guarded_split ?_ ?_ <;> (intro hg; simp only [hg]; simp [a0, a2, a3, a4, a10, w1, w2, h1', h1q, w3, w4, w5, w6, w7, hx, hz, hb', b1, b3, h2, hjs, rg_cells, rg_fold, hd', rg_setPart, hne, swp_buf])) | (apply awp_cond_t; focus (simp [a0, a2, a3, a4, a10, w1, w2, h1', h1q, w3, w4, w5, w6, w7, hx, hz, hb', b1, b3, h2, hjs, rg_cells, rg_fold, hd', rg_setPart, hne, swp_buf]; done)) | (apply awp_cond_f; focus (simp [a0, a2, a3, a4, a10, w1, w2, h1', h1q, w3, w4, w5, w6, w7, hx, hz, hb', b1, b3, h2, hjs, rg_cells, rg_fold, hd', rg_setPart, hne, swp_buf]; done)) | (refine awp_cond ?_; simp [a0, a2, a3, a4, a10, w1, w2, h1', h1q, w3, w4, w5, w6, w7, hx, hz, hb', b1, b3, h2, hjs, rg_cells, rg_fold, hd', rg_setPart, hne, swp_buf]; refine ⟨?_, ?_⟩ <;> intro hc))
      refine PCalls.use (hcc.calls _ _) ?_
      (try (first | (with_reducible refine dops_go ?_; simp [a0, a2, a3, a4, a10, w1, w2, h1', h1q, w3, w4, w5, w6, w7, hx, hz, hb', b1, b3, h2, hjs, rg_cells, rg_fold, hd', rg_setPart, hne, swp_buf]) | (with_reducible refine OKv_go ?_; simp [a0, a2, a3, a4, a10, w1, w2, h1', h1q, w3, w4, w5, w6, w7, hx, hz, hb', b1, b3, h2, hjs, rg_cells, rg_fold, hd', rg_setPart, hne, swp_buf]) | (with_reducible refine OKr_go ?_; simp [a0, a2, a3, a4, a10, w1, w2, h1', h1q, w3, w4, w5, w6, w7, hx, hz, hb', b1, b3, h2, hjs, rg_cells, rg_fold, hd', rg_setPart, hne, swp_buf]))); repeat' (first | refine awp_seq ?_ | refine awp_block ?_ | (refine awp_skip ?_; try simp) | (refine awp_exit ?_; try simp) | (refine awp_ret ?_; try simp) | (refine retP_same (by simp) ?_; simp) | (refine retP_flat (by simp) (by simp) (by simp [a0, a2, a3, a4, a10, w1, w2, h1', h1q, w3, w4, w5, w6, w7, hx, hz, hb', b1, b3, h2, hjs, rg_cells, rg_fold, hd', rg_setPart, hne, swp_buf]) ?_; simp) | (refine awp_reg ?_; simp [a0, a2, a3, a4, a10, w1, w2, h1', h1q, w3, w4, w5, w6, w7, hx, hz, hb', b1, b3, h2, hjs, rg_cells, rg_fold, hd', rg_setPart, hne, swp_buf]) | (refine awp_drawT (fun _ => false) mixed (by decide +kernel) ?_; simp [a0, a2, a3, a4, a10, w1, w2, h1', h1q, w3, w4, w5, w6, w7, hx, hz, hb', b1, b3, h2, hjs, rg_cells, rg_fold, hd', rg_setPart, hne, swp_buf]) | (refine guarded_split ?_ ?_ <;> (intro hg; simp only [hg]; simp [a0, a2, a3, a4, a10, w1, w2, h1', h1q, w3, w4, w5, w6, w7, hx, hz, hb', b1, b3, h2, hjs, rg_cells, rg_fold, hd', rg_setPart, hne, swp_buf])) | (apply awp_cond_t; focus (simp [a0, a2, a3, a4, a10, w1, w2, h1', h1q, w3, w4, w5, w6, w7, hx, hz, hb', b1, b3, h2, hjs, rg_cells, rg_fold, hd', rg_setPart, hne, swp_buf]; done)) | (apply awp_cond_f; focus (simp [a0, a2, a3, a4, a10, w1, w2, h1', h1q, w3, w4, w5, w6, w7, hx, hz, hb', b1, b3, h2, hjs, rg_cells, rg_fold, hd', rg_setPart, hne, swp_buf]; done)) | (refine awp_cond ?_; simp [a0, a2, a3, a4, a10, w1, w2, h1', h1q, w3, w4, w5, w6, w7, hx, hz, hb', b1, b3, h2, hjs, rg_cells, rg_fold, hd', rg_setPart, hne, swp_buf]; refine ⟨?_, ?_⟩ <;> intro hc))
      · have hc2 : ltOf c d'[fr]! d'[fq]! = false := by simpa [ltOf] using hc
        refine retK_of (x := .tup []) (.inr rfl) (by simp) ⟨rfl, ?_⟩
        rw [← hins, hsd]
        simp only [h2, hc2, Bool.and_true, Bool.true_and, Bool.false_and, Bool.and_false, decide_true, decide_false, if_true, Bool.not_false, Bool.false_eq_true, if_false]
        exact done
      · have hc2 : ltOf c d'[fr]! d'[fq]! = true := by simpa [ltOf] using hc
        refine ⟨d.size + 1 - q, by omega, q, rfl, rfl, Sort.swp d' fr fq, by rw [swp_size', hd'], by omega, ?_, by simp [bufOf], hτσ⟩
        rw [← hins, hsd]
        simp only [h2, hc2, Bool.and_true, Bool.true_and, Bool.false_and, Bool.and_false, decide_true, decide_false, if_true, Bool.not_true, Bool.false_eq_true, if_false]
end Go.Proofs.Ytajikhpjjbohaaa.Av

/- Sorting, part 3: heap sort, reversing. -/
namespace Go.Proofs.Ytajikhpjjbohaaa.Av
open Go
set_option linter.unusedSimpArgs false
set_option linter.unusedVariables false
set_option maxRecDepth 100000
set_option pp.maxSteps 300

theorem sd_size (lt : Rg → Rg → Bool) (hi first : Nat) : ∀ (n root : Nat) (d : Array Rg), hi - root ≤ n → (Sort.siftDown lt hi first root d).size = d.size := by
  intro n
  induction n with
  | zero =>
    intro root d h
    rw [Sort.siftDown, dif_pos (by omega)]
  | succ n ih =>
    intro root d h
    rw [Sort.siftDown]
    split
    · rfl
    · split
      · split
        · rfl
        · split
          · rw [ih _ _ (by omega), swp_size']
          · rfl
      · split
        · rfl
        · rw [ih _ _ (by omega), swp_size']
theorem sd_size' (lt : Rg → Rg → Bool) (hi first root : Nat) (d : Array Rg) : (Sort.siftDown lt hi first root d).size = d.size := sd_size lt hi first _ root d (Nat.le_refl _)

theorem setIB_self {d : Array Rg} {i : Nat} (h : i < d.size) : d.setIfInBounds i d[i]! = d := by
  rw [getElem!_pos d i h]
  apply Array.ext
  · simp
  · intro k h1 h2
    rw [Array.getElem_setIfInBounds]
    split
    · rename_i e; subst e; rfl
    · rfl
theorem swp_self {d : Array Rg} {i : Nat} (h : i < d.size) : Sort.swp d i i = d := by
  simp only [Sort.swp]
  rw [setIB_self h, setIB_self h]
theorem set_keep {d : Array Rg} {i : Nat} (h : i < d.size) : (d.toList.map rgAV).set i (rgAV d[i]!) = d.toList.map rgAV := by
  rw [set_map, setIB_self h]
theorem heapSort_calls {g : FuncId} {c : Rg → Rg → Int} (hcc : Cmp g c) {j : Id} (hjs : j.sz = 2) {d : Array Rg} {a b : Nat} (hab : a ≤ b) (hb : b ≤ d.size) (hsz : d.size < 2 ^ 40) {σ : St} (hj : σ.m j = some (bufOf d)) :
    ACalls Try.prog 53 [.rs j 0 d.size, .raw (.int .i64 a), .raw (.int .i64 b), .fn (.func g) [] []] σ fun r τ => r = .tup [] ∧ τ = σ.set j (bufOf (Sort.heapSort (ltOf c) d a b)) := by
  refine abody Try.func53 rfl (N := 60) rfl rfl (by simp) ?_
  obtain ⟨hi, hhi⟩ : ∃ hi, b - a = hi := ⟨_, rfl⟩
  have w1 : IntKind.i64.wrap ((b : Int) - a) = hi := by rw [wrap64 (by omega) (by omega)]; omega
  have w2 : IntKind.i64.wrap ((hi : Int) - 1) = (hi : Int) - 1 := wrap64 (by omega) (by omega)
  have w3 : ((hi : Int) - 1).tdiv 2 = (((hi - 1) / 2 + 1 : Nat) : Int) - 1 := by
    rcases Nat.eq_zero_or_pos hi with h | h
    · subst h; rfl
    · have e : (hi : Int) - 1 = ((hi - 1 : Nat) : Int) := by omega
      rw [e, Int.tdiv_eq_ediv_of_nonneg (by omega)]; omega
  have w4 : IntKind.i64.wrap ((((hi - 1) / 2 + 1 : Nat) : Int) - 1) = (((hi - 1) / 2 + 1 : Nat) : Int) - 1 := wrap64 (by omega) (by omega)
  obtain ⟨k0, hk0⟩ : ∃ k0 : Nat, (hi - 1) / 2 + 1 = k0 := ⟨_, rfl⟩
  rw [hk0] at w3 w4
  have hk0b : k0 ≤ d.size + 1 := by omega
  (try (first | (with_reducible refine dops_go ?_; simp [w1, w2, w3, w4]) | (with_reducible refine OKv_go ?_; simp [w1, w2, w3, w4]) | (with_reducible refine OKr_go ?_; simp [w1, w2, w3, w4]))); repeat' (first | refine awp_seq ?_ | refine awp_block ?_ | (refine awp_skip ?_; try simp) | (refine awp_exit ?_; try simp) | (refine awp_ret ?_; try simp) | (refine retP_same (by simp) ?_; simp) | (refine retP_flat (by simp) (by simp) (by simp [w1, w2, w3, w4]) ?_; simp) | (refine awp_reg ?_; simp [w1, w2, w3, w4]) | (refine awp_drawT (fun _ => false) mixed (by decide +kernel) ?_; simp [w1, w2, w3, w4]) | (refine guarded_split ?_ ?_ <;> (intro hg; simp only [hg]; simp [w1, w2, w3, w4])) | (apply awp_cond_t; focus (simp [w1, w2, w3, w4]; done)) | (apply awp_cond_f; focus (simp [w1, w2, w3, w4]; done)) | (refine awp_cond ?_; simp [w1, w2, w3, w4]; refine ⟨?_, ?_⟩ <;> intro hc))
  refine awp_loop (fun n A τ => A 0 = .rs j 0 d.size ∧ A 3 = .fn (.func g) [] [] ∧ A 8 = .raw (.int .i64 a) ∧ A 9 = .raw (.int .i64 0) ∧ A 10 = .raw (.int .i64 hi) ∧ ∃ (d' : Array Rg), A 11 = .raw (.int .i64 ((n : Int) - 1)) ∧ d'.size = d.size ∧ n ≤ k0 ∧
    Sort.heapBuild (ltOf c) hi a n d' = Sort.heapBuild (ltOf c) hi a k0 d ∧ τ.m j = some (bufOf d') ∧ τ.set j (bufOf d) = σ) k0 ?_ ?_
  · simp
    exact ⟨d, rfl, rfl, hj, set_same hj⟩
  rintro n A τ ⟨a0, a3, a8, a9, a10, d', a11, hd', hn, hins, hτ, hτσ⟩
  cases n with
  | succ n =>
    have e1 : ((n + 1 : Nat) : Int) - 1 = n := by omega
    rw [e1] at a11
    have w5 : IntKind.i64.wrap ((n : Int) - 1) = (n : Int) - 1 := wrap64 (by omega) (by omega)
    (try (first | (with_reducible refine dops_go ?_; simp [a0, a3, a8, a9, a10, a11, w5]) | (with_reducible refine OKv_go ?_; simp [a0, a3, a8, a9, a10, a11, w5]) | (with_reducible refine OKr_go ?_; simp [a0, a3, a8, a9, a10, a11, w5]))); repeat' (first | refine awp_seq ?_ | refine awp_block ?_ | (refine awp_skip ?_; try simp) | (refine awp_exit ?_; try simp) | (refine awp_ret ?_; try simp) | (refine retP_same (by simp) ?_; simp) | (refine retP_flat (by simp) (by simp) (by simp [a0, a3, a8, a9, a10, a11, w5]) ?_; simp) | (refine awp_reg ?_; simp [a0, a3, a8, a9, a10, a11, w5]) | (refine awp_drawT (fun _ => false) mixed (by decide +kernel) ?_; simp [a0, a3, a8, a9, a10, a11, w5]) | (refine guarded_split ?_ ?_ <;> (intro hg; simp only [hg]; simp [a0, a3, a8, a9, a10, a11, w5])) | (apply awp_cond_t; focus (simp [a0, a3, a8, a9, a10, a11, w5]; done)) | (apply awp_cond_f; focus (simp [a0, a3, a8, a9, a10, a11, w5]; done)) | (refine awp_cond ?_; simp [a0, a3, a8, a9, a10, a11, w5]; refine ⟨?_, ?_⟩ <;> intro hc))
    have := siftDown_calls hcc hjs (d := d') (lo := n) (hi := hi) (first := a) (by omega) (by omega) (by omega) hτ
    rw [hd'] at this
    refine this.mono ?_
    rintro _ τ' ⟨rfl, rfl⟩
    (try (first | (with_reducible refine dops_go ?_; simp [a0, a3, a8, a9, a10, a11, w5]) | (with_reducible refine OKv_go ?_; simp [a0, a3, a8, a9, a10, a11, w5]) | (with_reducible refine OKr_go ?_; simp [a0, a3, a8, a9, a10, a11, w5]))); repeat' (first | refine awp_seq ?_ | refine awp_block ?_ | (refine awp_skip ?_; try simp) | (refine awp_exit ?_; try simp) | (refine awp_ret ?_; try simp) | (refine retP_same (by simp) ?_; simp) | (refine retP_flat (by simp) (by simp) (by simp [a0, a3, a8, a9, a10, a11, w5]) ?_; simp) | (refine awp_reg ?_; simp [a0, a3, a8, a9, a10, a11, w5]) | (refine awp_drawT (fun _ => false) mixed (by decide +kernel) ?_; simp [a0, a3, a8, a9, a10, a11, w5]) | (refine guarded_split ?_ ?_ <;> (intro hg; simp only [hg]; simp [a0, a3, a8, a9, a10, a11, w5])) | (apply awp_cond_t; focus (simp [a0, a3, a8, a9, a10, a11, w5]; done)) | (apply awp_cond_f; focus (simp [a0, a3, a8, a9, a10, a11, w5]; done)) | (refine awp_cond ?_; simp [a0, a3, a8, a9, a10, a11, w5]; refine ⟨?_, ?_⟩ <;> intro hc))
    exact ⟨n, by omega, rfl, Sort.siftDown (ltOf c) hi a n d', by rw [sd_size', hd'], by omega, by rw [← hins]; rfl, ⟨⟨_, hτ⟩, rfl⟩, hτσ⟩
  | zero =>
    (try (first | (with_reducible refine dops_go ?_; simp [a0, a3, a8, a9, a10, a11, w2]) | (with_reducible refine OKv_go ?_; simp [a0, a3, a8, a9, a10, a11, w2]) | (with_reducible refine OKr_go ?_; simp [a0, a3, a8, a9, a10, a11, w2]))); repeat' (first | refine awp_seq ?_ | refine awp_block ?_ | (refine awp_skip ?_; try simp) | (refine awp_exit ?_; try simp) | (refine awp_ret ?_; try simp) | (refine retP_same (by simp) ?_; simp) | (refine retP_flat (by simp) (by simp) (by simp [a0, a3, a8, a9, a10, a11, w2]) ?_; simp) | (refine awp_reg ?_; simp [a0, a3, a8, a9, a10, a11, w2]) | (refine awp_drawT (fun _ => false) mixed (by decide +kernel) ?_; simp [a0, a3, a8, a9, a10, a11, w2]) | (refine guarded_split ?_ ?_ <;> (intro hg; simp only [hg]; simp [a0, a3, a8, a9, a10, a11, w2])) | (apply awp_cond_t; focus (simp [a0, a3, a8, a9, a10, a11, w2]; done)) | (apply awp_cond_f; focus (simp [a0, a3, a8, a9, a10, a11, w2]; done)) | (refine awp_cond ?_; simp [a0, a3, a8, a9, a10, a11, w2]; refine ⟨?_, ?_⟩ <;> intro hc))
    refine awp_loop (fun n B τ => B 0 = .rs j 0 d.size ∧ B 3 = .fn (.func g) [] [] ∧ B 8 = .raw (.int .i64 a) ∧ B 9 = .raw (.int .i64 0) ∧ ∃ (e : Array Rg), B 12 = .raw (.int .i64 ((n : Int) - 1)) ∧ e.size = d.size ∧ n ≤ hi ∧
      Sort.heapPop (ltOf c) a n e = Sort.heapSort (ltOf c) d a b ∧ τ.m j = some (bufOf e) ∧ τ.set j (bufOf d) = σ) hi ?_ ?_
    · simp [a0, a3, a8, a9]
      refine ⟨d', hd', ?_, hτ, hτσ⟩
      have : d' = Sort.heapBuild (ltOf c) hi a k0 d := by rw [← hins]; rfl
      rw [this, Sort.heapSort, hhi, hk0]
    rintro n B τ' ⟨b0, b3, b8, b9, e, b12, he, hn2, hpop, hτ', hτσ'⟩
    cases n with
    | succ n =>
      have e1 : ((n + 1 : Nat) : Int) - 1 = n := by omega
      rw [e1] at b12
      have w5 : IntKind.i64.wrap ((n : Int) - 1) = (n : Int) - 1 := wrap64 (by omega) (by omega)
      obtain ⟨fk, hfk⟩ : ∃ fk, a + n = fk := ⟨_, rfl⟩
      have w6 : IntKind.i64.wrap ((a : Int) + n) = fk := by rw [wrap64 (by omega) (by omega)]; omega
      have hb' : τ'.m j = some (.buf (e.toList.map rgAV)) := hτ'
      have hx : e[a]? = some e[a]! := get_bang (by omega)
      have hy : e[fk]? = some e[fk]! := get_bang (by omega)
      have c1 : (a : Int) < d.size := by omega
      have c2 : (fk : Int) < d.size := by omega
      have key := fun (τ2 : St) (h : τ2.m j = some (bufOf (Sort.swp e a fk))) => siftDown_calls hcc hjs (d := Sort.swp e a fk) (lo := 0) (hi := n) (first := a) (by rw [swp_size']; omega) (by rw [swp_size']; omega) (by omega) h
      simp only [swp_size', he] at key
      have hpop1 : Sort.heapPop (ltOf c) a (n + 1) e = Sort.heapPop (ltOf c) a n (Sort.siftDown (ltOf c) n a 0 (Sort.swp e a fk)) := by rw [Sort.heapPop, hfk]
      by_cases hne : a = fk
      · subst hne
        have hss := set_keep (d := e) (i := a) (by omega)
        rw [swp_self (by omega)] at key hpop1
        (try (first | (with_reducible refine dops_go ?_; simp [b0, b3, b8, b9, b12, w5, w6, hb', hx, hy, c1, c2, hjs, rg_cells, rg_fold, rg_setPart, he, hss]) | (with_reducible refine OKv_go ?_; simp [b0, b3, b8, b9, b12, w5, w6, hb', hx, hy, c1, c2, hjs, rg_cells, rg_fold, rg_setPart, he, hss]) | (with_reducible refine OKr_go ?_; simp [b0, b3, b8, b9, b12, w5, w6, hb', hx, hy, c1, c2, hjs, rg_cells, rg_fold, rg_setPart, he, hss]))); repeat' (first | refine awp_seq ?_ | refine awp_block ?_ | (refine awp_skip ?_; try simp) | (refine awp_exit ?_; try simp) | (refine awp_ret ?_; try simp) | (refine retP_same (by simp) ?_; simp) | (refine retP_flat (by simp) (by simp) (by simp [b0, b3, b8, b9, b12, w5, w6, hb', hx, hy, c1, c2, hjs, rg_cells, rg_fold, rg_setPart, he, hss]) ?_; simp) | (refine awp_reg ?_; simp [b0, b3, b8, b9, b12, w5, w6, hb', hx, hy, c1, c2, hjs, rg_cells, rg_fold, rg_setPart, he, hss]) | (refine awp_drawT (fun _ => false) mixed (by decide +kernel) ?_; simp [b0, b3, b8, b9, b12, w5, w6, hb', hx, hy, c1, c2, hjs, rg_cells, rg_fold, rg_setPart, he, hss]) | (refine guarded_split ?_ ?_ <;> (intro hg; simp only [hg]; simp [b0, b3, b8, b9, b12, w5, w6, hb', hx, hy, c1, c2, hjs, rg_cells, rg_fold, rg_setPart, he, hss])) | (apply awp_cond_t; focus (simp [b0, b3, b8, b9, b12, w5, w6, hb', hx, hy, c1, c2, hjs, rg_cells, rg_fold, rg_setPart, he, hss]; done)) | (apply awp_cond_f; focus (simp [b0, b3, b8, b9, b12, w5, w6, hb', hx, hy, c1, c2, hjs, rg_cells, rg_fold, rg_setPart, he, hss]; done)) | (refine awp_cond ?_; simp [b0, b3, b8, b9, b12, w5, w6, hb', hx, hy, c1, c2, hjs, rg_cells, rg_fold, rg_setPart, he, hss]; refine ⟨?_, ?_⟩ <;> intro hc))
        refine (key _ (by simp [bufOf, hb'])).mono ?_
        rintro _ τ2 ⟨rfl, rfl⟩
        (try (first | (with_reducible refine dops_go ?_; simp [b0, b3, b8, b9, b12, w5]) | (with_reducible refine OKv_go ?_; simp [b0, b3, b8, b9, b12, w5]) | (with_reducible refine OKr_go ?_; simp [b0, b3, b8, b9, b12, w5]))); repeat' (first | refine awp_seq ?_ | refine awp_block ?_ | (refine awp_skip ?_; try simp) | (refine awp_exit ?_; try simp) | (refine awp_ret ?_; try simp) | (refine retP_same (by simp) ?_; simp) | (refine retP_flat (by simp) (by simp) (by simp [b0, b3, b8, b9, b12, w5]) ?_; simp) | (refine awp_reg ?_; simp [b0, b3, b8, b9, b12, w5]) | (refine awp_drawT (fun _ => false) mixed (by decide +kernel) ?_; simp [b0, b3, b8, b9, b12, w5]) | (refine guarded_split ?_ ?_ <;> (intro hg; simp only [hg]; simp [b0, b3, b8, b9, b12, w5])) | (apply awp_cond_t; focus (simp [b0, b3, b8, b9, b12, w5]; done)) | (apply awp_cond_f; focus (simp [b0, b3, b8, b9, b12, w5]; done)) | (refine awp_cond ?_; simp [b0, b3, b8, b9, b12, w5]; refine ⟨?_, ?_⟩ <;> intro hc))
        exact ⟨n, by omega, rfl, Sort.siftDown (ltOf c) n a 0 e, by rw [sd_size', he], by omega, by rw [← hpop1, hpop], ⟨⟨_, hτ'⟩, rfl⟩, hτσ'⟩
      · (try (first | (with_reducible refine dops_go ?_; simp [b0, b3, b8, b9, b12, w5, w6, hb', hx, hy, c1, c2, hjs, rg_cells, rg_fold, rg_setPart, he, hne, swp_buf]) | (with_reducible refine OKv_go ?_; simp [b0, b3, b8, b9, b12, w5, w6, hb', hx, hy, c1, c2, hjs, rg_cells, rg_fold, rg_setPart, he, hne, swp_buf]) | (with_reducible refine OKr_go ?_; simp [b0, b3, b8, b9, b12, w5, w6, hb', hx, hy, c1, c2, hjs, rg_cells, rg_fold, rg_setPart, he, hne, swp_buf]))); repeat' (first | refine awp_seq ?_ | refine awp_block ?_ | (refine awp_skip ?_; try simp) | (refine awp_exit ?_; try simp) | (refine awp_ret ?_; try simp) | (refine retP_same (by simp) ?_; simp) | (refine retP_flat (by simp) (by simp) (by simp [b0, b3, b8, b9, b12, w5, w6, hb', hx, hy, c1, c2, hjs, rg_cells, rg_fold, rg_setPart, he, hne, swp_buf]) ?_; simp) | (refine awp_reg ?_; simp [b0, b3, b8, b9, b12, w5, w6, hb', hx, hy, c1, c2, hjs, rg_cells, rg_fold, rg_setPart, he, hne, swp_buf]) | (refine awp_drawT (fun _ => false) mixed (by decide +kernel) ?_; simp [b0, b3, b8, b9, b12, w5, w6, hb', hx, hy, c1, c2, hjs, rg_cells, rg_fold, rg_setPart, he, hne, swp_buf]) | (refine guarded_split ?_ ?_ <;> (intro hg; simp only [hg]; simp [b0, b3, b8, b9, b12, w5, w6, hb', hx, hy, c1, c2, hjs, rg_cells, rg_fold, rg_setPart, he, hne, swp_buf])) | (apply awp_cond_t; focus (simp [b0, b3, b8, b9, b12, w5, w6, hb', hx, hy, c1, c2, hjs, rg_cells, rg_fold, rg_setPart, he, hne, swp_buf]; done)) | (apply awp_cond_f; focus (simp [b0, b3, b8, b9, b12, w5, w6, hb', hx, hy, c1, c2, hjs, rg_cells, rg_fold, rg_setPart, he, hne, swp_buf]; done)) | (refine awp_cond ?_; simp [b0, b3, b8, b9, b12, w5, w6, hb', hx, hy, c1, c2, hjs, rg_cells, rg_fold, rg_setPart, he, hne, swp_buf]; refine ⟨?_, ?_⟩ <;> intro hc))
        refine (key _ (by simp [bufOf, hb'])).mono ?_
        rintro _ τ2 ⟨rfl, rfl⟩
        (try (first | (with_reducible refine dops_go ?_; simp [b0, b3, b8, b9, b12, w5]) | (with_reducible refine OKv_go ?_; simp [b0, b3, b8, b9, b12, w5]) | (with_reducible refine OKr_go ?_; simp [b0, b3, b8, b9, b12, w5]))); repeat' (first | refine awp_seq ?_ | refine awp_block ?_ | (refine awp_skip ?_; try simp) | (refine awp_exit ?_; try simp) | (refine awp_ret ?_; try simp) | (refine retP_same (by simp) ?_; simp) | (refine retP_flat (by simp) (by simp) (by simp [b0, b3, b8, b9, b12, w5]) ?_; simp) | (refine awp_reg ?_; simp [b0, b3, b8, b9, b12, w5]) | (refine awp_drawT (fun _ => false) mixed (by decide +kernel) ?_; simp [b0, b3, b8, b9, b12, w5]) | (refine guarded_split ?_ ?_ <;> (intro hg; simp only [hg]; simp [b0, b3, b8, b9, b12, w5])) | (apply awp_cond_t; focus (simp [b0, b3, b8, b9, b12, w5]; done)) | (apply awp_cond_f; focus (simp [b0, b3, b8, b9, b12, w5]; done)) | (refine awp_cond ?_; simp [b0, b3, b8, b9, b12, w5]; refine ⟨?_, ?_⟩ <;> intro hc))
        exact ⟨n, by omega, rfl, Sort.siftDown (ltOf c) n a 0 (Sort.swp e a fk), by rw [sd_size', swp_size', he], by omega, by rw [← hpop1, hpop], ⟨⟨_, hτ'⟩, rfl⟩, hτσ'⟩
    | zero =>
      (try (first | (with_reducible refine dops_go ?_; simp [b0, b3, b8, b9, b12]) | (with_reducible refine OKv_go ?_; simp [b0, b3, b8, b9, b12]) | (with_reducible refine OKr_go ?_; simp [b0, b3, b8, b9, b12]))); repeat' (first | refine awp_seq ?_ | refine awp_block ?_ | (refine awp_skip ?_; try simp) | (refine awp_exit ?_; try simp) | (refine awp_ret ?_; try simp) | (refine retP_same (by simp) ?_; simp) | (refine retP_flat (by simp) (by simp) (by simp [b0, b3, b8, b9, b12]) ?_; simp) | (refine awp_reg ?_; simp [b0, b3, b8, b9, b12]) | (refine awp_drawT (fun _ => false) mixed (by decide +kernel) ?_; simp [b0, b3, b8, b9, b12]) | (refine guarded_split ?_ ?_ <;> (intro hg; simp only [hg]; simp [b0, b3, b8, b9, b12])) | (apply awp_cond_t; focus (simp [b0, b3, b8, b9, b12]; done)) | (apply awp_cond_f; focus (simp [b0, b3, b8, b9, b12]; done)) | (refine awp_cond ?_; simp [b0, b3, b8, b9, b12]; refine ⟨?_, ?_⟩ <;> intro hc))
      refine retK_of (x := .tup []) (.inl rfl) (by simp) ⟨rfl, ?_⟩
      rw [← hτσ', set_set, ← hpop]
      exact (set_same hτ').symm
end Go.Proofs.Ytajikhpjjbohaaa.Av

/- Sorting, part 4: reversing; partitions. -/
namespace Go.Proofs.Ytajikhpjjbohaaa.Av
open Go
set_option linter.unusedSimpArgs false
set_option linter.unusedVariables false
set_option maxRecDepth 100000
set_option pp.maxSteps 300

theorem reverse_calls {g : FuncId} {j : Id} (hjs : j.sz = 2) {d : Array Rg} {a b : Nat} (hab : a < b) (hb : b ≤ d.size) (hsz : d.size < 2 ^ 40) {σ : St} (hj : σ.m j = some (bufOf d)) :
    ACalls Try.prog 56 [.rs j 0 d.size, .raw (.int .i64 a), .raw (.int .i64 b), .fn (.func g) [] []] σ fun r τ => r = .tup [] ∧ τ = σ.set j (bufOf (Sort.reverseRange d a b)) := by
  refine abody Try.func56 rfl (N := 34) rfl rfl (by simp) ?_
  have w1 : IntKind.i64.wrap ((b : Int) - 1) = ((b - 1 : Nat) : Int) := by rw [wrap64 (by omega) (by omega)]; omega
  (try (first | (with_reducible refine dops_go ?_; simp [w1]) | (with_reducible refine OKv_go ?_; simp [w1]) | (with_reducible refine OKr_go ?_; simp [w1]))); repeat' (first | refine awp_seq ?_ | refine awp_block ?_ | (refine awp_skip ?_; try simp) | (refine awp_exit ?_; try simp) | (refine awp_ret ?_; try simp) | (refine retP_same (by simp) ?_; simp) | (refine retP_flat (by simp) (by simp) (by simp [w1]) ?_; simp) | (refine awp_reg ?_; simp [w1]) | (refine awp_drawT (fun _ => false) mixed (by decide +kernel) ?_; simp [w1]) | (refine guarded_split ?_ ?_ <;> (intro hg; simp only [hg]; simp [w1])) | (apply awp_cond_t; focus (simp [w1]; done)) | (apply awp_cond_f; focus (simp [w1]; done)) | (refine awp_cond ?_; simp [w1]; refine ⟨?_, ?_⟩ <;> intro hc))
  refine awp_loop (fun n A τ => A 0 = .rs j 0 d.size ∧ ∃ (i l : Nat) (d' : Array Rg), A 8 = .raw (.int .i64 i) ∧ A 9 = .raw (.int .i64 l) ∧ n = l - i ∧ l < d.size ∧ d'.size = d.size ∧
    Sort.reverseLoop i l d' = Sort.reverseRange d a b ∧ τ.m j = some (bufOf d') ∧ τ.set j (bufOf d) = σ) (b - 1 - a) ?_ ?_
  · simp
    exact ⟨a, rfl, b - 1, rfl, rfl, by omega, d, rfl, rfl, hj, set_same hj⟩
  rintro n A τ ⟨a0, i, l, d', a8, a9, hn, hl, hd', hins, hτ, hτσ⟩
  have hb' : τ.m j = some (.buf (d'.toList.map rgAV)) := hτ
  by_cases hil : i < l
  · have hx : d'[i]? = some d'[i]! := get_bang (by omega)
    have hy : d'[l]? = some d'[l]! := get_bang (by omega)
    have c1 : (i : Int) < d.size := by omega
    have c2 : (l : Int) < d.size := by omega
    have hne : ¬ i = l := by omega
    have w2 : IntKind.i64.wrap ((i : Int) + 1) = ((i + 1 : Nat) : Int) := by rw [wrap64 (by omega) (by omega)]; omega
    have w3 : IntKind.i64.wrap ((l : Int) - 1) = ((l - 1 : Nat) : Int) := by rw [wrap64 (by omega) (by omega)]; omega
    have hrev : Sort.reverseLoop i l d' = Sort.reverseLoop (i + 1) (l - 1) (Sort.swp d' i l) := by rw [Sort.reverseLoop, if_pos hil]
    generalize hi1 : i + 1 = i1 at *
    generalize hl1 : l - 1 = l1 at *
    (try (first | (with_reducible refine dops_go ?_; simp [a0, a8, a9, hil, hb', hx, hy, c1, c2, hne, hjs, rg_cells, rg_fold, rg_setPart, hd', swp_buf, w2, w3]) | (with_reducible refine OKv_go ?_; simp [a0, a8, a9, hil, hb', hx, hy, c1, c2, hne, hjs, rg_cells, rg_fold, rg_setPart, hd', swp_buf, w2, w3]) | (with_reducible refine OKr_go ?_; simp [a0, a8, a9, hil, hb', hx, hy, c1, c2, hne, hjs, rg_cells, rg_fold, rg_setPart, hd', swp_buf, w2, w3]))); repeat' (first | refine awp_seq ?_ | refine awp_block ?_ | (refine awp_skip ?_; try simp) | (refine awp_exit ?_; try simp) | (refine awp_ret ?_; try simp) | (refine retP_same (by simp) ?_; simp) | (refine retP_flat (by simp) (by simp) (by simp [a0, a8, a9, hil, hb', hx, hy, c1, c2, hne, hjs, rg_cells, rg_fold, rg_setPart, hd', swp_buf, w2, w3]) ?_; simp) | (refine awp_reg ?_; simp [a0, a8, a9, hil, hb', hx, hy, c1, c2, hne, hjs, rg_cells, rg_fold, rg_setPart, hd', swp_buf, w2, w3]) | (refine awp_drawT (fun _ => false) mixed (by decide +kernel) ?_; simp [a0, a8, a9, hil, hb', hx, hy, c1, c2, hne, hjs, rg_cells, rg_fold, rg_setPart, hd', swp_buf, w2, w3]) | (refine guarded_split ?_ ?_ <;> (intro hg; simp only [hg]; simp [a0, a8, a9, hil, hb', hx, hy, c1, c2, hne, hjs, rg_cells, rg_fold, rg_setPart, hd', swp_buf, w2, w3])) | (apply awp_cond_t; focus (simp [a0, a8, a9, hil, hb', hx, hy, c1, c2, hne, hjs, rg_cells, rg_fold, rg_setPart, hd', swp_buf, w2, w3]; done)) | (apply awp_cond_f; focus (simp [a0, a8, a9, hil, hb', hx, hy, c1, c2, hne, hjs, rg_cells, rg_fold, rg_setPart, hd', swp_buf, w2, w3]; done)) | (refine awp_cond ?_; simp [a0, a8, a9, hil, hb', hx, hy, c1, c2, hne, hjs, rg_cells, rg_fold, rg_setPart, hd', swp_buf, w2, w3]; refine ⟨?_, ?_⟩ <;> intro hc))
    exact ⟨l1 - i1, by omega, i1, rfl, l1, rfl, rfl, by omega, Sort.swp d' i l, by rw [swp_size', hd'], by rw [← hrev, hins], rfl, hτσ⟩
  · (try (first | (with_reducible refine dops_go ?_; simp [a0, a8, a9, hil]) | (with_reducible refine OKv_go ?_; simp [a0, a8, a9, hil]) | (with_reducible refine OKr_go ?_; simp [a0, a8, a9, hil]))); repeat' (first | refine awp_seq ?_ | refine awp_block ?_ | (refine awp_skip ?_; try simp) | (refine awp_exit ?_; try simp) | (refine awp_ret ?_; try simp) | (refine retP_same (by simp) ?_; simp) | (refine retP_flat (by simp) (by simp) (by simp [a0, a8, a9, hil]) ?_; simp) | (refine awp_reg ?_; simp [a0, a8, a9, hil]) | (refine awp_drawT (fun _ => false) mixed (by decide +kernel) ?_; simp [a0, a8, a9, hil]) | (refine guarded_split ?_ ?_ <;> (intro hg; simp only [hg]; simp [a0, a8, a9, hil])) | (apply awp_cond_t; focus (simp [a0, a8, a9, hil]; done)) | (apply awp_cond_f; focus (simp [a0, a8, a9, hil]; done)) | (refine awp_cond ?_; simp [a0, a8, a9, hil]; refine ⟨?_, ?_⟩ <;> intro hc))
    refine retK_of (x := .tup []) (.inl rfl) (by simp) ⟨rfl, ?_⟩
    rw [Sort.reverseLoop, if_neg hil] at hins
    rw [← hτσ, set_set, ← hins, set_same hτ]

theorem swp_comm_idx (d : Array Rg) (i j : Nat) (hi : i < d.size) (hj : j < d.size) : Sort.swp d i j = Sort.swp d j i := by
  by_cases h : i = j
  · subst h; rfl
  · simp only [Sort.swp]
    exact Array.setIfInBounds_comm _ _ h
/-- Two stores in a row, as a swap, be the two places one or two. -/
theorem swp_buf_any {d : Array Rg} {i j : Nat} (hi : i < d.size) : ∀ k, ((d.toList.map rgAV).set i (rgAV d[j]!))[k]? = if i = k then some (rgAV d[j]!) else (d[k]?).map rgAV := by
  intro k
  rw [List.getElem?_set]
  simp [hi]

/-- Where a scan stops. -/
theorem scanUp_le (p : Rg → Bool) (d : Array Rg) (j : Nat) : ∀ (n i : Nat), j + 1 - i ≤ n → i ≤ Sort.scanUp p d j i ∧ Sort.scanUp p d j i ≤ max i (j + 1) := by
  intro n
  induction n with
  | zero =>
    intro i h
    rw [Sort.scanUp]
    have : ¬ i ≤ j := by omega
    simp [this]
    omega
  | succ n ih =>
    intro i h
    rw [Sort.scanUp]
    split
    · rename_i hc
      simp at hc
      have := ih (i + 1) (by omega)
      omega
    · omega
theorem scanDown_le (p : Rg → Bool) (d : Array Rg) (i : Nat) : ∀ (j : Nat), Sort.scanDown p d i j ≤ j := by
  intro j
  induction j with
  | zero => simp [Sort.scanDown]
  | succ j ih =>
    rw [Sort.scanDown]
    split
    · omega
    · omega
end Go.Proofs.Ytajikhpjjbohaaa.Av

/- Sorting, part 5: partition. -/
namespace Go.Proofs.Ytajikhpjjbohaaa.Av
open Go
set_option linter.unusedSimpArgs false
set_option linter.unusedVariables false
set_option maxRecDepth 100000
set_option pp.maxSteps 150

theorem set_get (d : Array Rg) {i k : Nat} (hi : i < d.size) (hk : k < d.size) : ((d.toList.map rgAV).set i (rgAV d[k]!))[k]? = some (rgAV d[k]!) := by
  rw [swp_buf_any hi]
  split
  · rfl
  · rw [get_bang hk]; rfl
theorem scanUp_step {p : Rg → Bool} {d : Array Rg} {j i : Nat} (h : i ≤ j) : Sort.scanUp p d j i = if p d[i]! = true then Sort.scanUp p d j (i + 1) else i := by
  rw [Sort.scanUp]; simp [h]
theorem scanUp_end {p : Rg → Bool} {d : Array Rg} {j i : Nat} (h : ¬ i ≤ j) : Sort.scanUp p d j i = i := by
  rw [Sort.scanUp]; simp [h]
theorem scanDown_step {p : Rg → Bool} {d : Array Rg} {i j : Nat} (h : i ≤ j) (h0 : 0 < j) : Sort.scanDown p d i j = if p d[j]! = true then Sort.scanDown p d i (j - 1) else j := by
  obtain ⟨m, rfl⟩ : ∃ m, j = m + 1 := ⟨j - 1, by omega⟩
  rw [Sort.scanDown]; simp [h]
theorem scanDown_end {p : Rg → Bool} {d : Array Rg} {i j : Nat} (h : ¬ i ≤ j) : Sort.scanDown p d i j = j := by
  cases j with
  | zero => rfl
  | succ m => rw [Sort.scanDown]; simp [h]

def PR (o : Id) (d : Array Rg) (σ : St) (g : FuncId) (a : Nat) (e : Array Rg) (i j : Nat) (A : Env) (τ : St) : Prop :=
  τ.m o = some (bufOf e) ∧ τ.set o (bufOf d) = σ ∧ A 0 = .rs o 0 d.size ∧ A 1 = .raw (.int .i64 a) ∧ A 4 = .fn (.func g) [] [] ∧ A 12 = .raw (.int .i64 i) ∧ A 13 = .raw (.int .i64 j)
theorem partition_calls {g : FuncId} {c : Rg → Rg → Int} (hcc : Cmp g c) {o : Id} (hjs : o.sz = 2) {d : Array Rg} {a b pivot : Nat} (hap : a ≤ pivot) (hpb : pivot < b) (hb : b ≤ d.size) (hsz : d.size < 2 ^ 40) {σ : St} (hj : σ.m o = some (bufOf d)) :
    ACalls Try.prog 59 [.rs o 0 d.size, .raw (.int .i64 a), .raw (.int .i64 b), .raw (.int .i64 pivot), .fn (.func g) [] []] σ fun r τ =>
      r = .tup [.raw (.int .i64 (Sort.partition (ltOf c) d a b pivot).1), .raw (.bool (Sort.partition (ltOf c) d a b pivot).2.1)] ∧ τ = σ.set o (bufOf (Sort.partition (ltOf c) d a b pivot).2.2) := by
  refine abody Try.func59 rfl (N := 178) rfl rfl (by simp) ?_
  have hb' : σ.m o = some (.buf (d.toList.map rgAV)) := hj
  have hx : d[a]? = some d[a]! := get_bang (by omega)
  have hy : d[pivot]? = some d[pivot]! := get_bang (by omega)
  have hsw := set_get d (i := a) (k := pivot) (by omega) (by omega)
  have c1 : (a : Int) < d.size := by omega
  have c2 : (pivot : Int) < d.size := by omega
  have w1 : IntKind.i64.wrap ((a : Int) + 1) = ((a + 1 : Nat) : Int) := by rw [wrap64 (by omega) (by omega)]; omega
  have w2 : IntKind.i64.wrap ((b : Int) - 1) = ((b - 1 : Nat) : Int) := by rw [wrap64 (by omega) (by omega)]; omega
  obtain ⟨i0, hi0⟩ : ∃ i0, a + 1 = i0 := ⟨_, rfl⟩
  obtain ⟨j0, hj0⟩ : ∃ j0, b - 1 = j0 := ⟨_, rfl⟩
  rw [hi0] at w1
  rw [hj0] at w2
  (try (first | (with_reducible refine dops_go ?_; simp [hb', hx, hy, hsw, c1, c2, w1, w2, hjs, rg_cells, rg_fold, rg_setPart, swp_buf]) | (with_reducible refine OKv_go ?_; simp [hb', hx, hy, hsw, c1, c2, w1, w2, hjs, rg_cells, rg_fold, rg_setPart, swp_buf]) | (with_reducible refine OKr_go ?_; simp [hb', hx, hy, hsw, c1, c2, w1, w2, hjs, rg_cells, rg_fold, rg_setPart, swp_buf]))); repeat' (first | refine awp_seq ?_ | refine awp_block ?_ | (refine awp_skip ?_; try simp) | (refine awp_exit ?_; try simp) | (refine awp_ret ?_; try simp) | (refine retP_same (by simp) ?_; simp) | (refine retP_flat (by simp) (by simp) (by simp [hb', hx, hy, hsw, c1, c2, w1, w2, hjs, rg_cells, rg_fold, rg_setPart, swp_buf]) ?_; simp) | (refine awp_reg ?_; simp [hb', hx, hy, hsw, c1, c2, w1, w2, hjs, rg_cells, rg_fold, rg_setPart, swp_buf]) | (refine awp_drawT (fun _ => false) mixed (by decide +kernel) ?_; simp [hb', hx, hy, hsw, c1, c2, w1, w2, hjs, rg_cells, rg_fold, rg_setPart, swp_buf]) | (refine guarded_split ?_ ?_ <;> (intro hg; simp only [hg]; simp [hb', hx, hy, hsw, c1, c2, w1, w2, hjs, rg_cells, rg_fold, rg_setPart, swp_buf])) | (apply awp_cond_t; focus (simp [hb', hx, hy, hsw, c1, c2, w1, w2, hjs, rg_cells, rg_fold, rg_setPart, swp_buf]; done)) | (apply awp_cond_f; focus (simp [hb', hx, hy, hsw, c1, c2, w1, w2, hjs, rg_cells, rg_fold, rg_setPart, swp_buf]; done)) | (refine awp_cond ?_; simp [hb', hx, hy, hsw, c1, c2, w1, w2, hjs, rg_cells, rg_fold, rg_setPart, swp_buf]; refine ⟨?_, ?_⟩ <;> intro hc))
  obtain ⟨e, he⟩ : ∃ e, Sort.swp d a pivot = e := ⟨_, rfl⟩
  have hes : e.size = d.size := by rw [← he, swp_size']
  rw [he]
  obtain ⟨i2, hi2⟩ : ∃ i2, Sort.scanUp (fun x => ltOf c x e[a]!) e j0 i0 = i2 := ⟨_, rfl⟩
  obtain ⟨j2, hj2⟩ : ∃ j2, Sort.scanDown (fun x => !ltOf c x e[a]!) e i2 j0 = j2 := ⟨_, rfl⟩
  refine awp_block_cut (PR o d σ g a e i2 j0) ?_ ?_
  · refine awp_loop (fun n A τ => ∃ i, PR o d σ g a e i j0 A τ ∧ i0 ≤ i ∧ n = j0 + 1 - i ∧ Sort.scanUp (fun x => ltOf c x e[a]!) e j0 i = i2) (j0 + 1 - i0) ?_ ?_
    · exact ⟨i0, ⟨by simp [bufOf, hb'], by simp [bufOf]; exact set_same hj, by simp, by simp, by simp, by simp, by simp⟩, Nat.le_refl _, rfl, hi2⟩
    rintro n A τ ⟨i, ⟨ht, htσ, a0, a1, a4, a12, a13⟩, hii, hn, hsc⟩
    have ht' : τ.m o = some (.buf (e.toList.map rgAV)) := ht
    by_cases hij : i ≤ j0
    · have gx : e[i]? = some e[i]! := get_bang (by omega)
      have gy : e[a]? = some e[a]! := get_bang (by omega)
      have g1 : (i : Int) < d.size := by omega
      have g2 : (a : Int) < d.size := by omega
      have wi : IntKind.i64.wrap ((i : Int) + 1) = ((i + 1 : Nat) : Int) := by rw [wrap64 (by omega) (by omega)]; omega
      rw [scanUp_step hij] at hsc
      generalize hi1 : i + 1 = i1 at *
      (try (first | (with_reducible refine dops_go ?_; simp [a0, a1, a4, a12, a13, hij, ht', gx, gy, g1, g2, hjs, rg_cells, rg_fold, hes, wi]) | (with_reducible refine OKv_go ?_; simp [a0, a1, a4, a12, a13, hij, ht', gx, gy, g1, g2, hjs, rg_cells, rg_fold, hes, wi]) | (with_reducible refine OKr_go ?_; simp [a0, a1, a4, a12, a13, hij, ht', gx, gy, g1, g2, hjs, rg_cells, rg_fold, hes, wi]))); repeat' (first | refine awp_seq ?_ | refine awp_block ?_ | (refine awp_skip ?_; try simp) | (refine awp_exit ?_; try simp) | (refine awp_ret ?_; try simp) | (refine retP_same (by simp) ?_; simp) | (refine retP_flat (by simp) (by simp) (by simp [a0, a1, a4, a12, a13, hij, ht', gx, gy, g1, g2, hjs, rg_cells, rg_fold, hes, wi]) ?_; simp) | (refine awp_reg ?_; simp [a0, a1, a4, a12, a13, hij, ht', gx, gy, g1, g2, hjs, rg_cells, rg_fold, hes, wi]) | (refine awp_drawT (fun _ => false) mixed (by decide +kernel) ?_; simp [a0, a1, a4, a12, a13, hij, ht', gx, gy, g1, g2, hjs, rg_cells, rg_fold, hes, wi]) | (refine guarded_split ?_ ?_ <;> (intro hg; simp only [hg]; simp [a0, a1, a4, a12, a13, hij, ht', gx, gy, g1, g2, hjs, rg_cells, rg_fold, hes, wi])) | (apply awp_cond_t; focus (simp [a0, a1, a4, a12, a13, hij, ht', gx, gy, g1, g2, hjs, rg_cells, rg_fold, hes, wi]; done)) | (apply awp_cond_f; focus (simp [a0, a1, a4, a12, a13, hij, ht', gx, gy, g1, g2, hjs, rg_cells, rg_fold, hes, wi]; done)) | (refine awp_cond ?_; simp [a0, a1, a4, a12, a13, hij, ht', gx, gy, g1, g2, hjs, rg_cells, rg_fold, hes, wi]; refine ⟨?_, ?_⟩ <;> intro hc))
      refine PCalls.use (hcc.calls _ _) ?_
      (try (first | (with_reducible refine dops_go ?_; simp [a0, a1, a4, a12, a13, hij, ht', gx, gy, g1, g2, hjs, rg_cells, rg_fold, hes, wi]) | (with_reducible refine OKv_go ?_; simp [a0, a1, a4, a12, a13, hij, ht', gx, gy, g1, g2, hjs, rg_cells, rg_fold, hes, wi]) | (with_reducible refine OKr_go ?_; simp [a0, a1, a4, a12, a13, hij, ht', gx, gy, g1, g2, hjs, rg_cells, rg_fold, hes, wi]))); repeat' (first | refine awp_seq ?_ | refine awp_block ?_ | (refine awp_skip ?_; try simp) | (refine awp_exit ?_; try simp) | (refine awp_ret ?_; try simp) | (refine retP_same (by simp) ?_; simp) | (refine retP_flat (by simp) (by simp) (by simp [a0, a1, a4, a12, a13, hij, ht', gx, gy, g1, g2, hjs, rg_cells, rg_fold, hes, wi]) ?_; simp) | (refine awp_reg ?_; simp [a0, a1, a4, a12, a13, hij, ht', gx, gy, g1, g2, hjs, rg_cells, rg_fold, hes, wi]) | (refine awp_drawT (fun _ => false) mixed (by decide +kernel) ?_; simp [a0, a1, a4, a12, a13, hij, ht', gx, gy, g1, g2, hjs, rg_cells, rg_fold, hes, wi]) | (refine guarded_split ?_ ?_ <;> (intro hg; simp only [hg]; simp [a0, a1, a4, a12, a13, hij, ht', gx, gy, g1, g2, hjs, rg_cells, rg_fold, hes, wi])) | (apply awp_cond_t; focus (simp [a0, a1, a4, a12, a13, hij, ht', gx, gy, g1, g2, hjs, rg_cells, rg_fold, hes, wi]; done)) | (apply awp_cond_f; focus (simp [a0, a1, a4, a12, a13, hij, ht', gx, gy, g1, g2, hjs, rg_cells, rg_fold, hes, wi]; done)) | (refine awp_cond ?_; simp [a0, a1, a4, a12, a13, hij, ht', gx, gy, g1, g2, hjs, rg_cells, rg_fold, hes, wi]; refine ⟨?_, ?_⟩ <;> intro hc))
      · rw [if_pos (by simp [ltOf]; omega)] at hsc
        exact ⟨j0 + 1 - i1, by omega, i1, ⟨ht, htσ, by simp [a0], by simp [a1], by simp [a4], by simp [a12], by simp [a13]⟩, by omega, rfl, hsc⟩
      · rw [if_neg (by simp [ltOf]; omega)] at hsc
        rw [← hsc]
        exact ⟨ht, htσ, by simp [a0], by simp [a1], by simp [a4], by simp [a12], by simp [a13]⟩
    · (try (first | (with_reducible refine dops_go ?_; simp [a0, a1, a4, a12, a13, hij]) | (with_reducible refine OKv_go ?_; simp [a0, a1, a4, a12, a13, hij]) | (with_reducible refine OKr_go ?_; simp [a0, a1, a4, a12, a13, hij]))); repeat' (first | refine awp_seq ?_ | refine awp_block ?_ | (refine awp_skip ?_; try simp) | (refine awp_exit ?_; try simp) | (refine awp_ret ?_; try simp) | (refine retP_same (by simp) ?_; simp) | (refine retP_flat (by simp) (by simp) (by simp [a0, a1, a4, a12, a13, hij]) ?_; simp) | (refine awp_reg ?_; simp [a0, a1, a4, a12, a13, hij]) | (refine awp_drawT (fun _ => false) mixed (by decide +kernel) ?_; simp [a0, a1, a4, a12, a13, hij]) | (refine guarded_split ?_ ?_ <;> (intro hg; simp only [hg]; simp [a0, a1, a4, a12, a13, hij])) | (apply awp_cond_t; focus (simp [a0, a1, a4, a12, a13, hij]; done)) | (apply awp_cond_f; focus (simp [a0, a1, a4, a12, a13, hij]; done)) | (refine awp_cond ?_; simp [a0, a1, a4, a12, a13, hij]; refine ⟨?_, ?_⟩ <;> intro hc))
      rw [scanUp_end hij] at hsc
      rw [← hsc]
      exact ⟨ht, htσ, by simp [a0], by simp [a1], by simp [a4], by simp [a12], by simp [a13]⟩
  rintro A τ ⟨ht, htσ, a0, a1, a4, a12, a13⟩
  have hi2r := scanUp_le (fun x => ltOf c x e[a]!) e j0 _ i0 (Nat.le_refl _)
  rw [hi2] at hi2r
  (try (first | (with_reducible refine dops_go ?_; simp [a0, a1, a4, a12, a13]) | (with_reducible refine OKv_go ?_; simp [a0, a1, a4, a12, a13]) | (with_reducible refine OKr_go ?_; simp [a0, a1, a4, a12, a13]))); repeat' (first | refine awp_seq ?_ | refine awp_block ?_ | (refine awp_skip ?_; try simp) | (refine awp_exit ?_; try simp) | (refine awp_ret ?_; try simp) | (refine retP_same (by simp) ?_; simp) | (refine retP_flat (by simp) (by simp) (by simp [a0, a1, a4, a12, a13]) ?_; simp) | (refine awp_reg ?_; simp [a0, a1, a4, a12, a13]) | (refine awp_drawT (fun _ => false) mixed (by decide +kernel) ?_; simp [a0, a1, a4, a12, a13]) | (refine guarded_split ?_ ?_ <;> (intro hg; simp only [hg]; simp [a0, a1, a4, a12, a13])) | (apply awp_cond_t; focus (simp [a0, a1, a4, a12, a13]; done)) | (apply awp_cond_f; focus (simp [a0, a1, a4, a12, a13]; done)) | (refine awp_cond ?_; simp [a0, a1, a4, a12, a13]; refine ⟨?_, ?_⟩ <;> intro hc))
  refine awp_block_cut (PR o d σ g a e i2 j2) ?_ ?_
  · refine awp_loop (fun n A τ => ∃ j, PR o d σ g a e i2 j A τ ∧ j ≤ j0 ∧ n = j ∧ Sort.scanDown (fun x => !ltOf c x e[a]!) e i2 j = j2) j0 ?_ ?_
    · exact ⟨j0, ⟨ht, htσ, by simp [a0], by simp [a1], by simp [a4], by simp [a12], by simp [a13]⟩, Nat.le_refl _, rfl, hj2⟩
    rintro n A τ ⟨j, ⟨ht, htσ, a0, a1, a4, a12, a13⟩, hjj, hn, hsc⟩
    have ht' : τ.m o = some (.buf (e.toList.map rgAV)) := ht
    by_cases hij : i2 ≤ j
    · have gx : e[j]? = some e[j]! := get_bang (by omega)
      have gy : e[a]? = some e[a]! := get_bang (by omega)
      have g1 : (j : Int) < d.size := by omega
      have g2 : (a : Int) < d.size := by omega
      have wi : IntKind.i64.wrap ((j : Int) - 1) = ((j - 1 : Nat) : Int) := by rw [wrap64 (by omega) (by omega)]; omega
      rw [scanDown_step hij (by omega)] at hsc
      generalize hj1 : j - 1 = j1 at *
      (try (first | (with_reducible refine dops_go ?_; simp [a0, a1, a4, a12, a13, hij, ht', gx, gy, g1, g2, hjs, rg_cells, rg_fold, hes, wi]) | (with_reducible refine OKv_go ?_; simp [a0, a1, a4, a12, a13, hij, ht', gx, gy, g1, g2, hjs, rg_cells, rg_fold, hes, wi]) | (with_reducible refine OKr_go ?_; simp [a0, a1, a4, a12, a13, hij, ht', gx, gy, g1, g2, hjs, rg_cells, rg_fold, hes, wi]))); repeat' (first | refine awp_seq ?_ | refine awp_block ?_ | (refine awp_skip ?_; try simp) | (refine awp_exit ?_; try simp) | (refine awp_ret ?_; try simp) | (refine retP_same (by simp) ?_; simp) | (refine retP_flat (by simp) (by simp) (by simp [a0, a1, a4, a12, a13, hij, ht', gx, gy, g1, g2, hjs, rg_cells, rg_fold, hes, wi]) ?_; simp) | (refine awp_reg ?_; simp [a0, a1, a4, a12, a13, hij, ht', gx, gy, g1, g2, hjs, rg_cells, rg_fold, hes, wi]) | (refine awp_drawT (fun _ => false) mixed (by decide +kernel) ?_; simp [a0, a1, a4, a12, a13, hij, ht', gx, gy, g1, g2, hjs, rg_cells, rg_fold, hes, wi]) | (refine guarded_split ?_ ?_ <;> (intro hg; simp only [hg]; simp [a0, a1, a4, a12, a13, hij, ht', gx, gy, g1, g2, hjs, rg_cells, rg_fold, hes, wi])) | (apply awp_cond_t; focus (simp [a0, a1, a4, a12, a13, hij, ht', gx, gy, g1, g2, hjs, rg_cells, rg_fold, hes, wi]; done)) | (apply awp_cond_f; focus (simp [a0, a1, a4, a12, a13, hij, ht', gx, gy, g1, g2, hjs, rg_cells, rg_fold, hes, wi]; done)) | (refine awp_cond ?_; simp [a0, a1, a4, a12, a13, hij, ht', gx, gy, g1, g2, hjs, rg_cells, rg_fold, hes, wi]; refine ⟨?_, ?_⟩ <;> intro hc))
      refine PCalls.use (hcc.calls _ _) ?_
      (try (first | (with_reducible refine dops_go ?_; simp [a0, a1, a4, a12, a13, hij, ht', gx, gy, g1, g2, hjs, rg_cells, rg_fold, hes, wi]) | (with_reducible refine OKv_go ?_; simp [a0, a1, a4, a12, a13, hij, ht', gx, gy, g1, g2, hjs, rg_cells, rg_fold, hes, wi]) | (with_reducible refine OKr_go ?_; simp [a0, a1, a4, a12, a13, hij, ht', gx, gy, g1, g2, hjs, rg_cells, rg_fold, hes, wi]))); repeat' (first | refine awp_seq ?_ | refine awp_block ?_ | (refine awp_skip ?_; try simp) | (refine awp_exit ?_; try simp) | (refine awp_ret ?_; try simp) | (refine retP_same (by simp) ?_; simp) | (refine retP_flat (by simp) (by simp) (by simp [a0, a1, a4, a12, a13, hij, ht', gx, gy, g1, g2, hjs, rg_cells, rg_fold, hes, wi]) ?_; simp) | (refine awp_reg ?_; simp [a0, a1, a4, a12, a13, hij, ht', gx, gy, g1, g2, hjs, rg_cells, rg_fold, hes, wi]) | (refine awp_drawT (fun _ => false) mixed (by decide +kernel) ?_; simp [a0, a1, a4, a12, a13, hij, ht', gx, gy, g1, g2, hjs, rg_cells, rg_fold, hes, wi]) | (refine guarded_split ?_ ?_ <;> (intro hg; simp only [hg]; simp [a0, a1, a4, a12, a13, hij, ht', gx, gy, g1, g2, hjs, rg_cells, rg_fold, hes, wi])) | (apply awp_cond_t; focus (simp [a0, a1, a4, a12, a13, hij, ht', gx, gy, g1, g2, hjs, rg_cells, rg_fold, hes, wi]; done)) | (apply awp_cond_f; focus (simp [a0, a1, a4, a12, a13, hij, ht', gx, gy, g1, g2, hjs, rg_cells, rg_fold, hes, wi]; done)) | (refine awp_cond ?_; simp [a0, a1, a4, a12, a13, hij, ht', gx, gy, g1, g2, hjs, rg_cells, rg_fold, hes, wi]; refine ⟨?_, ?_⟩ <;> intro hc))
      · rw [if_pos (by simp [ltOf]; omega)] at hsc
        exact ⟨j1, by omega, j1, ⟨ht, htσ, by simp [a0], by simp [a1], by simp [a4], by simp [a12], by simp [a13]⟩, by omega, rfl, hsc⟩
      · rw [if_neg (by simp [ltOf]; omega)] at hsc
        rw [← hsc]
        exact ⟨ht, htσ, by simp [a0], by simp [a1], by simp [a4], by simp [a12], by simp [a13]⟩
    · (try (first | (with_reducible refine dops_go ?_; simp [a0, a1, a4, a12, a13, hij]) | (with_reducible refine OKv_go ?_; simp [a0, a1, a4, a12, a13, hij]) | (with_reducible refine OKr_go ?_; simp [a0, a1, a4, a12, a13, hij]))); repeat' (first | refine awp_seq ?_ | refine awp_block ?_ | (refine awp_skip ?_; try simp) | (refine awp_exit ?_; try simp) | (refine awp_ret ?_; try simp) | (refine retP_same (by simp) ?_; simp) | (refine retP_flat (by simp) (by simp) (by simp [a0, a1, a4, a12, a13, hij]) ?_; simp) | (refine awp_reg ?_; simp [a0, a1, a4, a12, a13, hij]) | (refine awp_drawT (fun _ => false) mixed (by decide +kernel) ?_; simp [a0, a1, a4, a12, a13, hij]) | (refine guarded_split ?_ ?_ <;> (intro hg; simp only [hg]; simp [a0, a1, a4, a12, a13, hij])) | (apply awp_cond_t; focus (simp [a0, a1, a4, a12, a13, hij]; done)) | (apply awp_cond_f; focus (simp [a0, a1, a4, a12, a13, hij]; done)) | (refine awp_cond ?_; simp [a0, a1, a4, a12, a13, hij]; refine ⟨?_, ?_⟩ <;> intro hc))
      rw [scanDown_end hij] at hsc
      rw [← hsc]
      exact ⟨ht, htσ, by simp [a0], by simp [a1], by simp [a4], by simp [a12], by simp [a13]⟩
  rintro A τ ⟨ht, htσ, a0, a1, a4, a12, a13⟩
  have hj2r := scanDown_le (fun x => !ltOf c x e[a]!) e i2 j0
  rw [hj2] at hj2r
  have ht' : τ.m o = some (.buf (e.toList.map rgAV)) := ht
  have hpart : Sort.partition (ltOf c) d a b pivot = if i2 > j2 then (j2, true, Sort.swp e j2 a) else ((Sort.partLoop (ltOf c) a (i2 + 1) (j2 - 1) (Sort.swp e i2 j2)).1, false, Sort.swp (Sort.partLoop (ltOf c) a (i2 + 1) (j2 - 1) (Sort.swp e i2 j2)).2 (Sort.partLoop (ltOf c) a (i2 + 1) (j2 - 1) (Sort.swp e i2 j2)).1 a) := by
    simp only [Sort.partition, he, hi0, hj0, hi2, hj2]
  have gx : e[a]? = some e[a]! := get_bang (by omega)
  have gy : e[j2]? = some e[j2]! := get_bang (by omega)
  have g1 : (a : Int) < d.size := by omega
  have g2 : (j2 : Int) < d.size := by omega
  by_cases hgt : j2 < i2
  · have hsw2 := set_get e (i := j2) (k := a) (by omega) (by omega)
    (try (first | (with_reducible refine dops_go ?_; simp [a0, a1, a4, a12, a13, hgt, ht', gx, gy, g1, g2, hsw2, hjs, rg_cells, rg_fold, rg_setPart, swp_buf, hes]) | (with_reducible refine OKv_go ?_; simp [a0, a1, a4, a12, a13, hgt, ht', gx, gy, g1, g2, hsw2, hjs, rg_cells, rg_fold, rg_setPart, swp_buf, hes]) | (with_reducible refine OKr_go ?_; simp [a0, a1, a4, a12, a13, hgt, ht', gx, gy, g1, g2, hsw2, hjs, rg_cells, rg_fold, rg_setPart, swp_buf, hes]))); repeat' (first | refine awp_seq ?_ | refine awp_block ?_ | (refine awp_skip ?_; try simp) | (refine awp_exit ?_; try simp) | (refine awp_ret ?_; try simp) | (refine retP_same (by simp) ?_; simp) | (refine retP_flat (by simp) (by simp) (by simp [a0, a1, a4, a12, a13, hgt, ht', gx, gy, g1, g2, hsw2, hjs, rg_cells, rg_fold, rg_setPart, swp_buf, hes]) ?_; simp) | (refine awp_reg ?_; simp [a0, a1, a4, a12, a13, hgt, ht', gx, gy, g1, g2, hsw2, hjs, rg_cells, rg_fold, rg_setPart, swp_buf, hes]) | (refine awp_drawT (fun _ => false) mixed (by decide +kernel) ?_; simp [a0, a1, a4, a12, a13, hgt, ht', gx, gy, g1, g2, hsw2, hjs, rg_cells, rg_fold, rg_setPart, swp_buf, hes]) | (refine guarded_split ?_ ?_ <;> (intro hg; simp only [hg]; simp [a0, a1, a4, a12, a13, hgt, ht', gx, gy, g1, g2, hsw2, hjs, rg_cells, rg_fold, rg_setPart, swp_buf, hes])) | (apply awp_cond_t; focus (simp [a0, a1, a4, a12, a13, hgt, ht', gx, gy, g1, g2, hsw2, hjs, rg_cells, rg_fold, rg_setPart, swp_buf, hes]; done)) | (apply awp_cond_f; focus (simp [a0, a1, a4, a12, a13, hgt, ht', gx, gy, g1, g2, hsw2, hjs, rg_cells, rg_fold, rg_setPart, swp_buf, hes]; done)) | (refine awp_cond ?_; simp [a0, a1, a4, a12, a13, hgt, ht', gx, gy, g1, g2, hsw2, hjs, rg_cells, rg_fold, rg_setPart, swp_buf, hes]; refine ⟨?_, ?_⟩ <;> intro hc))
    refine retK_of (x := .tup [.raw (.int .i64 j2), .raw (.bool true)]) (.inr rfl) (by simp) ?_
    rw [hpart, if_pos hgt]
    refine ⟨rfl, ?_⟩
    rw [← htσ, set_set]; rfl
  · have g3 : (i2 : Int) < d.size := by omega
    have gz : e[i2]? = some e[i2]! := get_bang (by omega)
    have hsw2 := set_get e (i := i2) (k := j2) (by omega) (by omega)
    have w3 : IntKind.i64.wrap ((i2 : Int) + 1) = ((i2 + 1 : Nat) : Int) := by rw [wrap64 (by omega) (by omega)]; omega
    have w4 : IntKind.i64.wrap ((j2 : Int) - 1) = ((j2 - 1 : Nat) : Int) := by rw [wrap64 (by omega) (by omega)]; omega
    obtain ⟨i3, hi3⟩ : ∃ i3, i2 + 1 = i3 := ⟨_, rfl⟩
    obtain ⟨j3, hj3⟩ : ∃ j3, j2 - 1 = j3 := ⟨_, rfl⟩
    obtain ⟨e1, he1⟩ : ∃ e1, Sort.swp e i2 j2 = e1 := ⟨_, rfl⟩
    have hes1 : e1.size = d.size := by rw [← he1, swp_size', hes]
    rw [hi3, hj3, he1] at hpart
    rw [if_neg (by omega)] at hpart
    rw [hi3] at w3
    rw [hj3] at w4
    (try (first | (with_reducible refine dops_go ?_; simp [a0, a1, a4, a12, a13, hgt, ht', gx, gy, gz, g1, g2, g3, hsw2, hjs, rg_cells, rg_fold, rg_setPart, swp_buf, hes, w3, w4, he1]) | (with_reducible refine OKv_go ?_; simp [a0, a1, a4, a12, a13, hgt, ht', gx, gy, gz, g1, g2, g3, hsw2, hjs, rg_cells, rg_fold, rg_setPart, swp_buf, hes, w3, w4, he1]) | (with_reducible refine OKr_go ?_; simp [a0, a1, a4, a12, a13, hgt, ht', gx, gy, gz, g1, g2, g3, hsw2, hjs, rg_cells, rg_fold, rg_setPart, swp_buf, hes, w3, w4, he1]))); repeat' (first | refine awp_seq ?_ | refine awp_block ?_ | (refine awp_skip ?_; try simp) | (refine awp_exit ?_; try simp) | (refine awp_ret ?_; try simp) | (refine retP_same (by simp) ?_; simp) | (refine retP_flat (by simp) (by simp) (by simp [a0, a1, a4, a12, a13, hgt, ht', gx, gy, gz, g1, g2, g3, hsw2, hjs, rg_cells, rg_fold, rg_setPart, swp_buf, hes, w3, w4, he1]) ?_; simp) | (refine awp_reg ?_; simp [a0, a1, a4, a12, a13, hgt, ht', gx, gy, gz, g1, g2, g3, hsw2, hjs, rg_cells, rg_fold, rg_setPart, swp_buf, hes, w3, w4, he1]) | (refine awp_drawT (fun _ => false) mixed (by decide +kernel) ?_; simp [a0, a1, a4, a12, a13, hgt, ht', gx, gy, gz, g1, g2, g3, hsw2, hjs, rg_cells, rg_fold, rg_setPart, swp_buf, hes, w3, w4, he1]) | (refine guarded_split ?_ ?_ <;> (intro hg; simp only [hg]; simp [a0, a1, a4, a12, a13, hgt, ht', gx, gy, gz, g1, g2, g3, hsw2, hjs, rg_cells, rg_fold, rg_setPart, swp_buf, hes, w3, w4, he1])) | (apply awp_cond_t; focus (simp [a0, a1, a4, a12, a13, hgt, ht', gx, gy, gz, g1, g2, g3, hsw2, hjs, rg_cells, rg_fold, rg_setPart, swp_buf, hes, w3, w4, he1]; done)) | (apply awp_cond_f; focus (simp [a0, a1, a4, a12, a13, hgt, ht', gx, gy, gz, g1, g2, g3, hsw2, hjs, rg_cells, rg_fold, rg_setPart, swp_buf, hes, w3, w4, he1]; done)) | (refine awp_cond ?_; simp [a0, a1, a4, a12, a13, hgt, ht', gx, gy, gz, g1, g2, g3, hsw2, hjs, rg_cells, rg_fold, rg_setPart, swp_buf, hes, w3, w4, he1]; refine ⟨?_, ?_⟩ <;> intro hc))
    obtain ⟨jf, ef, hpl⟩ : ∃ jf ef, Sort.partLoop (ltOf c) a i3 j3 e1 = (jf, ef) := ⟨_, _, rfl⟩
    rw [hpl] at hpart
    refine awp_block_cut (fun A τ => ∃ i', PR o d σ g a ef i' jf A τ ∧ ef.size = d.size ∧ jf < d.size) ?_ ?_
    · refine awp_loop (fun n A τ => ∃ e' ia ja, PR o d σ g a e' ia ja A τ ∧ e'.size = d.size ∧ 1 ≤ ia ∧ ja < d.size ∧ n = ja + 1 - ia ∧ Sort.partLoop (ltOf c) a ia ja e' = (jf, ef)) (j3 + 1 - i3) ?_ ?_
      · exact ⟨e1, i3, j3, ⟨by simp [bufOf, ht'], by simp [bufOf]; exact htσ, by simp [a0], by simp [a1], by simp [a4], by simp, by simp⟩, hes1, by omega, by omega, rfl, hpl⟩
      rintro n0 A τ ⟨e', ia, ja, ⟨ht, htσ, a0, a1, a4, a12, a13⟩, hes', hia, hja, hn0, hpl'⟩
      obtain ⟨k2, hk2⟩ : ∃ k2, Sort.scanUp (fun x => ltOf c x e'[a]!) e' ja ia = k2 := ⟨_, rfl⟩
      obtain ⟨l2, hl2⟩ : ∃ l2, Sort.scanDown (fun x => !ltOf c x e'[a]!) e' k2 ja = l2 := ⟨_, rfl⟩
      have hk2r := scanUp_le (fun x => ltOf c x e'[a]!) e' ja _ ia (Nat.le_refl _)
      rw [hk2] at hk2r
      have hl2r := scanDown_le (fun x => !ltOf c x e'[a]!) e' k2 ja
      rw [hl2] at hl2r
      (try (first | (with_reducible refine dops_go ?_; simp [a0, a1, a4, a12, a13]) | (with_reducible refine OKv_go ?_; simp [a0, a1, a4, a12, a13]) | (with_reducible refine OKr_go ?_; simp [a0, a1, a4, a12, a13]))); repeat' (first | refine awp_seq ?_ | refine awp_block ?_ | (refine awp_skip ?_; try simp) | (refine awp_exit ?_; try simp) | (refine awp_ret ?_; try simp) | (refine retP_same (by simp) ?_; simp) | (refine retP_flat (by simp) (by simp) (by simp [a0, a1, a4, a12, a13]) ?_; simp) | (refine awp_reg ?_; simp [a0, a1, a4, a12, a13]) | (refine awp_drawT (fun _ => false) mixed (by decide +kernel) ?_; simp [a0, a1, a4, a12, a13]) | (refine guarded_split ?_ ?_ <;> (intro hg; simp only [hg]; simp [a0, a1, a4, a12, a13])) | (apply awp_cond_t; focus (simp [a0, a1, a4, a12, a13]; done)) | (apply awp_cond_f; focus (simp [a0, a1, a4, a12, a13]; done)) | (refine awp_cond ?_; simp [a0, a1, a4, a12, a13]; refine ⟨?_, ?_⟩ <;> intro hc))
      refine awp_block_cut (PR o d σ g a e' k2 ja) ?_ ?_
      · refine awp_loop (fun n A τ => ∃ i, PR o d σ g a e' i ja A τ ∧ ia ≤ i ∧ n = ja + 1 - i ∧ Sort.scanUp (fun x => ltOf c x e'[a]!) e' ja i = k2) (ja + 1 - ia) ?_ ?_
        · exact ⟨ia, ⟨ht, htσ, by simp [a0], by simp [a1], by simp [a4], by simp [a12], by simp [a13]⟩, Nat.le_refl _, rfl, hk2⟩
        rintro n A τ ⟨i, ⟨ht, htσ, a0, a1, a4, a12, a13⟩, hii, hn, hsc⟩
        have ht' : τ.m o = some (.buf (e'.toList.map rgAV)) := ht
        by_cases hij : i ≤ ja
        · have gx : e'[i]? = some e'[i]! := get_bang (by omega)
          have gy : e'[a]? = some e'[a]! := get_bang (by omega)
          have g1 : (i : Int) < d.size := by omega
          have g2 : (a : Int) < d.size := by omega
          have wi : IntKind.i64.wrap ((i : Int) + 1) = ((i + 1 : Nat) : Int) := by rw [wrap64 (by omega) (by omega)]; omega
          rw [scanUp_step hij] at hsc
          generalize hi1 : i + 1 = i1 at *
          (try (first | (with_reducible refine dops_go ?_; simp [a0, a1, a4, a12, a13, hij, ht', gx, gy, g1, g2, hjs, rg_cells, rg_fold, hes', wi]) | (with_reducible refine OKv_go ?_; simp [a0, a1, a4, a12, a13, hij, ht', gx, gy, g1, g2, hjs, rg_cells, rg_fold, hes', wi]) | (with_reducible refine OKr_go ?_; simp [a0, a1, a4, a12, a13, hij, ht', gx, gy, g1, g2, hjs, rg_cells, rg_fold, hes', wi]))); repeat' (first | refine awp_seq ?_ | refine awp_block ?_ | (refine awp_skip ?_; try simp) | (refine awp_exit ?_; try simp) | (refine awp_ret ?_; try simp) | (refine retP_same (by simp) ?_; simp) | (refine retP_flat (by simp) (by simp) (by simp [a0, a1, a4, a12, a13, hij, ht', gx, gy, g1, g2, hjs, rg_cells, rg_fold, hes', wi]) ?_; simp) | (refine awp_reg ?_; simp [a0, a1, a4, a12, a13, hij, ht', gx, gy, g1, g2, hjs, rg_cells, rg_fold, hes', wi]) | (refine awp_drawT (fun _ => false) mixed (by decide +kernel) ?_; simp [a0, a1, a4, a12, a13, hij, ht', gx, gy, g1, g2, hjs, rg_cells, rg_fold, hes', wi]) | (refine guarded_split ?_ ?_ <;> (intro hg; simp only [hg]; simp [a0, a1, a4, a12, a13, hij, ht', gx, gy, g1, g2, hjs, rg_cells, rg_fold, hes', wi])) | (apply awp_cond_t; focus (simp [a0, a1, a4, a12, a13, hij, ht', gx, gy, g1, g2, hjs, rg_cells, rg_fold, hes', wi]; done)) | (apply awp_cond_f; focus (simp [a0, a1, a4, a12, a13, hij, ht', gx, gy, g1, g2, hjs, rg_cells, rg_fold, hes', wi]; done)) | (refine awp_cond ?_; simp [a0, a1, a4, a12, a13, hij, ht', gx, gy, g1, g2, hjs, rg_cells, rg_fold, hes', wi]; refine ⟨?_, ?_⟩ <;> intro hc))
          refine PCalls.use (hcc.calls _ _) ?_
          (try (first | (with_reducible refine dops_go ?_; simp [a0, a1, a4, a12, a13, hij, ht', gx, gy, g1, g2, hjs, rg_cells, rg_fold, hes', wi]) | (with_reducible refine OKv_go ?_; simp [a0, a1, a4, a12, a13, hij, ht', gx, gy, g1, g2, hjs, rg_cells, rg_fold, hes', wi]) | (with_reducible refine OKr_go ?_; simp [a0, a1, a4, a12, a13, hij, ht', gx, gy, g1, g2, hjs, rg_cells, rg_fold, hes', wi]))); repeat' (first | refine awp_seq ?_ | refine awp_block ?_ | (refine awp_skip ?_; try simp) | (refine awp_exit ?_; try simp) | (refine awp_ret ?_; try simp) | (refine retP_same (by simp) ?_; simp) | (refine retP_flat (by simp) (by simp) (by simp [a0, a1, a4, a12, a13, hij, ht', gx, gy, g1, g2, hjs, rg_cells, rg_fold, hes', wi]) ?_; simp) | (refine awp_reg ?_; simp [a0, a1, a4, a12, a13, hij, ht', gx, gy, g1, g2, hjs, rg_cells, rg_fold, hes', wi]) | (refine awp_drawT (fun _ => false) mixed (by decide +kernel) ?_; simp [a0, a1, a4, a12, a13, hij, ht', gx, gy, g1, g2, hjs, rg_cells, rg_fold, hes', wi]) | (refine guarded_split ?_ ?_ <;> (intro hg; simp only [hg]; simp [a0, a1, a4, a12, a13, hij, ht', gx, gy, g1, g2, hjs, rg_cells, rg_fold, hes', wi])) | (apply awp_cond_t; focus (simp [a0, a1, a4, a12, a13, hij, ht', gx, gy, g1, g2, hjs, rg_cells, rg_fold, hes', wi]; done)) | (apply awp_cond_f; focus (simp [a0, a1, a4, a12, a13, hij, ht', gx, gy, g1, g2, hjs, rg_cells, rg_fold, hes', wi]; done)) | (refine awp_cond ?_; simp [a0, a1, a4, a12, a13, hij, ht', gx, gy, g1, g2, hjs, rg_cells, rg_fold, hes', wi]; refine ⟨?_, ?_⟩ <;> intro hc))
          · rw [if_pos (by simp [ltOf]; omega)] at hsc
            exact ⟨ja + 1 - i1, by omega, i1, ⟨ht, htσ, by simp [a0], by simp [a1], by simp [a4], by simp [a12], by simp [a13]⟩, by omega, rfl, hsc⟩
          · rw [if_neg (by simp [ltOf]; omega)] at hsc
            rw [← hsc]
            exact ⟨ht, htσ, by simp [a0], by simp [a1], by simp [a4], by simp [a12], by simp [a13]⟩
        · (try (first | (with_reducible refine dops_go ?_; simp [a0, a1, a4, a12, a13, hij]) | (with_reducible refine OKv_go ?_; simp [a0, a1, a4, a12, a13, hij]) | (with_reducible refine OKr_go ?_; simp [a0, a1, a4, a12, a13, hij]))); repeat' (first | refine awp_seq ?_ | refine awp_block ?_ | (refine awp_skip ?_; try simp) | (refine awp_exit ?_; try simp) | (refine awp_ret ?_; try simp) | (refine retP_same (by simp) ?_; simp) | (refine retP_flat (by simp) (by simp) (by simp [a0, a1, a4, a12, a13, hij]) ?_; simp) | (refine awp_reg ?_; simp [a0, a1, a4, a12, a13, hij]) | (refine awp_drawT (fun _ => false) mixed (by decide +kernel) ?_; simp [a0, a1, a4, a12, a13, hij]) | (refine guarded_split ?_ ?_ <;> (intro hg; simp only [hg]; simp [a0, a1, a4, a12, a13, hij])) | (apply awp_cond_t; focus (simp [a0, a1, a4, a12, a13, hij]; done)) | (apply awp_cond_f; focus (simp [a0, a1, a4, a12, a13, hij]; done)) | (refine awp_cond ?_; simp [a0, a1, a4, a12, a13, hij]; refine ⟨?_, ?_⟩ <;> intro hc))
          rw [scanUp_end hij] at hsc
          rw [← hsc]
          exact ⟨ht, htσ, by simp [a0], by simp [a1], by simp [a4], by simp [a12], by simp [a13]⟩
      rintro A τ ⟨ht, htσ, a0, a1, a4, a12, a13⟩
      (try (first | (with_reducible refine dops_go ?_; simp [a0, a1, a4, a12, a13]) | (with_reducible refine OKv_go ?_; simp [a0, a1, a4, a12, a13]) | (with_reducible refine OKr_go ?_; simp [a0, a1, a4, a12, a13]))); repeat' (first | refine awp_seq ?_ | refine awp_block ?_ | (refine awp_skip ?_; try simp) | (refine awp_exit ?_; try simp) | (refine awp_ret ?_; try simp) | (refine retP_same (by simp) ?_; simp) | (refine retP_flat (by simp) (by simp) (by simp [a0, a1, a4, a12, a13]) ?_; simp) | (refine awp_reg ?_; simp [a0, a1, a4, a12, a13]) | (refine awp_drawT (fun _ => false) mixed (by decide +kernel) ?_; simp [a0, a1, a4, a12, a13]) | (refine guarded_split ?_ ?_ <;> (intro hg; simp only [hg]; simp [a0, a1, a4, a12, a13])) | (apply awp_cond_t; focus (simp [a0, a1, a4, a12, a13]; done)) | (apply awp_cond_f; focus (simp [a0, a1, a4, a12, a13]; done)) | (refine awp_cond ?_; simp [a0, a1, a4, a12, a13]; refine ⟨?_, ?_⟩ <;> intro hc))
      refine awp_block_cut (PR o d σ g a e' k2 l2) ?_ ?_
      · refine awp_loop (fun n A τ => ∃ j, PR o d σ g a e' k2 j A τ ∧ j ≤ ja ∧ n = j ∧ Sort.scanDown (fun x => !ltOf c x e'[a]!) e' k2 j = l2) ja ?_ ?_
        · exact ⟨ja, ⟨ht, htσ, by simp [a0], by simp [a1], by simp [a4], by simp [a12], by simp [a13]⟩, Nat.le_refl _, rfl, hl2⟩
        rintro n A τ ⟨j, ⟨ht, htσ, a0, a1, a4, a12, a13⟩, hjj, hn, hsc⟩
        have ht' : τ.m o = some (.buf (e'.toList.map rgAV)) := ht
        by_cases hij : k2 ≤ j
        · have gx : e'[j]? = some e'[j]! := get_bang (by omega)
          have gy : e'[a]? = some e'[a]! := get_bang (by omega)
          have g1 : (j : Int) < d.size := by omega
          have g2 : (a : Int) < d.size := by omega
          have wi : IntKind.i64.wrap ((j : Int) - 1) = ((j - 1 : Nat) : Int) := by rw [wrap64 (by omega) (by omega)]; omega
          rw [scanDown_step hij (by omega)] at hsc
          generalize hj1 : j - 1 = j1 at *
          (try (first | (with_reducible refine dops_go ?_; simp [a0, a1, a4, a12, a13, hij, ht', gx, gy, g1, g2, hjs, rg_cells, rg_fold, hes', wi]) | (with_reducible refine OKv_go ?_; simp [a0, a1, a4, a12, a13, hij, ht', gx, gy, g1, g2, hjs, rg_cells, rg_fold, hes', wi]) | (with_reducible refine OKr_go ?_; simp [a0, a1, a4, a12, a13, hij, ht', gx, gy, g1, g2, hjs, rg_cells, rg_fold, hes', wi]))); repeat' (first | refine awp_seq ?_ | refine awp_block ?_ | (refine awp_skip ?_; try simp) | (refine awp_exit ?_; try simp) | (refine awp_ret ?_; try simp) | (refine retP_same (by simp) ?_; simp) | (refine retP_flat (by simp) (by simp) (by simp [a0, a1, a4, a12, a13, hij, ht', gx, gy, g1, g2, hjs, rg_cells, rg_fold, hes', wi]) ?_; simp) | (refine awp_reg ?_; simp [a0, a1, a4, a12, a13, hij, ht', gx, gy, g1, g2, hjs, rg_cells, rg_fold, hes', wi]) | (refine awp_drawT (fun _ => false) mixed (by decide +kernel) ?_; simp [a0, a1, a4, a12, a13, hij, ht', gx, gy, g1, g2, hjs, rg_cells, rg_fold, hes', wi]) | (refine guarded_split ?_ ?_ <;> (intro hg; simp only [hg]; simp [a0, a1, a4, a12, a13, hij, ht', gx, gy, g1, g2, hjs, rg_cells, rg_fold, hes', wi])) | (apply awp_cond_t; focus (simp [a0, a1, a4, a12, a13, hij, ht', gx, gy, g1, g2, hjs, rg_cells, rg_fold, hes', wi]; done)) | (apply awp_cond_f; focus (simp [a0, a1, a4, a12, a13, hij, ht', gx, gy, g1, g2, hjs, rg_cells, rg_fold, hes', wi]; done)) | (refine awp_cond ?_; simp [a0, a1, a4, a12, a13, hij, ht', gx, gy, g1, g2, hjs, rg_cells, rg_fold, hes', wi]; refine ⟨?_, ?_⟩ <;> intro hc))
          refine PCalls.use (hcc.calls _ _) ?_
          (try (first | (with_reducible refine dops_go ?_; simp [a0, a1, a4, a12, a13, hij, ht', gx, gy, g1, g2, hjs, rg_cells, rg_fold, hes', wi]) | (with_reducible refine OKv_go ?_; simp [a0, a1, a4, a12, a13, hij, ht', gx, gy, g1, g2, hjs, rg_cells, rg_fold, hes', wi]) | (with_reducible refine OKr_go ?_; simp [a0, a1, a4, a12, a13, hij, ht', gx, gy, g1, g2, hjs, rg_cells, rg_fold, hes', wi]))); repeat' (first | refine awp_seq ?_ | refine awp_block ?_ | (refine awp_skip ?_; try simp) | (refine awp_exit ?_; try simp) | (refine awp_ret ?_; try simp) | (refine retP_same (by simp) ?_; simp) | (refine retP_flat (by simp) (by simp) (by simp [a0, a1, a4, a12, a13, hij, ht', gx, gy, g1, g2, hjs, rg_cells, rg_fold, hes', wi]) ?_; simp) | (refine awp_reg ?_; simp [a0, a1, a4, a12, a13, hij, ht', gx, gy, g1, g2, hjs, rg_cells, rg_fold, hes', wi]) | (refine awp_drawT (fun _ => false) mixed (by decide +kernel) ?_; simp [a0, a1, a4, a12, a13, hij, ht', gx, gy, g1, g2, hjs, rg_cells, rg_fold, hes', wi]) | (refine guarded_split ?_ ?_ <;> (intro hg; simp only [hg]; simp [a0, a1, a4, a12, a13, hij, ht', gx, gy, g1, g2, hjs, rg_cells, rg_fold, hes', wi])) | (apply awp_cond_t; focus (simp [a0, a1, a4, a12, a13, hij, ht', gx, gy, g1, g2, hjs, rg_cells, rg_fold, hes', wi]; done)) | (apply awp_cond_f; focus (simp [a0, a1, a4, a12, a13, hij, ht', gx, gy, g1, g2, hjs, rg_cells, rg_fold, hes', wi]; done)) | (refine awp_cond ?_; simp [a0, a1, a4, a12, a13, hij, ht', gx, gy, g1, g2, hjs, rg_cells, rg_fold, hes', wi]; refine ⟨?_, ?_⟩ <;> intro hc))
          · rw [if_pos (by simp [ltOf]; omega)] at hsc
            exact ⟨j1, by omega, j1, ⟨ht, htσ, by simp [a0], by simp [a1], by simp [a4], by simp [a12], by simp [a13]⟩, by omega, rfl, hsc⟩
          · rw [if_neg (by simp [ltOf]; omega)] at hsc
            rw [← hsc]
            exact ⟨ht, htσ, by simp [a0], by simp [a1], by simp [a4], by simp [a12], by simp [a13]⟩
        · (try (first | (with_reducible refine dops_go ?_; simp [a0, a1, a4, a12, a13, hij]) | (with_reducible refine OKv_go ?_; simp [a0, a1, a4, a12, a13, hij]) | (with_reducible refine OKr_go ?_; simp [a0, a1, a4, a12, a13, hij]))); repeat' (first | refine awp_seq ?_ | refine awp_block ?_ | (refine awp_skip ?_; try simp) | (refine awp_exit ?_; try simp) | (refine awp_ret ?_; try simp) | (refine retP_same (by simp) ?_; simp) | (refine retP_flat (by simp) (by simp) (by simp [a0, a1, a4, a12, a13, hij]) ?_; simp) | (refine awp_reg ?_; simp [a0, a1, a4, a12, a13, hij]) | (refine awp_drawT (fun _ => false) mixed (by decide +kernel) ?_; simp [a0, a1, a4, a12, a13, hij]) | (refine guarded_split ?_ ?_ <;> (intro hg; simp only [hg]; simp [a0, a1, a4, a12, a13, hij])) | (apply awp_cond_t; focus (simp [a0, a1, a4, a12, a13, hij]; done)) | (apply awp_cond_f; focus (simp [a0, a1, a4, a12, a13, hij]; done)) | (refine awp_cond ?_; simp [a0, a1, a4, a12, a13, hij]; refine ⟨?_, ?_⟩ <;> intro hc))
          rw [scanDown_end hij] at hsc
          rw [← hsc]
          exact ⟨ht, htσ, by simp [a0], by simp [a1], by simp [a4], by simp [a12], by simp [a13]⟩
      rintro A τ ⟨ht, htσ, a0, a1, a4, a12, a13⟩
      have hpl1 : Sort.partLoop (ltOf c) a ia ja e' = if k2 > l2 then (l2, e') else Sort.partLoop (ltOf c) a (k2 + 1) (l2 - 1) (Sort.swp e' k2 l2) := by
        rw [Sort.partLoop]
        simp only [hk2, hl2]
        split
        · rfl
        · rw [dif_pos (by omega)]
      by_cases hgt2 : l2 < k2
      · rw [hpl1, if_pos hgt2] at hpl'
        injection hpl' with q1 q2
        subst q1 q2
        (try (first | (with_reducible refine dops_go ?_; simp [a0, a1, a4, a12, a13, hgt2]) | (with_reducible refine OKv_go ?_; simp [a0, a1, a4, a12, a13, hgt2]) | (with_reducible refine OKr_go ?_; simp [a0, a1, a4, a12, a13, hgt2]))); repeat' (first | refine awp_seq ?_ | refine awp_block ?_ | (refine awp_skip ?_; try simp) | (refine awp_exit ?_; try simp) | (refine awp_ret ?_; try simp) | (refine retP_same (by simp) ?_; simp) | (refine retP_flat (by simp) (by simp) (by simp [a0, a1, a4, a12, a13, hgt2]) ?_; simp) | (refine awp_reg ?_; simp [a0, a1, a4, a12, a13, hgt2]) | (refine awp_drawT (fun _ => false) mixed (by decide +kernel) ?_; simp [a0, a1, a4, a12, a13, hgt2]) | (refine guarded_split ?_ ?_ <;> (intro hg; simp only [hg]; simp [a0, a1, a4, a12, a13, hgt2])) | (apply awp_cond_t; focus (simp [a0, a1, a4, a12, a13, hgt2]; done)) | (apply awp_cond_f; focus (simp [a0, a1, a4, a12, a13, hgt2]; done)) | (refine awp_cond ?_; simp [a0, a1, a4, a12, a13, hgt2]; refine ⟨?_, ?_⟩ <;> intro hc))
        exact ⟨⟨k2, ht, htσ, by simp [a0], by simp [a1], by simp [a4], by simp [a12], by simp [a13]⟩, hes', by omega⟩
      · rw [hpl1, if_neg (by omega)] at hpl'
        have ht' : τ.m o = some (.buf (e'.toList.map rgAV)) := ht
        have gx : e'[k2]? = some e'[k2]! := get_bang (by omega)
        have gy : e'[l2]? = some e'[l2]! := get_bang (by omega)
        have g4 : (k2 : Int) < d.size := by omega
        have g5 : (l2 : Int) < d.size := by omega
        have hsw3 := set_get e' (i := k2) (k := l2) (by omega) (by omega)
        have w5 : IntKind.i64.wrap ((k2 : Int) + 1) = ((k2 + 1 : Nat) : Int) := by rw [wrap64 (by omega) (by omega)]; omega
        have w6 : IntKind.i64.wrap ((l2 : Int) - 1) = ((l2 - 1 : Nat) : Int) := by rw [wrap64 (by omega) (by omega)]; omega
        obtain ⟨k3, hk3⟩ : ∃ k3, k2 + 1 = k3 := ⟨_, rfl⟩
        obtain ⟨l3, hl3⟩ : ∃ l3, l2 - 1 = l3 := ⟨_, rfl⟩
        rw [hk3] at w5 hpl'
        rw [hl3] at w6 hpl'
        (try (first | (with_reducible refine dops_go ?_; simp [a0, a1, a4, a12, a13, hgt2, ht', gx, gy, g4, g5, hsw3, hjs, rg_cells, rg_fold, rg_setPart, swp_buf, hes', w5, w6]) | (with_reducible refine OKv_go ?_; simp [a0, a1, a4, a12, a13, hgt2, ht', gx, gy, g4, g5, hsw3, hjs, rg_cells, rg_fold, rg_setPart, swp_buf, hes', w5, w6]) | (with_reducible refine OKr_go ?_; simp [a0, a1, a4, a12, a13, hgt2, ht', gx, gy, g4, g5, hsw3, hjs, rg_cells, rg_fold, rg_setPart, swp_buf, hes', w5, w6]))); repeat' (first | refine awp_seq ?_ | refine awp_block ?_ | (refine awp_skip ?_; try simp) | (refine awp_exit ?_; try simp) | (refine awp_ret ?_; try simp) | (refine retP_same (by simp) ?_; simp) | (refine retP_flat (by simp) (by simp) (by simp [a0, a1, a4, a12, a13, hgt2, ht', gx, gy, g4, g5, hsw3, hjs, rg_cells, rg_fold, rg_setPart, swp_buf, hes', w5, w6]) ?_; simp) | (refine awp_reg ?_; simp [a0, a1, a4, a12, a13, hgt2, ht', gx, gy, g4, g5, hsw3, hjs, rg_cells, rg_fold, rg_setPart, swp_buf, hes', w5, w6]) | (refine awp_drawT (fun _ => false) mixed (by decide +kernel) ?_; simp [a0, a1, a4, a12, a13, hgt2, ht', gx, gy, g4, g5, hsw3, hjs, rg_cells, rg_fold, rg_setPart, swp_buf, hes', w5, w6]) | (refine guarded_split ?_ ?_ <;> (intro hg; simp only [hg]; simp [a0, a1, a4, a12, a13, hgt2, ht', gx, gy, g4, g5, hsw3, hjs, rg_cells, rg_fold, rg_setPart, swp_buf, hes', w5, w6])) | (apply awp_cond_t; focus (simp [a0, a1, a4, a12, a13, hgt2, ht', gx, gy, g4, g5, hsw3, hjs, rg_cells, rg_fold, rg_setPart, swp_buf, hes', w5, w6]; done)) | (apply awp_cond_f; focus (simp [a0, a1, a4, a12, a13, hgt2, ht', gx, gy, g4, g5, hsw3, hjs, rg_cells, rg_fold, rg_setPart, swp_buf, hes', w5, w6]; done)) | (refine awp_cond ?_; simp [a0, a1, a4, a12, a13, hgt2, ht', gx, gy, g4, g5, hsw3, hjs, rg_cells, rg_fold, rg_setPart, swp_buf, hes', w5, w6]; refine ⟨?_, ?_⟩ <;> intro hc))
        exact ⟨l3 + 1 - k3, by omega, Sort.swp e' k2 l2, k3, l3, ⟨by simp [bufOf, ht'], by simp [bufOf]; exact htσ, by simp [a0], by simp [a1], by simp [a4], by simp, by simp⟩, by rw [swp_size', hes'], by omega, by omega, rfl, hpl'⟩
    · rintro A τ ⟨i', ⟨ht, htσ, a0, a1, a4, a12, a13⟩, hef, hjf⟩
      have ht' : τ.m o = some (.buf (ef.toList.map rgAV)) := ht
      have gx : ef[a]? = some ef[a]! := get_bang (by omega)
      have gy : ef[jf]? = some ef[jf]! := get_bang (by omega)
      have g4 : (jf : Int) < d.size := by omega
      have hsw3 := set_get ef (i := jf) (k := a) (by omega) (by omega)
      (try (first | (with_reducible refine dops_go ?_; simp [a0, a1, a4, a12, a13, ht', gx, gy, g1, g4, hsw3, hjs, rg_cells, rg_fold, rg_setPart, swp_buf, hef]) | (with_reducible refine OKv_go ?_; simp [a0, a1, a4, a12, a13, ht', gx, gy, g1, g4, hsw3, hjs, rg_cells, rg_fold, rg_setPart, swp_buf, hef]) | (with_reducible refine OKr_go ?_; simp [a0, a1, a4, a12, a13, ht', gx, gy, g1, g4, hsw3, hjs, rg_cells, rg_fold, rg_setPart, swp_buf, hef]))); repeat' (first | refine awp_seq ?_ | refine awp_block ?_ | (refine awp_skip ?_; try simp) | (refine awp_exit ?_; try simp) | (refine awp_ret ?_; try simp) | (refine retP_same (by simp) ?_; simp) | (refine retP_flat (by simp) (by simp) (by simp [a0, a1, a4, a12, a13, ht', gx, gy, g1, g4, hsw3, hjs, rg_cells, rg_fold, rg_setPart, swp_buf, hef]) ?_; simp) | (refine awp_reg ?_; simp [a0, a1, a4, a12, a13, ht', gx, gy, g1, g4, hsw3, hjs, rg_cells, rg_fold, rg_setPart, swp_buf, hef]) | (refine awp_drawT (fun _ => false) mixed (by decide +kernel) ?_; simp [a0, a1, a4, a12, a13, ht', gx, gy, g1, g4, hsw3, hjs, rg_cells, rg_fold, rg_setPart, swp_buf, hef]) | (refine guarded_split ?_ ?_ <;> (intro hg; simp only [hg]; simp [a0, a1, a4, a12, a13, ht', gx, gy, g1, g4, hsw3, hjs, rg_cells, rg_fold, rg_setPart, swp_buf, hef])) | (apply awp_cond_t; focus (simp [a0, a1, a4, a12, a13, ht', gx, gy, g1, g4, hsw3, hjs, rg_cells, rg_fold, rg_setPart, swp_buf, hef]; done)) | (apply awp_cond_f; focus (simp [a0, a1, a4, a12, a13, ht', gx, gy, g1, g4, hsw3, hjs, rg_cells, rg_fold, rg_setPart, swp_buf, hef]; done)) | (refine awp_cond ?_; simp [a0, a1, a4, a12, a13, ht', gx, gy, g1, g4, hsw3, hjs, rg_cells, rg_fold, rg_setPart, swp_buf, hef]; refine ⟨?_, ?_⟩ <;> intro hc))
      refine retK_of (x := .tup [.raw (.int .i64 jf), .raw (.bool false)]) (.inr rfl) (by simp) ?_
      rw [hpart]
      refine ⟨rfl, ?_⟩
      rw [← htσ, set_set]; rfl
end Go.Proofs.Ytajikhpjjbohaaa.Av

/- Sorting, part 6: partition of equal ones. -/
namespace Go.Proofs.Ytajikhpjjbohaaa.Av
open Go
set_option linter.unusedSimpArgs false
set_option linter.unusedVariables false
set_option maxRecDepth 100000
set_option pp.maxSteps 150

def PQ (o : Id) (d : Array Rg) (σ : St) (g : FuncId) (a : Nat) (e : Array Rg) (i j : Nat) (A : Env) (τ : St) : Prop :=
  τ.m o = some (bufOf e) ∧ τ.set o (bufOf d) = σ ∧ A 0 = .rs o 0 d.size ∧ A 1 = .raw (.int .i64 a) ∧ A 4 = .fn (.func g) [] [] ∧ A 11 = .raw (.int .i64 i) ∧ A 12 = .raw (.int .i64 j)
theorem partitionEqual_calls {g : FuncId} {c : Rg → Rg → Int} (hcc : Cmp g c) {o : Id} (hjs : o.sz = 2) {d : Array Rg} {a b pivot : Nat} (hap : a ≤ pivot) (hpb : pivot < b) (hb : b ≤ d.size) (hsz : d.size < 2 ^ 40) {σ : St} (hj : σ.m o = some (bufOf d)) :
    ACalls Try.prog 58 [.rs o 0 d.size, .raw (.int .i64 a), .raw (.int .i64 b), .raw (.int .i64 pivot), .fn (.func g) [] []] σ fun r τ =>
      r = .raw (.int .i64 (Sort.partitionEqual (ltOf c) d a b pivot).1) ∧ τ = σ.set o (bufOf (Sort.partitionEqual (ltOf c) d a b pivot).2) := by
  refine abody Try.func58 rfl (N := 90) rfl rfl (by simp) ?_
  have hb' : σ.m o = some (.buf (d.toList.map rgAV)) := hj
  have hx : d[a]? = some d[a]! := get_bang (by omega)
  have hy : d[pivot]? = some d[pivot]! := get_bang (by omega)
  have hsw := set_get d (i := a) (k := pivot) (by omega) (by omega)
  have c1 : (a : Int) < d.size := by omega
  have c2 : (pivot : Int) < d.size := by omega
  have w1 : IntKind.i64.wrap ((a : Int) + 1) = ((a + 1 : Nat) : Int) := by rw [wrap64 (by omega) (by omega)]; omega
  have w2 : IntKind.i64.wrap ((b : Int) - 1) = ((b - 1 : Nat) : Int) := by rw [wrap64 (by omega) (by omega)]; omega
  obtain ⟨i0, hi0⟩ : ∃ i0, a + 1 = i0 := ⟨_, rfl⟩
  obtain ⟨j0, hj0⟩ : ∃ j0, b - 1 = j0 := ⟨_, rfl⟩
  rw [hi0] at w1
  rw [hj0] at w2
  (try (first | (with_reducible refine dops_go ?_; simp [hb', hx, hy, hsw, c1, c2, w1, w2, hjs, rg_cells, rg_fold, rg_setPart, swp_buf]) | (with_reducible refine OKv_go ?_; simp [hb', hx, hy, hsw, c1, c2, w1, w2, hjs, rg_cells, rg_fold, rg_setPart, swp_buf]) | (with_reducible refine OKr_go ?_; simp [hb', hx, hy, hsw, c1, c2, w1, w2, hjs, rg_cells, rg_fold, rg_setPart, swp_buf]))); repeat' (first | refine awp_seq ?_ | refine awp_block ?_ | (refine awp_skip ?_; try simp) | (refine awp_exit ?_; try simp) | (refine awp_ret ?_; try simp) | (refine retP_same (by simp) ?_; simp) | (refine retP_flat (by simp) (by simp) (by simp [hb', hx, hy, hsw, c1, c2, w1, w2, hjs, rg_cells, rg_fold, rg_setPart, swp_buf]) ?_; simp) | (refine awp_reg ?_; simp [hb', hx, hy, hsw, c1, c2, w1, w2, hjs, rg_cells, rg_fold, rg_setPart, swp_buf]) | (refine awp_drawT (fun _ => false) mixed (by decide +kernel) ?_; simp [hb', hx, hy, hsw, c1, c2, w1, w2, hjs, rg_cells, rg_fold, rg_setPart, swp_buf]) | (refine guarded_split ?_ ?_ <;> (intro hg; simp only [hg]; simp [hb', hx, hy, hsw, c1, c2, w1, w2, hjs, rg_cells, rg_fold, rg_setPart, swp_buf])) | (apply awp_cond_t; focus (simp [hb', hx, hy, hsw, c1, c2, w1, w2, hjs, rg_cells, rg_fold, rg_setPart, swp_buf]; done)) | (apply awp_cond_f; focus (simp [hb', hx, hy, hsw, c1, c2, w1, w2, hjs, rg_cells, rg_fold, rg_setPart, swp_buf]; done)) | (refine awp_cond ?_; simp [hb', hx, hy, hsw, c1, c2, w1, w2, hjs, rg_cells, rg_fold, rg_setPart, swp_buf]; refine ⟨?_, ?_⟩ <;> intro hc))
  obtain ⟨e, he⟩ : ∃ e, Sort.swp d a pivot = e := ⟨_, rfl⟩
  have hes : e.size = d.size := by rw [← he, swp_size']
  rw [he]
  obtain ⟨jf, ef, hpl⟩ : ∃ jf ef, Sort.partEqLoop (ltOf c) a i0 j0 e = (jf, ef) := ⟨_, _, rfl⟩
  have hpart : Sort.partitionEqual (ltOf c) d a b pivot = (jf, ef) := by simp only [Sort.partitionEqual, he, hi0, hj0, hpl]
  rw [hpart]
  refine awp_block_cut (fun A τ => ∃ j', PQ o d σ g a ef jf j' A τ) ?_ ?_
  · refine awp_loop (fun n A τ => ∃ e' ia ja, PQ o d σ g a e' ia ja A τ ∧ e'.size = d.size ∧ 1 ≤ ia ∧ ja < d.size ∧ n = ja + 1 - ia ∧ Sort.partEqLoop (ltOf c) a ia ja e' = (jf, ef)) (j0 + 1 - i0) ?_ ?_
    · exact ⟨e, i0, j0, ⟨by simp [bufOf, hb'], by simp [bufOf]; exact set_same hj, by simp, by simp, by simp, by simp, by simp⟩, hes, by omega, by omega, rfl, hpl⟩
    rintro n0 A τ ⟨e', ia, ja, ⟨ht, htσ, a0, a1, a4, a12, a13⟩, hes', hia, hja, hn0, hpl'⟩
    obtain ⟨k2, hk2⟩ : ∃ k2, Sort.scanUp (fun x => !ltOf c e'[a]! x) e' ja ia = k2 := ⟨_, rfl⟩
    obtain ⟨l2, hl2⟩ : ∃ l2, Sort.scanDown (fun x => ltOf c e'[a]! x) e' k2 ja = l2 := ⟨_, rfl⟩
    have hk2r := scanUp_le (fun x => !ltOf c e'[a]! x) e' ja _ ia (Nat.le_refl _)
    rw [hk2] at hk2r
    have hl2r := scanDown_le (fun x => ltOf c e'[a]! x) e' k2 ja
    rw [hl2] at hl2r
    (try (first | (with_reducible refine dops_go ?_; simp [a0, a1, a4, a12, a13]) | (with_reducible refine OKv_go ?_; simp [a0, a1, a4, a12, a13]) | (with_reducible refine OKr_go ?_; simp [a0, a1, a4, a12, a13]))); repeat' (first | refine awp_seq ?_ | refine awp_block ?_ | (refine awp_skip ?_; try simp) | (refine awp_exit ?_; try simp) | (refine awp_ret ?_; try simp) | (refine retP_same (by simp) ?_; simp) | (refine retP_flat (by simp) (by simp) (by simp [a0, a1, a4, a12, a13]) ?_; simp) | (refine awp_reg ?_; simp [a0, a1, a4, a12, a13]) | (refine awp_drawT (fun _ => false) mixed (by decide +kernel) ?_; simp [a0, a1, a4, a12, a13]) | (refine guarded_split ?_ ?_ <;> (intro hg; simp only [hg]; simp [a0, a1, a4, a12, a13])) | (apply awp_cond_t; focus (simp [a0, a1, a4, a12, a13]; done)) | (apply awp_cond_f; focus (simp [a0, a1, a4, a12, a13]; done)) | (refine awp_cond ?_; simp [a0, a1, a4, a12, a13]; refine ⟨?_, ?_⟩ <;> intro hc))
    refine awp_block_cut (PQ o d σ g a e' k2 ja) ?_ ?_
    · refine awp_loop (fun n A τ => ∃ i, PQ o d σ g a e' i ja A τ ∧ ia ≤ i ∧ n = ja + 1 - i ∧ Sort.scanUp (fun x => !ltOf c e'[a]! x) e' ja i = k2) (ja + 1 - ia) ?_ ?_
      · exact ⟨ia, ⟨ht, htσ, by simp [a0], by simp [a1], by simp [a4], by simp [a12], by simp [a13]⟩, Nat.le_refl _, rfl, hk2⟩
      rintro n A τ ⟨i, ⟨ht, htσ, a0, a1, a4, a12, a13⟩, hii, hn, hsc⟩
      have ht' : τ.m o = some (.buf (e'.toList.map rgAV)) := ht
      by_cases hij : i ≤ ja
      · have gx : e'[i]? = some e'[i]! := get_bang (by omega)
        have gy : e'[a]? = some e'[a]! := get_bang (by omega)
        have g1 : (i : Int) < d.size := by omega
        have g2 : (a : Int) < d.size := by omega
        have wi : IntKind.i64.wrap ((i : Int) + 1) = ((i + 1 : Nat) : Int) := by rw [wrap64 (by omega) (by omega)]; omega
        rw [scanUp_step hij] at hsc
        generalize hi1 : i + 1 = i1 at *
        (try (first | (with_reducible refine dops_go ?_; simp [a0, a1, a4, a12, a13, hij, ht', gx, gy, g1, g2, hjs, rg_cells, rg_fold, hes', wi]) | (with_reducible refine OKv_go ?_; simp [a0, a1, a4, a12, a13, hij, ht', gx, gy, g1, g2, hjs, rg_cells, rg_fold, hes', wi]) | (with_reducible refine OKr_go ?_; simp [a0, a1, a4, a12, a13, hij, ht', gx, gy, g1, g2, hjs, rg_cells, rg_fold, hes', wi]))); repeat' (first | refine awp_seq ?_ | refine awp_block ?_ | (refine awp_skip ?_; try simp) | (refine awp_exit ?_; try simp) | (refine awp_ret ?_; try simp) | (refine retP_same (by simp) ?_; simp) | (refine retP_flat (by simp) (by simp) (by simp [a0, a1, a4, a12, a13, hij, ht', gx, gy, g1, g2, hjs, rg_cells, rg_fold, hes', wi]) ?_; simp) | (refine awp_reg ?_; simp [a0, a1, a4, a12, a13, hij, ht', gx, gy, g1, g2, hjs, rg_cells, rg_fold, hes', wi]) | (refine awp_drawT (fun _ => false) mixed (by decide +kernel) ?_; simp [a0, a1, a4, a12, a13, hij, ht', gx, gy, g1, g2, hjs, rg_cells, rg_fold, hes', wi]) | (refine guarded_split ?_ ?_ <;> (intro hg; simp only [hg]; simp [a0, a1, a4, a12, a13, hij, ht', gx, gy, g1, g2, hjs, rg_cells, rg_fold, hes', wi])) | (apply awp_cond_t; focus (simp [a0, a1, a4, a12, a13, hij, ht', gx, gy, g1, g2, hjs, rg_cells, rg_fold, hes', wi]; done)) | (apply awp_cond_f; focus (simp [a0, a1, a4, a12, a13, hij, ht', gx, gy, g1, g2, hjs, rg_cells, rg_fold, hes', wi]; done)) | (refine awp_cond ?_; simp [a0, a1, a4, a12, a13, hij, ht', gx, gy, g1, g2, hjs, rg_cells, rg_fold, hes', wi]; refine ⟨?_, ?_⟩ <;> intro hc))
        refine PCalls.use (hcc.calls _ _) ?_
        (try (first | (with_reducible refine dops_go ?_; simp [a0, a1, a4, a12, a13, hij, ht', gx, gy, g1, g2, hjs, rg_cells, rg_fold, hes', wi]) | (with_reducible refine OKv_go ?_; simp [a0, a1, a4, a12, a13, hij, ht', gx, gy, g1, g2, hjs, rg_cells, rg_fold, hes', wi]) | (with_reducible refine OKr_go ?_; simp [a0, a1, a4, a12, a13, hij, ht', gx, gy, g1, g2, hjs, rg_cells, rg_fold, hes', wi]))); repeat' (first | refine awp_seq ?_ | refine awp_block ?_ | (refine awp_skip ?_; try simp) | (refine awp_exit ?_; try simp) | (refine awp_ret ?_; try simp) | (refine retP_same (by simp) ?_; simp) | (refine retP_flat (by simp) (by simp) (by simp [a0, a1, a4, a12, a13, hij, ht', gx, gy, g1, g2, hjs, rg_cells, rg_fold, hes', wi]) ?_; simp) | (refine awp_reg ?_; simp [a0, a1, a4, a12, a13, hij, ht', gx, gy, g1, g2, hjs, rg_cells, rg_fold, hes', wi]) | (refine awp_drawT (fun _ => false) mixed (by decide +kernel) ?_; simp [a0, a1, a4, a12, a13, hij, ht', gx, gy, g1, g2, hjs, rg_cells, rg_fold, hes', wi]) | (refine guarded_split ?_ ?_ <;> (intro hg; simp only [hg]; simp [a0, a1, a4, a12, a13, hij, ht', gx, gy, g1, g2, hjs, rg_cells, rg_fold, hes', wi])) | (apply awp_cond_t; focus (simp [a0, a1, a4, a12, a13, hij, ht', gx, gy, g1, g2, hjs, rg_cells, rg_fold, hes', wi]; done)) | (apply awp_cond_f; focus (simp [a0, a1, a4, a12, a13, hij, ht', gx, gy, g1, g2, hjs, rg_cells, rg_fold, hes', wi]; done)) | (refine awp_cond ?_; simp [a0, a1, a4, a12, a13, hij, ht', gx, gy, g1, g2, hjs, rg_cells, rg_fold, hes', wi]; refine ⟨?_, ?_⟩ <;> intro hc))
        · rw [if_pos (by simp [ltOf]; omega)] at hsc
          exact ⟨ja + 1 - i1, by omega, i1, ⟨ht, htσ, by simp [a0], by simp [a1], by simp [a4], by simp [a12], by simp [a13]⟩, by omega, rfl, hsc⟩
        · rw [if_neg (by simp [ltOf]; omega)] at hsc
          rw [← hsc]
          exact ⟨ht, htσ, by simp [a0], by simp [a1], by simp [a4], by simp [a12], by simp [a13]⟩
      · (try (first | (with_reducible refine dops_go ?_; simp [a0, a1, a4, a12, a13, hij]) | (with_reducible refine OKv_go ?_; simp [a0, a1, a4, a12, a13, hij]) | (with_reducible refine OKr_go ?_; simp [a0, a1, a4, a12, a13, hij]))); repeat' (first | refine awp_seq ?_ | refine awp_block ?_ | (refine awp_skip ?_; try simp) | (refine awp_exit ?_; try simp) | (refine awp_ret ?_; try simp) | (refine retP_same (by simp) ?_; simp) | (refine retP_flat (by simp) (by simp) (by simp [a0, a1, a4, a12, a13, hij]) ?_; simp) | (refine awp_reg ?_; simp [a0, a1, a4, a12, a13, hij]) | (refine awp_drawT (fun _ => false) mixed (by decide +kernel) ?_; simp [a0, a1, a4, a12, a13, hij]) | (refine guarded_split ?_ ?_ <;> (intro hg; simp only [hg]; simp [a0, a1, a4, a12, a13, hij])) | (apply awp_cond_t; focus (simp [a0, a1, a4, a12, a13, hij]; done)) | (apply awp_cond_f; focus (simp [a0, a1, a4, a12, a13, hij]; done)) | (refine awp_cond ?_; simp [a0, a1, a4, a12, a13, hij]; refine ⟨?_, ?_⟩ <;> intro hc))
        rw [scanUp_end hij] at hsc
        rw [← hsc]
        exact ⟨ht, htσ, by simp [a0], by simp [a1], by simp [a4], by simp [a12], by simp [a13]⟩
    rintro A τ ⟨ht, htσ, a0, a1, a4, a12, a13⟩
    (try (first | (with_reducible refine dops_go ?_; simp [a0, a1, a4, a12, a13]) | (with_reducible refine OKv_go ?_; simp [a0, a1, a4, a12, a13]) | (with_reducible refine OKr_go ?_; simp [a0, a1, a4, a12, a13]))); repeat' (first | refine awp_seq ?_ | refine awp_block ?_ | (refine awp_skip ?_; try simp) | (refine awp_exit ?_; try simp) | (refine awp_ret ?_; try simp) | (refine retP_same (by simp) ?_; simp) | (refine retP_flat (by simp) (by simp) (by simp [a0, a1, a4, a12, a13]) ?_; simp) | (refine awp_reg ?_; simp [a0, a1, a4, a12, a13]) | (refine awp_drawT (fun _ => false) mixed (by decide +kernel) ?_; simp [a0, a1, a4, a12, a13]) | (refine guarded_split ?_ ?_ <;> (intro hg; simp only [hg]; simp [a0, a1, a4, a12, a13])) | (apply awp_cond_t; focus (simp [a0, a1, a4, a12, a13]; done)) | (apply awp_cond_f; focus (simp [a0, a1, a4, a12, a13]; done)) | (refine awp_cond ?_; simp [a0, a1, a4, a12, a13]; refine ⟨?_, ?_⟩ <;> intro hc))
    refine awp_block_cut (PQ o d σ g a e' k2 l2) ?_ ?_
    · refine awp_loop (fun n A τ => ∃ j, PQ o d σ g a e' k2 j A τ ∧ j ≤ ja ∧ n = j ∧ Sort.scanDown (fun x => ltOf c e'[a]! x) e' k2 j = l2) ja ?_ ?_
      · exact ⟨ja, ⟨ht, htσ, by simp [a0], by simp [a1], by simp [a4], by simp [a12], by simp [a13]⟩, Nat.le_refl _, rfl, hl2⟩
      rintro n A τ ⟨j, ⟨ht, htσ, a0, a1, a4, a12, a13⟩, hjj, hn, hsc⟩
      have ht' : τ.m o = some (.buf (e'.toList.map rgAV)) := ht
      by_cases hij : k2 ≤ j
      · have gx : e'[j]? = some e'[j]! := get_bang (by omega)
        have gy : e'[a]? = some e'[a]! := get_bang (by omega)
        have g1 : (j : Int) < d.size := by omega
        have g2 : (a : Int) < d.size := by omega
        have wi : IntKind.i64.wrap ((j : Int) - 1) = ((j - 1 : Nat) : Int) := by rw [wrap64 (by omega) (by omega)]; omega
        rw [scanDown_step hij (by omega)] at hsc
        generalize hj1 : j - 1 = j1 at *
        (try (first | (with_reducible refine dops_go ?_; simp [a0, a1, a4, a12, a13, hij, ht', gx, gy, g1, g2, hjs, rg_cells, rg_fold, hes', wi]) | (with_reducible refine OKv_go ?_; simp [a0, a1, a4, a12, a13, hij, ht', gx, gy, g1, g2, hjs, rg_cells, rg_fold, hes', wi]) | (with_reducible refine OKr_go ?_; simp [a0, a1, a4, a12, a13, hij, ht', gx, gy, g1, g2, hjs, rg_cells, rg_fold, hes', wi]))); repeat' (first | refine awp_seq ?_ | refine awp_block ?_ | (refine awp_skip ?_; try simp) | (refine awp_exit ?_; try simp) | (refine awp_ret ?_; try simp) | (refine retP_same (by simp) ?_; simp) | (refine retP_flat (by simp) (by simp) (by simp [a0, a1, a4, a12, a13, hij, ht', gx, gy, g1, g2, hjs, rg_cells, rg_fold, hes', wi]) ?_; simp) | (refine awp_reg ?_; simp [a0, a1, a4, a12, a13, hij, ht', gx, gy, g1, g2, hjs, rg_cells, rg_fold, hes', wi]) | (refine awp_drawT (fun _ => false) mixed (by decide +kernel) ?_; simp [a0, a1, a4, a12, a13, hij, ht', gx, gy, g1, g2, hjs, rg_cells, rg_fold, hes', wi]) | (refine guarded_split ?_ ?_ <;> (intro hg; simp only [hg]; simp [a0, a1, a4, a12, a13, hij, ht', gx, gy, g1, g2, hjs, rg_cells, rg_fold, hes', wi])) | (apply awp_cond_t; focus (simp [a0, a1, a4, a12, a13, hij, ht', gx, gy, g1, g2, hjs, rg_cells, rg_fold, hes', wi]; done)) | (apply awp_cond_f; focus (simp [a0, a1, a4, a12, a13, hij, ht', gx, gy, g1, g2, hjs, rg_cells, rg_fold, hes', wi]; done)) | (refine awp_cond ?_; simp [a0, a1, a4, a12, a13, hij, ht', gx, gy, g1, g2, hjs, rg_cells, rg_fold, hes', wi]; refine ⟨?_, ?_⟩ <;> intro hc))
        refine PCalls.use (hcc.calls _ _) ?_
        (try (first | (with_reducible refine dops_go ?_; simp [a0, a1, a4, a12, a13, hij, ht', gx, gy, g1, g2, hjs, rg_cells, rg_fold, hes', wi]) | (with_reducible refine OKv_go ?_; simp [a0, a1, a4, a12, a13, hij, ht', gx, gy, g1, g2, hjs, rg_cells, rg_fold, hes', wi]) | (with_reducible refine OKr_go ?_; simp [a0, a1, a4, a12, a13, hij, ht', gx, gy, g1, g2, hjs, rg_cells, rg_fold, hes', wi]))); repeat' (first | refine awp_seq ?_ | refine awp_block ?_ | (refine awp_skip ?_; try simp) | (refine awp_exit ?_; try simp) | (refine awp_ret ?_; try simp) | (refine retP_same (by simp) ?_; simp) | (refine retP_flat (by simp) (by simp) (by simp [a0, a1, a4, a12, a13, hij, ht', gx, gy, g1, g2, hjs, rg_cells, rg_fold, hes', wi]) ?_; simp) | (refine awp_reg ?_; simp [a0, a1, a4, a12, a13, hij, ht', gx, gy, g1, g2, hjs, rg_cells, rg_fold, hes', wi]) | (refine awp_drawT (fun _ => false) mixed (by decide +kernel) ?_; simp [a0, a1, a4, a12, a13, hij, ht', gx, gy, g1, g2, hjs, rg_cells, rg_fold, hes', wi]) | (refine guarded_split ?_ ?_ <;> (intro hg; simp only [hg]; simp [a0, a1, a4, a12, a13, hij, ht', gx, gy, g1, g2, hjs, rg_cells, rg_fold, hes', wi])) | (apply awp_cond_t; focus (simp [a0, a1, a4, a12, a13, hij, ht', gx, gy, g1, g2, hjs, rg_cells, rg_fold, hes', wi]; done)) | (apply awp_cond_f; focus (simp [a0, a1, a4, a12, a13, hij, ht', gx, gy, g1, g2, hjs, rg_cells, rg_fold, hes', wi]; done)) | (refine awp_cond ?_; simp [a0, a1, a4, a12, a13, hij, ht', gx, gy, g1, g2, hjs, rg_cells, rg_fold, hes', wi]; refine ⟨?_, ?_⟩ <;> intro hc))
        · rw [if_pos (by simp [ltOf]; omega)] at hsc
          exact ⟨j1, by omega, j1, ⟨ht, htσ, by simp [a0], by simp [a1], by simp [a4], by simp [a12], by simp [a13]⟩, by omega, rfl, hsc⟩
        · rw [if_neg (by simp [ltOf]; omega)] at hsc
          rw [← hsc]
          exact ⟨ht, htσ, by simp [a0], by simp [a1], by simp [a4], by simp [a12], by simp [a13]⟩
      · (try (first | (with_reducible refine dops_go ?_; simp [a0, a1, a4, a12, a13, hij]) | (with_reducible refine OKv_go ?_; simp [a0, a1, a4, a12, a13, hij]) | (with_reducible refine OKr_go ?_; simp [a0, a1, a4, a12, a13, hij]))); repeat' (first | refine awp_seq ?_ | refine awp_block ?_ | (refine awp_skip ?_; try simp) | (refine awp_exit ?_; try simp) | (refine awp_ret ?_; try simp) | (refine retP_same (by simp) ?_; simp) | (refine retP_flat (by simp) (by simp) (by simp [a0, a1, a4, a12, a13, hij]) ?_; simp) | (refine awp_reg ?_; simp [a0, a1, a4, a12, a13, hij]) | (refine awp_drawT (fun _ => false) mixed (by decide +kernel) ?_; simp [a0, a1, a4, a12, a13, hij]) | (refine guarded_split ?_ ?_ <;> (intro hg; simp only [hg]; simp [a0, a1, a4, a12, a13, hij])) | (apply awp_cond_t; focus (simp [a0, a1, a4, a12, a13, hij]; done)) | (apply awp_cond_f; focus (simp [a0, a1, a4, a12, a13, hij]; done)) | (refine awp_cond ?_; simp [a0, a1, a4, a12, a13, hij]; refine ⟨?_, ?_⟩ <;> intro hc))
        rw [scanDown_end hij] at hsc
        rw [← hsc]
        exact ⟨ht, htσ, by simp [a0], by simp [a1], by simp [a4], by simp [a12], by simp [a13]⟩
    rintro A τ ⟨ht, htσ, a0, a1, a4, a12, a13⟩
    have hpl1 : Sort.partEqLoop (ltOf c) a ia ja e' = if k2 > l2 then (k2, e') else Sort.partEqLoop (ltOf c) a (k2 + 1) (l2 - 1) (Sort.swp e' k2 l2) := by
      rw [Sort.partEqLoop]
      simp only [hk2, hl2]
      split
      · rfl
      · rw [dif_pos (by omega)]
    by_cases hgt2 : l2 < k2
    · rw [hpl1, if_pos hgt2] at hpl'
      injection hpl' with q1 q2
      subst q1 q2
      (try (first | (with_reducible refine dops_go ?_; simp [a0, a1, a4, a12, a13, hgt2]) | (with_reducible refine OKv_go ?_; simp [a0, a1, a4, a12, a13, hgt2]) | (with_reducible refine OKr_go ?_; simp [a0, a1, a4, a12, a13, hgt2]))); repeat' (first | refine awp_seq ?_ | refine awp_block ?_ | (refine awp_skip ?_; try simp) | (refine awp_exit ?_; try simp) | (refine awp_ret ?_; try simp) | (refine retP_same (by simp) ?_; simp) | (refine retP_flat (by simp) (by simp) (by simp [a0, a1, a4, a12, a13, hgt2]) ?_; simp) | (refine awp_reg ?_; simp [a0, a1, a4, a12, a13, hgt2]) | (refine awp_drawT (fun _ => false) mixed (by decide +kernel) ?_; simp [a0, a1, a4, a12, a13, hgt2]) | (refine guarded_split ?_ ?_ <;> (intro hg; simp only [hg]; simp [a0, a1, a4, a12, a13, hgt2])) | (apply awp_cond_t; focus (simp [a0, a1, a4, a12, a13, hgt2]; done)) | (apply awp_cond_f; focus (simp [a0, a1, a4, a12, a13, hgt2]; done)) | (refine awp_cond ?_; simp [a0, a1, a4, a12, a13, hgt2]; refine ⟨?_, ?_⟩ <;> intro hc))
      exact ⟨l2, ht, htσ, by simp [a0], by simp [a1], by simp [a4], by simp [a12], by simp [a13]⟩
    · rw [hpl1, if_neg (by omega)] at hpl'
      have ht' : τ.m o = some (.buf (e'.toList.map rgAV)) := ht
      have gx : e'[k2]? = some e'[k2]! := get_bang (by omega)
      have gy : e'[l2]? = some e'[l2]! := get_bang (by omega)
      have g4 : (k2 : Int) < d.size := by omega
      have g5 : (l2 : Int) < d.size := by omega
      have hsw3 := set_get e' (i := k2) (k := l2) (by omega) (by omega)
      have w5 : IntKind.i64.wrap ((k2 : Int) + 1) = ((k2 + 1 : Nat) : Int) := by rw [wrap64 (by omega) (by omega)]; omega
      have w6 : IntKind.i64.wrap ((l2 : Int) - 1) = ((l2 - 1 : Nat) : Int) := by rw [wrap64 (by omega) (by omega)]; omega
      obtain ⟨k3, hk3⟩ : ∃ k3, k2 + 1 = k3 := ⟨_, rfl⟩
      obtain ⟨l3, hl3⟩ : ∃ l3, l2 - 1 = l3 := ⟨_, rfl⟩
      rw [hk3] at w5 hpl'
      rw [hl3] at w6 hpl'
      (try (first | (with_reducible refine dops_go ?_; simp [a0, a1, a4, a12, a13, hgt2, ht', gx, gy, g4, g5, hsw3, hjs, rg_cells, rg_fold, rg_setPart, swp_buf, hes', w5, w6]) | (with_reducible refine OKv_go ?_; simp [a0, a1, a4, a12, a13, hgt2, ht', gx, gy, g4, g5, hsw3, hjs, rg_cells, rg_fold, rg_setPart, swp_buf, hes', w5, w6]) | (with_reducible refine OKr_go ?_; simp [a0, a1, a4, a12, a13, hgt2, ht', gx, gy, g4, g5, hsw3, hjs, rg_cells, rg_fold, rg_setPart, swp_buf, hes', w5, w6]))); repeat' (first | refine awp_seq ?_ | refine awp_block ?_ | (refine awp_skip ?_; try simp) | (refine awp_exit ?_; try simp) | (refine awp_ret ?_; try simp) | (refine retP_same (by simp) ?_; simp) | (refine retP_flat (by simp) (by simp) (by simp [a0, a1, a4, a12, a13, hgt2, ht', gx, gy, g4, g5, hsw3, hjs, rg_cells, rg_fold, rg_setPart, swp_buf, hes', w5, w6]) ?_; simp) | (refine awp_reg ?_; simp [a0, a1, a4, a12, a13, hgt2, ht', gx, gy, g4, g5, hsw3, hjs, rg_cells, rg_fold, rg_setPart, swp_buf, hes', w5, w6]) | (refine awp_drawT (fun _ => false) mixed (by decide +kernel) ?_; simp [a0, a1, a4, a12, a13, hgt2, ht', gx, gy, g4, g5, hsw3, hjs, rg_cells, rg_fold, rg_setPart, swp_buf, hes', w5, w6]) | (refine guarded_split ?_ ?_ <;> (intro hg; simp only [hg]; simp [a0, a1, a4, a12, a13, hgt2, ht', gx, gy, g4, g5, hsw3, hjs, rg_cells, rg_fold, rg_setPart, swp_buf, hes', w5, w6])) | (apply awp_cond_t; focus (simp [a0, a1, a4, a12, a13, hgt2, ht', gx, gy, g4, g5, hsw3, hjs, rg_cells, rg_fold, rg_setPart, swp_buf, hes', w5, w6]; done)) | (apply awp_cond_f; focus (simp [a0, a1, a4, a12, a13, hgt2, ht', gx, gy, g4, g5, hsw3, hjs, rg_cells, rg_fold, rg_setPart, swp_buf, hes', w5, w6]; done)) | (refine awp_cond ?_; simp [a0, a1, a4, a12, a13, hgt2, ht', gx, gy, g4, g5, hsw3, hjs, rg_cells, rg_fold, rg_setPart, swp_buf, hes', w5, w6]; refine ⟨?_, ?_⟩ <;> intro hc))
      exact ⟨l3 + 1 - k3, by omega, Sort.swp e' k2 l2, k3, l3, ⟨by simp [bufOf, ht'], by simp [bufOf]; exact htσ, by simp [a0], by simp [a1], by simp [a4], by simp, by simp⟩, by rw [swp_size', hes'], by omega, by omega, rfl, hpl'⟩
  · rintro A τ ⟨i', ht, htσ, a0, a1, a4, a12, a13⟩
    (try (first | (with_reducible refine dops_go ?_; simp [a0, a1, a4, a12, a13]) | (with_reducible refine OKv_go ?_; simp [a0, a1, a4, a12, a13]) | (with_reducible refine OKr_go ?_; simp [a0, a1, a4, a12, a13]))); repeat' (first | refine awp_seq ?_ | refine awp_block ?_ | (refine awp_skip ?_; try simp) | (refine awp_exit ?_; try simp) | (refine awp_ret ?_; try simp) | (refine retP_same (by simp) ?_; simp) | (refine retP_flat (by simp) (by simp) (by simp [a0, a1, a4, a12, a13]) ?_; simp) | (refine awp_reg ?_; simp [a0, a1, a4, a12, a13]) | (refine awp_drawT (fun _ => false) mixed (by decide +kernel) ?_; simp [a0, a1, a4, a12, a13]) | (refine guarded_split ?_ ?_ <;> (intro hg; simp only [hg]; simp [a0, a1, a4, a12, a13])) | (apply awp_cond_t; focus (simp [a0, a1, a4, a12, a13]; done)) | (apply awp_cond_f; focus (simp [a0, a1, a4, a12, a13]; done)) | (refine awp_cond ?_; simp [a0, a1, a4, a12, a13]; refine ⟨?_, ?_⟩ <;> intro hc))
    refine retK_of (x := .raw (.int .i64 jf)) (.inr rfl) (by simp) ⟨rfl, ?_⟩
    rw [← htσ, set_set, set_same ht]
end Go.Proofs.Ytajikhpjjbohaaa.Av

/- Sorting, part 7: the partial insertion sort. -/
namespace Go.Proofs.Ytajikhpjjbohaaa.Av
open Go
set_option linter.unusedSimpArgs false
set_option linter.unusedVariables false
set_option maxRecDepth 100000
set_option pp.maxSteps 150

def PI (o : Id) (d : Array Rg) (σ : St) (g : FuncId) (a b : Nat) (e : Array Rg) (i s : Nat) (A : Env) (τ : St) : Prop :=
  τ.m o = some (bufOf e) ∧ τ.set o (bufOf d) = σ ∧ A 0 = .rs o 0 d.size ∧ A 1 = .raw (.int .i64 a) ∧ A 2 = .raw (.int .i64 b) ∧ A 3 = .fn (.func g) [] [] ∧ A 9 = .raw (.int .i64 i) ∧ A 10 = .raw (.int .i64 ((5 : Int) - s))
def PJ (o : Id) (d : Array Rg) (σ : St) (g : FuncId) (a b : Nat) (e : Array Rg) (i : Nat) (x : Int) (A : Env) (τ : St) : Prop :=
  τ.m o = some (bufOf e) ∧ τ.set o (bufOf d) = σ ∧ A 0 = .rs o 0 d.size ∧ A 1 = .raw (.int .i64 a) ∧ A 2 = .raw (.int .i64 b) ∧ A 3 = .fn (.func g) [] [] ∧ A 9 = .raw (.int .i64 i) ∧ A 10 = .raw (.int .i64 x)
theorem scanSorted_step {lt : Rg → Rg → Bool} {d : Array Rg} {b i : Nat} (h : i < b) : Sort.scanSorted lt d b i = if lt d[i]! d[i - 1]! = true then i else Sort.scanSorted lt d b (i + 1) := by
  rw [Sort.scanSorted]; simp [h]
  split <;> simp_all
theorem scanSorted_end {lt : Rg → Rg → Bool} {d : Array Rg} {b i : Nat} (h : ¬ i < b) : Sort.scanSorted lt d b i = i := by
  rw [Sort.scanSorted]; simp [h]
theorem scanSorted_le {lt : Rg → Rg → Bool} {d : Array Rg} {b : Nat} : ∀ (n i : Nat), b - i ≤ n → i ≤ b → i ≤ Sort.scanSorted lt d b i ∧ Sort.scanSorted lt d b i ≤ b := by
  intro n
  induction n with
  | zero => intro i h h2; rw [scanSorted_end (by omega)]; omega
  | succ n ih =>
    intro i h h2
    by_cases hi : i < b
    · rw [scanSorted_step hi]
      split
      · omega
      · have := ih (i + 1) (by omega) (by omega); omega
    · rw [scanSorted_end hi]; omega

theorem shiftDown_step {lt : Rg → Rg → Bool} {d : Array Rg} {k : Nat} (h : 0 < k) : Sort.shiftDown lt k d = if lt d[k]! d[k - 1]! = true then Sort.shiftDown lt (k - 1) (Sort.swp d k (k - 1)) else d := by
  obtain ⟨m, rfl⟩ : ∃ m, k = m + 1 := ⟨k - 1, by omega⟩
  rw [Sort.shiftDown]
  simp only [Nat.add_sub_cancel]
  by_cases hl : lt d[m + 1]! d[m]! = true <;> simp [hl]
theorem shiftUp_step {lt : Rg → Rg → Bool} {d : Array Rg} {b k : Nat} (h : k < b) : Sort.shiftUp lt b k d = if lt d[k]! d[k - 1]! = true then Sort.shiftUp lt b (k + 1) (Sort.swp d k (k - 1)) else d := by
  rw [Sort.shiftUp, if_pos h]
  by_cases hl : lt d[k]! d[k - 1]! = true <;> simp [hl]
theorem shiftUp_end {lt : Rg → Rg → Bool} {d : Array Rg} {b k : Nat} (h : ¬ k < b) : Sort.shiftUp lt b k d = d := by rw [Sort.shiftUp, if_neg h]
theorem partialIns_calls {g : FuncId} {c : Rg → Rg → Int} (hcc : Cmp g c) {o : Id} (hjs : o.sz = 2) {d : Array Rg} {a b : Nat} (hab : a < b) (hb : b ≤ d.size) (hsz : d.size < 2 ^ 40) {σ : St} (hj : σ.m o = some (bufOf d)) :
    ACalls Try.prog 57 [.rs o 0 d.size, .raw (.int .i64 a), .raw (.int .i64 b), .fn (.func g) [] []] σ fun r τ =>
      r = .raw (.bool (Sort.partialInsertionSort (ltOf c) d a b).2) ∧ τ = σ.set o (bufOf (Sort.partialInsertionSort (ltOf c) d a b).1) := by
  refine abody Try.func57 rfl (N := 141) rfl rfl (by simp) ?_
  have w1 : IntKind.i64.wrap ((a : Int) + 1) = ((a + 1 : Nat) : Int) := by rw [wrap64 (by omega) (by omega)]; omega
  obtain ⟨i0, hi0⟩ : ∃ i0, a + 1 = i0 := ⟨_, rfl⟩
  rw [hi0] at w1
  obtain ⟨df, rf, hpf⟩ : ∃ df rf, Sort.partialIns (ltOf c) a b 5 i0 d = (df, rf) := ⟨_, _, rfl⟩
  have hres : Sort.partialInsertionSort (ltOf c) d a b = (df, rf) := by rw [Sort.partialInsertionSort, hi0, hpf]
  rw [hres]
  (try (first | (with_reducible refine dops_go ?_; simp [w1]) | (with_reducible refine OKv_go ?_; simp [w1]) | (with_reducible refine OKr_go ?_; simp [w1]))); repeat' (first | refine awp_seq ?_ | refine awp_block ?_ | (refine awp_skip ?_; try simp) | (refine awp_exit ?_; try simp) | (refine awp_ret ?_; try simp) | (refine retP_same (by simp) ?_; simp) | (refine retP_flat (by simp) (by simp) (by simp [w1]) ?_; simp) | (refine awp_reg ?_; simp [w1]) | (refine awp_drawT (fun _ => false) mixed (by decide +kernel) ?_; simp [w1]) | (refine guarded_split ?_ ?_ <;> (intro hg; simp only [hg]; simp [w1])) | (apply awp_cond_t; focus (simp [w1]; done)) | (apply awp_cond_f; focus (simp [w1]; done)) | (refine awp_cond ?_; simp [w1]; refine ⟨?_, ?_⟩ <;> intro hc))
  refine awp_loop (fun n A τ => ∃ e i, PI o d σ g a b e i n A τ ∧ n ≤ 5 ∧ e.size = d.size ∧ a + 1 ≤ i ∧ i ≤ b ∧ Sort.partialIns (ltOf c) a b n i e = (df, rf)) 5 ?_ ?_
  · exact ⟨d, i0, ⟨by simp [hj], set_same hj, by simp, by simp, by simp, by simp, by simp, by simp⟩, by omega, rfl, by omega, by omega, hpf⟩
  rintro s A τ ⟨e, i, ⟨ht, htσ, a0, a1, a2, a3, a9, a10⟩, hs5, hes, hai, hib, hpf'⟩
  cases s with
  | zero =>
    (try (first | (with_reducible refine dops_go ?_; simp [a0, a1, a2, a3, a9, a10]) | (with_reducible refine OKv_go ?_; simp [a0, a1, a2, a3, a9, a10]) | (with_reducible refine OKr_go ?_; simp [a0, a1, a2, a3, a9, a10]))); repeat' (first | refine awp_seq ?_ | refine awp_block ?_ | (refine awp_skip ?_; try simp) | (refine awp_exit ?_; try simp) | (refine awp_ret ?_; try simp) | (refine retP_same (by simp) ?_; simp) | (refine retP_flat (by simp) (by simp) (by simp [a0, a1, a2, a3, a9, a10]) ?_; simp) | (refine awp_reg ?_; simp [a0, a1, a2, a3, a9, a10]) | (refine awp_drawT (fun _ => false) mixed (by decide +kernel) ?_; simp [a0, a1, a2, a3, a9, a10]) | (refine guarded_split ?_ ?_ <;> (intro hg; simp only [hg]; simp [a0, a1, a2, a3, a9, a10])) | (apply awp_cond_t; focus (simp [a0, a1, a2, a3, a9, a10]; done)) | (apply awp_cond_f; focus (simp [a0, a1, a2, a3, a9, a10]; done)) | (refine awp_cond ?_; simp [a0, a1, a2, a3, a9, a10]; refine ⟨?_, ?_⟩ <;> intro hc))
    rw [Sort.partialIns] at hpf'
    injection hpf' with q1 q2
    subst q1 q2
    refine retK_of (x := .raw (.bool false)) (.inr rfl) (by simp) ⟨rfl, ?_⟩
    rw [← htσ, set_set, set_same ht]
  | succ s =>
    have hlt5 : (5 : Int) - ((s + 1 : Nat) : Int) < 5 := by omega
    obtain ⟨x5, hx5⟩ : ∃ x5 : Int, (5 : Int) - ((s + 1 : Nat) : Int) = x5 := ⟨_, rfl⟩
    rw [hx5] at a10 hlt5
    (try (first | (with_reducible refine dops_go ?_; simp [a0, a1, a2, a3, a9, a10, hlt5]) | (with_reducible refine OKv_go ?_; simp [a0, a1, a2, a3, a9, a10, hlt5]) | (with_reducible refine OKr_go ?_; simp [a0, a1, a2, a3, a9, a10, hlt5]))); repeat' (first | refine awp_seq ?_ | refine awp_block ?_ | (refine awp_skip ?_; try simp) | (refine awp_exit ?_; try simp) | (refine awp_ret ?_; try simp) | (refine retP_same (by simp) ?_; simp) | (refine retP_flat (by simp) (by simp) (by simp [a0, a1, a2, a3, a9, a10, hlt5]) ?_; simp) | (refine awp_reg ?_; simp [a0, a1, a2, a3, a9, a10, hlt5]) | (refine awp_drawT (fun _ => false) mixed (by decide +kernel) ?_; simp [a0, a1, a2, a3, a9, a10, hlt5]) | (refine guarded_split ?_ ?_ <;> (intro hg; simp only [hg]; simp [a0, a1, a2, a3, a9, a10, hlt5])) | (apply awp_cond_t; focus (simp [a0, a1, a2, a3, a9, a10, hlt5]; done)) | (apply awp_cond_f; focus (simp [a0, a1, a2, a3, a9, a10, hlt5]; done)) | (refine awp_cond ?_; simp [a0, a1, a2, a3, a9, a10, hlt5]; refine ⟨?_, ?_⟩ <;> intro hc))
    obtain ⟨i2, hi2⟩ : ∃ i2, Sort.scanSorted (ltOf c) e b i = i2 := ⟨_, rfl⟩
    have hi2r := scanSorted_le (lt := ltOf c) (d := e) (b := b) _ i (Nat.le_refl _) hib
    rw [hi2] at hi2r
    have g2 : (a : Int) < d.size := by omega
    refine awp_block_cut (PJ o d σ g a b e i2 x5) ?_ ?_
    · refine awp_loop (fun n A τ => ∃ i', PJ o d σ g a b e i' x5 A τ ∧ i ≤ i' ∧ i' ≤ b ∧ n = b - i' ∧ Sort.scanSorted (ltOf c) e b i' = i2) (b - i) ?_ ?_
      · exact ⟨i, ⟨ht, htσ, by simp [a0], by simp [a1], by simp [a2], by simp [a3], by simp [a9], by simp [a10]⟩, Nat.le_refl _, hib, rfl, hi2⟩
      rintro n A τ ⟨i', ⟨ht, htσ, a0, a1, a2, a3, a9, a10⟩, hii, hib', hn, hsc⟩
      have ht' : τ.m o = some (.buf (e.toList.map rgAV)) := ht
      by_cases hlt : i' < b
      · have gx : e[i']? = some e[i']! := get_bang (by omega)
        have gy : e[i' - 1]? = some e[i' - 1]! := get_bang (by omega)
        have g1 : (i' : Int) < d.size := by omega
        have g3 : ((i' - 1 : Nat) : Int) < d.size := by omega
        have wi : IntKind.i64.wrap ((i' : Int) + 1) = ((i' + 1 : Nat) : Int) := by rw [wrap64 (by omega) (by omega)]; omega
        have wp : IntKind.i64.wrap ((i' : Int) - 1) = ((i' - 1 : Nat) : Int) := by rw [wrap64 (by omega) (by omega)]; omega
        rw [scanSorted_step hlt] at hsc
        generalize hi1 : i' + 1 = i1 at *
        generalize hi3 : i' - 1 = i3 at *
        (try (first | (with_reducible refine dops_go ?_; simp [a0, a1, a2, a3, a9, a10, hlt, ht', gx, gy, g1, g3, hjs, rg_cells, rg_fold, hes, wi, wp]) | (with_reducible refine OKv_go ?_; simp [a0, a1, a2, a3, a9, a10, hlt, ht', gx, gy, g1, g3, hjs, rg_cells, rg_fold, hes, wi, wp]) | (with_reducible refine OKr_go ?_; simp [a0, a1, a2, a3, a9, a10, hlt, ht', gx, gy, g1, g3, hjs, rg_cells, rg_fold, hes, wi, wp]))); repeat' (first | refine awp_seq ?_ | refine awp_block ?_ | (refine awp_skip ?_; try simp) | (refine awp_exit ?_; try simp) | (refine awp_ret ?_; try simp) | (refine retP_same (by simp) ?_; simp) | (refine retP_flat (by simp) (by simp) (by simp [a0, a1, a2, a3, a9, a10, hlt, ht', gx, gy, g1, g3, hjs, rg_cells, rg_fold, hes, wi, wp]) ?_; simp) | (refine awp_reg ?_; simp [a0, a1, a2, a3, a9, a10, hlt, ht', gx, gy, g1, g3, hjs, rg_cells, rg_fold, hes, wi, wp]) | (refine awp_drawT (fun _ => false) mixed (by decide +kernel) ?_; simp [a0, a1, a2, a3, a9, a10, hlt, ht', gx, gy, g1, g3, hjs, rg_cells, rg_fold, hes, wi, wp]) | (refine guarded_split ?_ ?_ <;> (intro hg; simp only [hg]; simp [a0, a1, a2, a3, a9, a10, hlt, ht', gx, gy, g1, g3, hjs, rg_cells, rg_fold, hes, wi, wp])) | (apply awp_cond_t; focus (simp [a0, a1, a2, a3, a9, a10, hlt, ht', gx, gy, g1, g3, hjs, rg_cells, rg_fold, hes, wi, wp]; done)) | (apply awp_cond_f; focus (simp [a0, a1, a2, a3, a9, a10, hlt, ht', gx, gy, g1, g3, hjs, rg_cells, rg_fold, hes, wi, wp]; done)) | (refine awp_cond ?_; simp [a0, a1, a2, a3, a9, a10, hlt, ht', gx, gy, g1, g3, hjs, rg_cells, rg_fold, hes, wi, wp]; refine ⟨?_, ?_⟩ <;> intro hc))
        refine PCalls.use (hcc.calls _ _) ?_
        (try (first | (with_reducible refine dops_go ?_; simp [a0, a1, a2, a3, a9, a10, hlt, ht', gx, gy, g1, g3, hjs, rg_cells, rg_fold, hes, wi, wp]) | (with_reducible refine OKv_go ?_; simp [a0, a1, a2, a3, a9, a10, hlt, ht', gx, gy, g1, g3, hjs, rg_cells, rg_fold, hes, wi, wp]) | (with_reducible refine OKr_go ?_; simp [a0, a1, a2, a3, a9, a10, hlt, ht', gx, gy, g1, g3, hjs, rg_cells, rg_fold, hes, wi, wp]))); repeat' (first | refine awp_seq ?_ | refine awp_block ?_ | (refine awp_skip ?_; try simp) | (refine awp_exit ?_; try simp) | (refine awp_ret ?_; try simp) | (refine retP_same (by simp) ?_; simp) | (refine retP_flat (by simp) (by simp) (by simp [a0, a1, a2, a3, a9, a10, hlt, ht', gx, gy, g1, g3, hjs, rg_cells, rg_fold, hes, wi, wp]) ?_; simp) | (refine awp_reg ?_; simp [a0, a1, a2, a3, a9, a10, hlt, ht', gx, gy, g1, g3, hjs, rg_cells, rg_fold, hes, wi, wp]) | (refine awp_drawT (fun _ => false) mixed (by decide +kernel) ?_; simp [a0, a1, a2, a3, a9, a10, hlt, ht', gx, gy, g1, g3, hjs, rg_cells, rg_fold, hes, wi, wp]) | (refine guarded_split ?_ ?_ <;> (intro hg; simp only [hg]; simp [a0, a1, a2, a3, a9, a10, hlt, ht', gx, gy, g1, g3, hjs, rg_cells, rg_fold, hes, wi, wp])) | (apply awp_cond_t; focus (simp [a0, a1, a2, a3, a9, a10, hlt, ht', gx, gy, g1, g3, hjs, rg_cells, rg_fold, hes, wi, wp]; done)) | (apply awp_cond_f; focus (simp [a0, a1, a2, a3, a9, a10, hlt, ht', gx, gy, g1, g3, hjs, rg_cells, rg_fold, hes, wi, wp]; done)) | (refine awp_cond ?_; simp [a0, a1, a2, a3, a9, a10, hlt, ht', gx, gy, g1, g3, hjs, rg_cells, rg_fold, hes, wi, wp]; refine ⟨?_, ?_⟩ <;> intro hc))
        · rw [if_neg (by simp [ltOf]; omega)] at hsc
          exact ⟨b - i1, by omega, i1, ⟨ht, htσ, by simp [a0], by simp [a1], by simp [a2], by simp [a3], by simp, by simp [a10]⟩, by omega, by omega, rfl, hsc⟩
        · rw [if_pos (by simp [ltOf]; omega)] at hsc
          rw [← hsc]
          exact ⟨ht, htσ, by simp [a0], by simp [a1], by simp [a2], by simp [a3], by simp [a9], by simp [a10]⟩
      · (try (first | (with_reducible refine dops_go ?_; simp [a0, a1, a2, a3, a9, a10, hlt]) | (with_reducible refine OKv_go ?_; simp [a0, a1, a2, a3, a9, a10, hlt]) | (with_reducible refine OKr_go ?_; simp [a0, a1, a2, a3, a9, a10, hlt]))); repeat' (first | refine awp_seq ?_ | refine awp_block ?_ | (refine awp_skip ?_; try simp) | (refine awp_exit ?_; try simp) | (refine awp_ret ?_; try simp) | (refine retP_same (by simp) ?_; simp) | (refine retP_flat (by simp) (by simp) (by simp [a0, a1, a2, a3, a9, a10, hlt]) ?_; simp) | (refine awp_reg ?_; simp [a0, a1, a2, a3, a9, a10, hlt]) | (refine awp_drawT (fun _ => false) mixed (by decide +kernel) ?_; simp [a0, a1, a2, a3, a9, a10, hlt]) | (refine guarded_split ?_ ?_ <;> (intro hg; simp only [hg]; simp [a0, a1, a2, a3, a9, a10, hlt])) | (apply awp_cond_t; focus (simp [a0, a1, a2, a3, a9, a10, hlt]; done)) | (apply awp_cond_f; focus (simp [a0, a1, a2, a3, a9, a10, hlt]; done)) | (refine awp_cond ?_; simp [a0, a1, a2, a3, a9, a10, hlt]; refine ⟨?_, ?_⟩ <;> intro hc))
        rw [scanSorted_end hlt] at hsc
        rw [← hsc]
        exact ⟨ht, htσ, by simp [a0], by simp [a1], by simp [a2], by simp [a3], by simp [a9], by simp [a10]⟩
    rintro A τ ⟨ht, htσ, a0, a1, a2, a3, a9, a10⟩
    have ht' : τ.m o = some (.buf (e.toList.map rgAV)) := ht
    have wba : IntKind.i64.wrap ((b : Int) - a) = ((b - a : Nat) : Int) := by rw [wrap64 (by omega) (by omega)]; omega
    rw [Sort.partialIns, hi2] at hpf'
    by_cases hib2 : i2 = b
    · subst hib2
      rw [if_pos rfl] at hpf'
      injection hpf' with q1 q2
      subst q1 q2
      (try (first | (with_reducible refine dops_go ?_; simp [a0, a1, a2, a3, a9, a10]) | (with_reducible refine OKv_go ?_; simp [a0, a1, a2, a3, a9, a10]) | (with_reducible refine OKr_go ?_; simp [a0, a1, a2, a3, a9, a10]))); repeat' (first | refine awp_seq ?_ | refine awp_block ?_ | (refine awp_skip ?_; try simp) | (refine awp_exit ?_; try simp) | (refine awp_ret ?_; try simp) | (refine retP_same (by simp) ?_; simp) | (refine retP_flat (by simp) (by simp) (by simp [a0, a1, a2, a3, a9, a10]) ?_; simp) | (refine awp_reg ?_; simp [a0, a1, a2, a3, a9, a10]) | (refine awp_drawT (fun _ => false) mixed (by decide +kernel) ?_; simp [a0, a1, a2, a3, a9, a10]) | (refine guarded_split ?_ ?_ <;> (intro hg; simp only [hg]; simp [a0, a1, a2, a3, a9, a10])) | (apply awp_cond_t; focus (simp [a0, a1, a2, a3, a9, a10]; done)) | (apply awp_cond_f; focus (simp [a0, a1, a2, a3, a9, a10]; done)) | (refine awp_cond ?_; simp [a0, a1, a2, a3, a9, a10]; refine ⟨?_, ?_⟩ <;> intro hc))
      refine retK_of (x := .raw (.bool true)) (.inr rfl) (by simp) ⟨rfl, ?_⟩
      rw [← htσ, set_set, set_same ht]
    · rw [if_neg hib2] at hpf'
      have hibi : ¬ ((i2 : Int) = b) := by omega
      by_cases h50 : b - a < 50
      · have h50' : ((b - a : Nat) : Int) < 50 := by omega
        rw [if_pos h50] at hpf'
        injection hpf' with q1 q2
        subst q1 q2
        (try (first | (with_reducible refine dops_go ?_; simp [a0, a1, a2, a3, a9, a10, hib2, hibi, wba, h50']) | (with_reducible refine OKv_go ?_; simp [a0, a1, a2, a3, a9, a10, hib2, hibi, wba, h50']) | (with_reducible refine OKr_go ?_; simp [a0, a1, a2, a3, a9, a10, hib2, hibi, wba, h50']))); repeat' (first | refine awp_seq ?_ | refine awp_block ?_ | (refine awp_skip ?_; try simp) | (refine awp_exit ?_; try simp) | (refine awp_ret ?_; try simp) | (refine retP_same (by simp) ?_; simp) | (refine retP_flat (by simp) (by simp) (by simp [a0, a1, a2, a3, a9, a10, hib2, hibi, wba, h50']) ?_; simp) | (refine awp_reg ?_; simp [a0, a1, a2, a3, a9, a10, hib2, hibi, wba, h50']) | (refine awp_drawT (fun _ => false) mixed (by decide +kernel) ?_; simp [a0, a1, a2, a3, a9, a10, hib2, hibi, wba, h50']) | (refine guarded_split ?_ ?_ <;> (intro hg; simp only [hg]; simp [a0, a1, a2, a3, a9, a10, hib2, hibi, wba, h50'])) | (apply awp_cond_t; focus (simp [a0, a1, a2, a3, a9, a10, hib2, hibi, wba, h50']; done)) | (apply awp_cond_f; focus (simp [a0, a1, a2, a3, a9, a10, hib2, hibi, wba, h50']; done)) | (refine awp_cond ?_; simp [a0, a1, a2, a3, a9, a10, hib2, hibi, wba, h50']; refine ⟨?_, ?_⟩ <;> intro hc))
        refine retK_of (x := .raw (.bool false)) (.inr rfl) (by simp) ⟨rfl, ?_⟩
        rw [← htσ, set_set, set_same ht]
      · have h50' : ¬ ((b - a : Nat) : Int) < 50 := by omega
        rw [if_neg h50] at hpf'
        have gx : e[i2]? = some e[i2]! := get_bang (by omega)
        have gy : e[i2 - 1]? = some e[i2 - 1]! := get_bang (by omega)
        have g1 : (i2 : Int) < d.size := by omega
        have g3 : ((i2 - 1 : Nat) : Int) < d.size := by omega
        have wp : IntKind.i64.wrap ((i2 : Int) - 1) = ((i2 - 1 : Nat) : Int) := by rw [wrap64 (by omega) (by omega)]; omega
        have hsw2 := set_get e (i := i2) (k := i2 - 1) (by omega) (by omega)
        have wia : IntKind.i64.wrap ((i2 : Int) - a) = ((i2 - a : Nat) : Int) := by rw [wrap64 (by omega) (by omega)]; omega
        generalize hi3 : i2 - 1 = i3 at *
        (try (first | (with_reducible refine dops_go ?_; simp [wia, a0, a1, a2, a3, a9, a10, hib2, hibi, wba, h50', ht', gx, gy, g1, g3, hsw2, wp, hjs, rg_cells, rg_fold, rg_setPart, swp_buf, hes]) | (with_reducible refine OKv_go ?_; simp [wia, a0, a1, a2, a3, a9, a10, hib2, hibi, wba, h50', ht', gx, gy, g1, g3, hsw2, wp, hjs, rg_cells, rg_fold, rg_setPart, swp_buf, hes]) | (with_reducible refine OKr_go ?_; simp [wia, a0, a1, a2, a3, a9, a10, hib2, hibi, wba, h50', ht', gx, gy, g1, g3, hsw2, wp, hjs, rg_cells, rg_fold, rg_setPart, swp_buf, hes]))); repeat' (first | refine awp_seq ?_ | refine awp_block ?_ | (refine awp_skip ?_; try simp) | (refine awp_exit ?_; try simp) | (refine awp_ret ?_; try simp) | (refine retP_same (by simp) ?_; simp) | (refine retP_flat (by simp) (by simp) (by simp [wia, a0, a1, a2, a3, a9, a10, hib2, hibi, wba, h50', ht', gx, gy, g1, g3, hsw2, wp, hjs, rg_cells, rg_fold, rg_setPart, swp_buf, hes]) ?_; simp) | (refine awp_reg ?_; simp [wia, a0, a1, a2, a3, a9, a10, hib2, hibi, wba, h50', ht', gx, gy, g1, g3, hsw2, wp, hjs, rg_cells, rg_fold, rg_setPart, swp_buf, hes]) | (refine awp_drawT (fun _ => false) mixed (by decide +kernel) ?_; simp [wia, a0, a1, a2, a3, a9, a10, hib2, hibi, wba, h50', ht', gx, gy, g1, g3, hsw2, wp, hjs, rg_cells, rg_fold, rg_setPart, swp_buf, hes]) | (refine guarded_split ?_ ?_ <;> (intro hg; simp only [hg]; simp [wia, a0, a1, a2, a3, a9, a10, hib2, hibi, wba, h50', ht', gx, gy, g1, g3, hsw2, wp, hjs, rg_cells, rg_fold, rg_setPart, swp_buf, hes])) | (apply awp_cond_t; focus (simp [wia, a0, a1, a2, a3, a9, a10, hib2, hibi, wba, h50', ht', gx, gy, g1, g3, hsw2, wp, hjs, rg_cells, rg_fold, rg_setPart, swp_buf, hes]; done)) | (apply awp_cond_f; focus (simp [wia, a0, a1, a2, a3, a9, a10, hib2, hibi, wba, h50', ht', gx, gy, g1, g3, hsw2, wp, hjs, rg_cells, rg_fold, rg_setPart, swp_buf, hes]; done)))
        obtain ⟨e1, he1⟩ : ∃ e1, Sort.swp e i2 i3 = e1 := ⟨_, rfl⟩
        have hes1 : e1.size = d.size := by rw [← he1, swp_size', hes]
        rw [he1] at hpf' ⊢
        obtain ⟨e2, he2⟩ : ∃ e2, (if i2 - a ≥ 2 then Sort.shiftDown (ltOf c) i3 e1 else e1) = e2 := ⟨_, rfl⟩
        simp only [he2] at hpf'
        refine awp_then_cut (fun A τ => PJ o d σ g a b e2 i2 x5 A τ ∧ e2.size = d.size) ?_ ?_
        · by_cases h2 : i2 - a ≥ 2
          · rw [if_pos h2] at he2
            have h2' : (2 : Int) ≤ ((i2 - a : Nat) : Int) := by omega
            (try (first | (with_reducible refine dops_go ?_; simp [a0, a1, a2, a3, a9, a10, wia, h2', wp]) | (with_reducible refine OKv_go ?_; simp [a0, a1, a2, a3, a9, a10, wia, h2', wp]) | (with_reducible refine OKr_go ?_; simp [a0, a1, a2, a3, a9, a10, wia, h2', wp]))); repeat' (first | refine awp_seq ?_ | refine awp_block ?_ | (refine awp_skip ?_; try simp) | (refine awp_exit ?_; try simp) | (refine awp_ret ?_; try simp) | (refine retP_same (by simp) ?_; simp) | (refine retP_flat (by simp) (by simp) (by simp [a0, a1, a2, a3, a9, a10, wia, h2', wp]) ?_; simp) | (refine awp_reg ?_; simp [a0, a1, a2, a3, a9, a10, wia, h2', wp]) | (refine awp_drawT (fun _ => false) mixed (by decide +kernel) ?_; simp [a0, a1, a2, a3, a9, a10, wia, h2', wp]) | (refine guarded_split ?_ ?_ <;> (intro hg; simp only [hg]; simp [a0, a1, a2, a3, a9, a10, wia, h2', wp])) | (apply awp_cond_t; focus (simp [a0, a1, a2, a3, a9, a10, wia, h2', wp]; done)) | (apply awp_cond_f; focus (simp [a0, a1, a2, a3, a9, a10, wia, h2', wp]; done)) | (refine awp_cond ?_; simp [a0, a1, a2, a3, a9, a10, wia, h2', wp]; refine ⟨?_, ?_⟩ <;> intro hc))
            refine awp_loop (fun n A τ => ∃ (k : Nat) (e' : Array Rg), PJ o d σ g a b e' i2 x5 A τ ∧ A 11 = .raw (.int .i64 k) ∧ n = k ∧ k ≤ i3 ∧ e'.size = d.size ∧ Sort.shiftDown (ltOf c) k e' = e2) i3 ?_ ?_
            · exact ⟨i3, e1, ⟨by simp [bufOf, ht'], by simp [bufOf]; exact htσ, by simp [a0], by simp [a1], by simp [a2], by simp [a3], by simp [a9], by simp [a10]⟩, by simp, rfl, Nat.le_refl _, hes1, he2⟩
            rintro n A τ ⟨k, e', ⟨ht, htσ, a0, a1, a2, a3, a9, a10⟩, a11, hn, hk, hes', hsh⟩
            have ht' : τ.m o = some (.buf (e'.toList.map rgAV)) := ht
            by_cases hk1 : 0 < k
            · have hk1' : (1 : Int) ≤ (k : Int) := by omega
              have gx : e'[k]? = some e'[k]! := get_bang (by omega)
              have gy : e'[k - 1]? = some e'[k - 1]! := get_bang (by omega)
              have g1 : (k : Int) < d.size := by omega
              have g3 : ((k - 1 : Nat) : Int) < d.size := by omega
              have wk : IntKind.i64.wrap ((k : Int) - 1) = ((k - 1 : Nat) : Int) := by rw [wrap64 (by omega) (by omega)]; omega
              have hsw3 := set_get e' (i := k) (k := k - 1) (by omega) (by omega)
              rw [shiftDown_step hk1] at hsh
              generalize hkp : k - 1 = kp at *
              (try (first | (with_reducible refine dops_go ?_; simp [a0, a1, a2, a3, a9, a10, a11, hk1', ht', gx, gy, g1, g3, hjs, rg_cells, rg_fold, hes', wk]) | (with_reducible refine OKv_go ?_; simp [a0, a1, a2, a3, a9, a10, a11, hk1', ht', gx, gy, g1, g3, hjs, rg_cells, rg_fold, hes', wk]) | (with_reducible refine OKr_go ?_; simp [a0, a1, a2, a3, a9, a10, a11, hk1', ht', gx, gy, g1, g3, hjs, rg_cells, rg_fold, hes', wk]))); repeat' (first | refine awp_seq ?_ | refine awp_block ?_ | (refine awp_skip ?_; try simp) | (refine awp_exit ?_; try simp) | (refine awp_ret ?_; try simp) | (refine retP_same (by simp) ?_; simp) | (refine retP_flat (by simp) (by simp) (by simp [a0, a1, a2, a3, a9, a10, a11, hk1', ht', gx, gy, g1, g3, hjs, rg_cells, rg_fold, hes', wk]) ?_; simp) | (refine awp_reg ?_; simp [a0, a1, a2, a3, a9, a10, a11, hk1', ht', gx, gy, g1, g3, hjs, rg_cells, rg_fold, hes', wk]) | (refine awp_drawT (fun _ => false) mixed (by decide +kernel) ?_; simp [a0, a1, a2, a3, a9, a10, a11, hk1', ht', gx, gy, g1, g3, hjs, rg_cells, rg_fold, hes', wk]) | (refine guarded_split ?_ ?_ <;> (intro hg; simp only [hg]; simp [a0, a1, a2, a3, a9, a10, a11, hk1', ht', gx, gy, g1, g3, hjs, rg_cells, rg_fold, hes', wk])) | (apply awp_cond_t; focus (simp [a0, a1, a2, a3, a9, a10, a11, hk1', ht', gx, gy, g1, g3, hjs, rg_cells, rg_fold, hes', wk]; done)) | (apply awp_cond_f; focus (simp [a0, a1, a2, a3, a9, a10, a11, hk1', ht', gx, gy, g1, g3, hjs, rg_cells, rg_fold, hes', wk]; done)) | (refine awp_cond ?_; simp [a0, a1, a2, a3, a9, a10, a11, hk1', ht', gx, gy, g1, g3, hjs, rg_cells, rg_fold, hes', wk]; refine ⟨?_, ?_⟩ <;> intro hc))
              refine PCalls.use (hcc.calls _ _) ?_
              (try (first | (with_reducible refine dops_go ?_; simp [a0, a1, a2, a3, a9, a10, a11, hk1', ht', gx, gy, g1, g3, hsw3, hjs, rg_cells, rg_fold, rg_setPart, swp_buf, hes', wk]) | (with_reducible refine OKv_go ?_; simp [a0, a1, a2, a3, a9, a10, a11, hk1', ht', gx, gy, g1, g3, hsw3, hjs, rg_cells, rg_fold, rg_setPart, swp_buf, hes', wk]) | (with_reducible refine OKr_go ?_; simp [a0, a1, a2, a3, a9, a10, a11, hk1', ht', gx, gy, g1, g3, hsw3, hjs, rg_cells, rg_fold, rg_setPart, swp_buf, hes', wk]))); repeat' (first | refine awp_seq ?_ | refine awp_block ?_ | (refine awp_skip ?_; try simp) | (refine awp_exit ?_; try simp) | (refine awp_ret ?_; try simp) | (refine retP_same (by simp) ?_; simp) | (refine retP_flat (by simp) (by simp) (by simp [a0, a1, a2, a3, a9, a10, a11, hk1', ht', gx, gy, g1, g3, hsw3, hjs, rg_cells, rg_fold, rg_setPart, swp_buf, hes', wk]) ?_; simp) | (refine awp_reg ?_; simp [a0, a1, a2, a3, a9, a10, a11, hk1', ht', gx, gy, g1, g3, hsw3, hjs, rg_cells, rg_fold, rg_setPart, swp_buf, hes', wk]) | (refine awp_drawT (fun _ => false) mixed (by decide +kernel) ?_; simp [a0, a1, a2, a3, a9, a10, a11, hk1', ht', gx, gy, g1, g3, hsw3, hjs, rg_cells, rg_fold, rg_setPart, swp_buf, hes', wk]) | (refine guarded_split ?_ ?_ <;> (intro hg; simp only [hg]; simp [a0, a1, a2, a3, a9, a10, a11, hk1', ht', gx, gy, g1, g3, hsw3, hjs, rg_cells, rg_fold, rg_setPart, swp_buf, hes', wk])) | (apply awp_cond_t; focus (simp [a0, a1, a2, a3, a9, a10, a11, hk1', ht', gx, gy, g1, g3, hsw3, hjs, rg_cells, rg_fold, rg_setPart, swp_buf, hes', wk]; done)) | (apply awp_cond_f; focus (simp [a0, a1, a2, a3, a9, a10, a11, hk1', ht', gx, gy, g1, g3, hsw3, hjs, rg_cells, rg_fold, rg_setPart, swp_buf, hes', wk]; done)) | (refine awp_cond ?_; simp [a0, a1, a2, a3, a9, a10, a11, hk1', ht', gx, gy, g1, g3, hsw3, hjs, rg_cells, rg_fold, rg_setPart, swp_buf, hes', wk]; refine ⟨?_, ?_⟩ <;> intro hc))
              · rw [if_neg (by simp [ltOf]; omega)] at hsh
                subst hsh
                exact ⟨⟨ht, htσ, by simp [a0], by simp [a1], by simp [a2], by simp [a3], by simp [a9], by simp [a10]⟩, hes'⟩
              · rw [if_pos (by simp [ltOf]; omega)] at hsh
                exact ⟨kp, by omega, kp, Sort.swp e' k kp, ⟨by simp [bufOf, ht'], by simp [bufOf]; exact htσ, by simp [a0], by simp [a1], by simp [a2], by simp [a3], by simp [a9], by simp [a10]⟩, by simp, rfl, by omega, by rw [swp_size', hes'], hsh⟩
            · have hk0 : k = 0 := by omega
              subst hk0
              rw [Sort.shiftDown] at hsh
              subst hsh
              (try (first | (with_reducible refine dops_go ?_; simp [a0, a1, a2, a3, a9, a10, a11]) | (with_reducible refine OKv_go ?_; simp [a0, a1, a2, a3, a9, a10, a11]) | (with_reducible refine OKr_go ?_; simp [a0, a1, a2, a3, a9, a10, a11]))); repeat' (first | refine awp_seq ?_ | refine awp_block ?_ | (refine awp_skip ?_; try simp) | (refine awp_exit ?_; try simp) | (refine awp_ret ?_; try simp) | (refine retP_same (by simp) ?_; simp) | (refine retP_flat (by simp) (by simp) (by simp [a0, a1, a2, a3, a9, a10, a11]) ?_; simp) | (refine awp_reg ?_; simp [a0, a1, a2, a3, a9, a10, a11]) | (refine awp_drawT (fun _ => false) mixed (by decide +kernel) ?_; simp [a0, a1, a2, a3, a9, a10, a11]) | (refine guarded_split ?_ ?_ <;> (intro hg; simp only [hg]; simp [a0, a1, a2, a3, a9, a10, a11])) | (apply awp_cond_t; focus (simp [a0, a1, a2, a3, a9, a10, a11]; done)) | (apply awp_cond_f; focus (simp [a0, a1, a2, a3, a9, a10, a11]; done)) | (refine awp_cond ?_; simp [a0, a1, a2, a3, a9, a10, a11]; refine ⟨?_, ?_⟩ <;> intro hc))
              exact ⟨⟨ht, htσ, by simp [a0], by simp [a1], by simp [a2], by simp [a3], by simp [a9], by simp [a10]⟩, hes'⟩
          · rw [if_neg h2] at he2
            subst he2
            have h2' : ¬ (2 : Int) ≤ ((i2 - a : Nat) : Int) := by omega
            (try (first | (with_reducible refine dops_go ?_; simp [a0, a1, a2, a3, a9, a10, wia, h2']) | (with_reducible refine OKv_go ?_; simp [a0, a1, a2, a3, a9, a10, wia, h2']) | (with_reducible refine OKr_go ?_; simp [a0, a1, a2, a3, a9, a10, wia, h2']))); repeat' (first | refine awp_seq ?_ | refine awp_block ?_ | (refine awp_skip ?_; try simp) | (refine awp_exit ?_; try simp) | (refine awp_ret ?_; try simp) | (refine retP_same (by simp) ?_; simp) | (refine retP_flat (by simp) (by simp) (by simp [a0, a1, a2, a3, a9, a10, wia, h2']) ?_; simp) | (refine awp_reg ?_; simp [a0, a1, a2, a3, a9, a10, wia, h2']) | (refine awp_drawT (fun _ => false) mixed (by decide +kernel) ?_; simp [a0, a1, a2, a3, a9, a10, wia, h2']) | (refine guarded_split ?_ ?_ <;> (intro hg; simp only [hg]; simp [a0, a1, a2, a3, a9, a10, wia, h2'])) | (apply awp_cond_t; focus (simp [a0, a1, a2, a3, a9, a10, wia, h2']; done)) | (apply awp_cond_f; focus (simp [a0, a1, a2, a3, a9, a10, wia, h2']; done)) | (refine awp_cond ?_; simp [a0, a1, a2, a3, a9, a10, wia, h2']; refine ⟨?_, ?_⟩ <;> intro hc))
            exact ⟨⟨by simp [bufOf, ht'], by simp [bufOf]; exact htσ, by simp [a0], by simp [a1], by simp [a2], by simp [a3], by simp [a9], by simp [a10]⟩, hes1⟩
        · rintro A τ ⟨⟨ht, htσ, a0, a1, a2, a3, a9, a10⟩, hes2⟩
          obtain ⟨e3, he3⟩ : ∃ e3, (if b - i2 ≥ 2 then Sort.shiftUp (ltOf c) b (i2 + 1) e2 else e2) = e3 := ⟨_, rfl⟩
          simp only [he3] at hpf'
          have wbi : IntKind.i64.wrap ((b : Int) - i2) = ((b - i2 : Nat) : Int) := by rw [wrap64 (by omega) (by omega)]; omega
          (try (first | (with_reducible refine dops_go ?_; simp [a0, a1, a2, a3, a9, a10, wbi]) | (with_reducible refine OKv_go ?_; simp [a0, a1, a2, a3, a9, a10, wbi]) | (with_reducible refine OKr_go ?_; simp [a0, a1, a2, a3, a9, a10, wbi]))); repeat' (first | refine awp_seq ?_ | refine awp_block ?_ | (refine awp_skip ?_; try simp) | (refine awp_exit ?_; try simp) | (refine awp_ret ?_; try simp) | (refine retP_same (by simp) ?_; simp) | (refine retP_flat (by simp) (by simp) (by simp [a0, a1, a2, a3, a9, a10, wbi]) ?_; simp) | (refine awp_reg ?_; simp [a0, a1, a2, a3, a9, a10, wbi]) | (refine awp_drawT (fun _ => false) mixed (by decide +kernel) ?_; simp [a0, a1, a2, a3, a9, a10, wbi]) | (refine guarded_split ?_ ?_ <;> (intro hg; simp only [hg]; simp [a0, a1, a2, a3, a9, a10, wbi])) | (apply awp_cond_t; focus (simp [a0, a1, a2, a3, a9, a10, wbi]; done)) | (apply awp_cond_f; focus (simp [a0, a1, a2, a3, a9, a10, wbi]; done)))
          refine awp_block_cut (fun A τ => PJ o d σ g a b e3 i2 x5 A τ ∧ e3.size = d.size) ?_ ?_
          · have ht' : τ.m o = some (.buf (e2.toList.map rgAV)) := ht
            by_cases h2 : b - i2 ≥ 2
            · rw [if_pos h2] at he3
              have h2' : (2 : Int) ≤ ((b - i2 : Nat) : Int) := by omega
              have wi : IntKind.i64.wrap ((i2 : Int) + 1) = ((i2 + 1 : Nat) : Int) := by rw [wrap64 (by omega) (by omega)]; omega
              obtain ⟨i4, hi4⟩ : ∃ i4, i2 + 1 = i4 := ⟨_, rfl⟩
              rw [hi4] at wi he3
              (try (first | (with_reducible refine dops_go ?_; simp [a0, a1, a2, a3, a9, a10, wbi, h2', wi]) | (with_reducible refine OKv_go ?_; simp [a0, a1, a2, a3, a9, a10, wbi, h2', wi]) | (with_reducible refine OKr_go ?_; simp [a0, a1, a2, a3, a9, a10, wbi, h2', wi]))); repeat' (first | refine awp_seq ?_ | refine awp_block ?_ | (refine awp_skip ?_; try simp) | (refine awp_exit ?_; try simp) | (refine awp_ret ?_; try simp) | (refine retP_same (by simp) ?_; simp) | (refine retP_flat (by simp) (by simp) (by simp [a0, a1, a2, a3, a9, a10, wbi, h2', wi]) ?_; simp) | (refine awp_reg ?_; simp [a0, a1, a2, a3, a9, a10, wbi, h2', wi]) | (refine awp_drawT (fun _ => false) mixed (by decide +kernel) ?_; simp [a0, a1, a2, a3, a9, a10, wbi, h2', wi]) | (refine guarded_split ?_ ?_ <;> (intro hg; simp only [hg]; simp [a0, a1, a2, a3, a9, a10, wbi, h2', wi])) | (apply awp_cond_t; focus (simp [a0, a1, a2, a3, a9, a10, wbi, h2', wi]; done)) | (apply awp_cond_f; focus (simp [a0, a1, a2, a3, a9, a10, wbi, h2', wi]; done)) | (refine awp_cond ?_; simp [a0, a1, a2, a3, a9, a10, wbi, h2', wi]; refine ⟨?_, ?_⟩ <;> intro hc))
              refine awp_loop (fun n A τ => ∃ (k : Nat) (e' : Array Rg), PJ o d σ g a b e' i2 x5 A τ ∧ A 12 = .raw (.int .i64 k) ∧ n = b - k ∧ i4 ≤ k ∧ e'.size = d.size ∧ Sort.shiftUp (ltOf c) b k e' = e3) (b - i4) ?_ ?_
              · exact ⟨i4, e2, ⟨ht, htσ, by simp [a0], by simp [a1], by simp [a2], by simp [a3], by simp [a9], by simp [a10]⟩, by simp, rfl, Nat.le_refl _, hes2, he3⟩
              rintro n A τ ⟨k, e', ⟨ht, htσ, a0, a1, a2, a3, a9, a10⟩, a12, hn, hk, hes', hsh⟩
              have ht' : τ.m o = some (.buf (e'.toList.map rgAV)) := ht
              by_cases hk1 : k < b
              · have gx : e'[k]? = some e'[k]! := get_bang (by omega)
                have gy : e'[k - 1]? = some e'[k - 1]! := get_bang (by omega)
                have g1 : (k : Int) < d.size := by omega
                have g3 : ((k - 1 : Nat) : Int) < d.size := by omega
                have wk : IntKind.i64.wrap ((k : Int) - 1) = ((k - 1 : Nat) : Int) := by rw [wrap64 (by omega) (by omega)]; omega
                have wn : IntKind.i64.wrap ((k : Int) + 1) = ((k + 1 : Nat) : Int) := by rw [wrap64 (by omega) (by omega)]; omega
                have hsw3 := set_get e' (i := k) (k := k - 1) (by omega) (by omega)
                rw [shiftUp_step hk1] at hsh
                generalize hkp : k - 1 = kp at *
                generalize hkn : k + 1 = kn at *
                (try (first | (with_reducible refine dops_go ?_; simp [a0, a1, a2, a3, a9, a10, a12, hk1, ht', gx, gy, g1, g3, hjs, rg_cells, rg_fold, hes', wk, wn]) | (with_reducible refine OKv_go ?_; simp [a0, a1, a2, a3, a9, a10, a12, hk1, ht', gx, gy, g1, g3, hjs, rg_cells, rg_fold, hes', wk, wn]) | (with_reducible refine OKr_go ?_; simp [a0, a1, a2, a3, a9, a10, a12, hk1, ht', gx, gy, g1, g3, hjs, rg_cells, rg_fold, hes', wk, wn]))); repeat' (first | refine awp_seq ?_ | refine awp_block ?_ | (refine awp_skip ?_; try simp) | (refine awp_exit ?_; try simp) | (refine awp_ret ?_; try simp) | (refine retP_same (by simp) ?_; simp) | (refine retP_flat (by simp) (by simp) (by simp [a0, a1, a2, a3, a9, a10, a12, hk1, ht', gx, gy, g1, g3, hjs, rg_cells, rg_fold, hes', wk, wn]) ?_; simp) | (refine awp_reg ?_; simp [a0, a1, a2, a3, a9, a10, a12, hk1, ht', gx, gy, g1, g3, hjs, rg_cells, rg_fold, hes', wk, wn]) | (refine awp_drawT (fun _ => false) mixed (by decide +kernel) ?_; simp [a0, a1, a2, a3, a9, a10, a12, hk1, ht', gx, gy, g1, g3, hjs, rg_cells, rg_fold, hes', wk, wn]) | (refine guarded_split ?_ ?_ <;> (intro hg; simp only [hg]; simp [a0, a1, a2, a3, a9, a10, a12, hk1, ht', gx, gy, g1, g3, hjs, rg_cells, rg_fold, hes', wk, wn])) | (apply awp_cond_t; focus (simp [a0, a1, a2, a3, a9, a10, a12, hk1, ht', gx, gy, g1, g3, hjs, rg_cells, rg_fold, hes', wk, wn]; done)) | (apply awp_cond_f; focus (simp [a0, a1, a2, a3, a9, a10, a12, hk1, ht', gx, gy, g1, g3, hjs, rg_cells, rg_fold, hes', wk, wn]; done)) | (refine awp_cond ?_; simp [a0, a1, a2, a3, a9, a10, a12, hk1, ht', gx, gy, g1, g3, hjs, rg_cells, rg_fold, hes', wk, wn]; refine ⟨?_, ?_⟩ <;> intro hc))
                refine PCalls.use (hcc.calls _ _) ?_
                (try (first | (with_reducible refine dops_go ?_; simp [a0, a1, a2, a3, a9, a10, a12, hk1, ht', gx, gy, g1, g3, hsw3, hjs, rg_cells, rg_fold, rg_setPart, swp_buf, hes', wk, wn]) | (with_reducible refine OKv_go ?_; simp [a0, a1, a2, a3, a9, a10, a12, hk1, ht', gx, gy, g1, g3, hsw3, hjs, rg_cells, rg_fold, rg_setPart, swp_buf, hes', wk, wn]) | (with_reducible refine OKr_go ?_; simp [a0, a1, a2, a3, a9, a10, a12, hk1, ht', gx, gy, g1, g3, hsw3, hjs, rg_cells, rg_fold, rg_setPart, swp_buf, hes', wk, wn]))); repeat' (first | refine awp_seq ?_ | refine awp_block ?_ | (refine awp_skip ?_; try simp) | (refine awp_exit ?_; try simp) | (refine awp_ret ?_; try simp) | (refine retP_same (by simp) ?_; simp) | (refine retP_flat (by simp) (by simp) (by simp [a0, a1, a2, a3, a9, a10, a12, hk1, ht', gx, gy, g1, g3, hsw3, hjs, rg_cells, rg_fold, rg_setPart, swp_buf, hes', wk, wn]) ?_; simp) | (refine awp_reg ?_; simp [a0, a1, a2, a3, a9, a10, a12, hk1, ht', gx, gy, g1, g3, hsw3, hjs, rg_cells, rg_fold, rg_setPart, swp_buf, hes', wk, wn]) | (refine awp_drawT (fun _ => false) mixed (by decide +kernel) ?_; simp [a0, a1, a2, a3, a9, a10, a12, hk1, ht', gx, gy, g1, g3, hsw3, hjs, rg_cells, rg_fold, rg_setPart, swp_buf, hes', wk, wn]) | (refine guarded_split ?_ ?_ <;> (intro hg; simp only [hg]; simp [a0, a1, a2, a3, a9, a10, a12, hk1, ht', gx, gy, g1, g3, hsw3, hjs, rg_cells, rg_fold, rg_setPart, swp_buf, hes', wk, wn])) | (apply awp_cond_t; focus (simp [a0, a1, a2, a3, a9, a10, a12, hk1, ht', gx, gy, g1, g3, hsw3, hjs, rg_cells, rg_fold, rg_setPart, swp_buf, hes', wk, wn]; done)) | (apply awp_cond_f; focus (simp [a0, a1, a2, a3, a9, a10, a12, hk1, ht', gx, gy, g1, g3, hsw3, hjs, rg_cells, rg_fold, rg_setPart, swp_buf, hes', wk, wn]; done)) | (refine awp_cond ?_; simp [a0, a1, a2, a3, a9, a10, a12, hk1, ht', gx, gy, g1, g3, hsw3, hjs, rg_cells, rg_fold, rg_setPart, swp_buf, hes', wk, wn]; refine ⟨?_, ?_⟩ <;> intro hc))
                · rw [if_neg (by simp [ltOf]; omega)] at hsh
                  subst hsh
                  exact ⟨⟨ht, htσ, by simp [a0], by simp [a1], by simp [a2], by simp [a3], by simp [a9], by simp [a10]⟩, hes'⟩
                · rw [if_pos (by simp [ltOf]; omega)] at hsh
                  exact ⟨b - kn, by omega, kn, Sort.swp e' k kp, ⟨by simp [bufOf, ht'], by simp [bufOf]; exact htσ, by simp [a0], by simp [a1], by simp [a2], by simp [a3], by simp [a9], by simp [a10]⟩, by simp, rfl, by omega, by rw [swp_size', hes'], hsh⟩
              · rw [shiftUp_end hk1] at hsh
                subst hsh
                (try (first | (with_reducible refine dops_go ?_; simp [a0, a1, a2, a3, a9, a10, a12, hk1]) | (with_reducible refine OKv_go ?_; simp [a0, a1, a2, a3, a9, a10, a12, hk1]) | (with_reducible refine OKr_go ?_; simp [a0, a1, a2, a3, a9, a10, a12, hk1]))); repeat' (first | refine awp_seq ?_ | refine awp_block ?_ | (refine awp_skip ?_; try simp) | (refine awp_exit ?_; try simp) | (refine awp_ret ?_; try simp) | (refine retP_same (by simp) ?_; simp) | (refine retP_flat (by simp) (by simp) (by simp [a0, a1, a2, a3, a9, a10, a12, hk1]) ?_; simp) | (refine awp_reg ?_; simp [a0, a1, a2, a3, a9, a10, a12, hk1]) | (refine awp_drawT (fun _ => false) mixed (by decide +kernel) ?_; simp [a0, a1, a2, a3, a9, a10, a12, hk1]) | (refine guarded_split ?_ ?_ <;> (intro hg; simp only [hg]; simp [a0, a1, a2, a3, a9, a10, a12, hk1])) | (apply awp_cond_t; focus (simp [a0, a1, a2, a3, a9, a10, a12, hk1]; done)) | (apply awp_cond_f; focus (simp [a0, a1, a2, a3, a9, a10, a12, hk1]; done)) | (refine awp_cond ?_; simp [a0, a1, a2, a3, a9, a10, a12, hk1]; refine ⟨?_, ?_⟩ <;> intro hc))
                exact ⟨⟨ht, htσ, by simp [a0], by simp [a1], by simp [a2], by simp [a3], by simp [a9], by simp [a10]⟩, hes'⟩
            · rw [if_neg h2] at he3
              subst he3
              have h2' : ¬ (2 : Int) ≤ ((b - i2 : Nat) : Int) := by omega
              (try (first | (with_reducible refine dops_go ?_; simp [a0, a1, a2, a3, a9, a10, wbi, h2']) | (with_reducible refine OKv_go ?_; simp [a0, a1, a2, a3, a9, a10, wbi, h2']) | (with_reducible refine OKr_go ?_; simp [a0, a1, a2, a3, a9, a10, wbi, h2']))); repeat' (first | refine awp_seq ?_ | refine awp_block ?_ | (refine awp_skip ?_; try simp) | (refine awp_exit ?_; try simp) | (refine awp_ret ?_; try simp) | (refine retP_same (by simp) ?_; simp) | (refine retP_flat (by simp) (by simp) (by simp [a0, a1, a2, a3, a9, a10, wbi, h2']) ?_; simp) | (refine awp_reg ?_; simp [a0, a1, a2, a3, a9, a10, wbi, h2']) | (refine awp_drawT (fun _ => false) mixed (by decide +kernel) ?_; simp [a0, a1, a2, a3, a9, a10, wbi, h2']) | (refine guarded_split ?_ ?_ <;> (intro hg; simp only [hg]; simp [a0, a1, a2, a3, a9, a10, wbi, h2'])) | (apply awp_cond_t; focus (simp [a0, a1, a2, a3, a9, a10, wbi, h2']; done)) | (apply awp_cond_f; focus (simp [a0, a1, a2, a3, a9, a10, wbi, h2']; done)) | (refine awp_cond ?_; simp [a0, a1, a2, a3, a9, a10, wbi, h2']; refine ⟨?_, ?_⟩ <;> intro hc))
              exact ⟨⟨ht, htσ, by simp [a0], by simp [a1], by simp [a2], by simp [a3], by simp [a9], by simp [a10]⟩, hes2⟩
          · rintro A τ ⟨⟨ht, htσ, a0, a1, a2, a3, a9, a10⟩, hes3⟩
            have w10 : IntKind.i64.wrap (x5 + 1) = (5 : Int) - s := by rw [wrap64 (by omega) (by omega)]; omega
            (try (first | (with_reducible refine dops_go ?_; simp [a0, a1, a2, a3, a9, a10, w10]) | (with_reducible refine OKv_go ?_; simp [a0, a1, a2, a3, a9, a10, w10]) | (with_reducible refine OKr_go ?_; simp [a0, a1, a2, a3, a9, a10, w10]))); repeat' (first | refine awp_seq ?_ | refine awp_block ?_ | (refine awp_skip ?_; try simp) | (refine awp_exit ?_; try simp) | (refine awp_ret ?_; try simp) | (refine retP_same (by simp) ?_; simp) | (refine retP_flat (by simp) (by simp) (by simp [a0, a1, a2, a3, a9, a10, w10]) ?_; simp) | (refine awp_reg ?_; simp [a0, a1, a2, a3, a9, a10, w10]) | (refine awp_drawT (fun _ => false) mixed (by decide +kernel) ?_; simp [a0, a1, a2, a3, a9, a10, w10]) | (refine guarded_split ?_ ?_ <;> (intro hg; simp only [hg]; simp [a0, a1, a2, a3, a9, a10, w10])) | (apply awp_cond_t; focus (simp [a0, a1, a2, a3, a9, a10, w10]; done)) | (apply awp_cond_f; focus (simp [a0, a1, a2, a3, a9, a10, w10]; done)) | (refine awp_cond ?_; simp [a0, a1, a2, a3, a9, a10, w10]; refine ⟨?_, ?_⟩ <;> intro hc))
            exact ⟨s, by omega, e3, i2, ⟨ht, htσ, by simp [a0], by simp [a1], by simp [a2], by simp [a3], by simp [a9], by simp⟩, by omega, hes3, by omega, by omega, hpf'⟩
end Go.Proofs.Ytajikhpjjbohaaa.Av

/- Sorting, part 8: the pivot. -/
namespace Go.Proofs.Ytajikhpjjbohaaa.Av
open Go
set_option linter.unusedSimpArgs false
set_option linter.unusedVariables false
set_option maxRecDepth 100000
set_option pp.maxSteps 150

theorem order2_calls {g : FuncId} {c : Rg → Rg → Int} (hcc : Cmp g c) {o w : Id} (hjs : o.sz = 2) (hws : w.sz = 1) (how : w ≠ o) {d : Array Rg} {a b k : Nat} (ha : a < d.size) (hb : b < d.size) (hk : k < 2 ^ 40) (hsz : d.size < 2 ^ 40) {σ : St} (hj : σ.m o = some (bufOf d)) (hw : σ.m w = some (.buf [.raw (.int .i64 k)])) :
    ACalls Try.prog 67 [.rs o 0 d.size, .raw (.int .i64 a), .raw (.int .i64 b), .rp w 0 0, .fn (.func g) [] []] σ fun r τ =>
      r = .tup [.raw (.int .i64 (Sort.order2 (ltOf c) d a b k).1), .raw (.int .i64 (Sort.order2 (ltOf c) d a b k).2.1)] ∧ τ = σ.set w (.buf [.raw (.int .i64 (Sort.order2 (ltOf c) d a b k).2.2)]) := by
  refine abody Try.func67 rfl (N := 32) rfl rfl (by simp) ?_
  have hb' : σ.m o = some (.buf (d.toList.map rgAV)) := hj
  have gx : d[a]? = some d[a]! := get_bang ha
  have gy : d[b]? = some d[b]! := get_bang hb
  have g1 : (a : Int) < d.size := by omega
  have g2 : (b : Int) < d.size := by omega
  have w1 : IntKind.i64.wrap ((k : Int) + 1) = ((k + 1 : Nat) : Int) := by rw [wrap64 (by omega) (by omega)]; omega
  obtain ⟨k1, hk1⟩ : ∃ k1, k + 1 = k1 := ⟨_, rfl⟩
  rw [hk1] at w1
  (try (first | (with_reducible refine dops_go ?_; simp [hb', gx, gy, g1, g2, hjs, hws, rg_cells, rg_fold, w1, hw]) | (with_reducible refine OKv_go ?_; simp [hb', gx, gy, g1, g2, hjs, hws, rg_cells, rg_fold, w1, hw]) | (with_reducible refine OKr_go ?_; simp [hb', gx, gy, g1, g2, hjs, hws, rg_cells, rg_fold, w1, hw]))); repeat' (first | refine awp_seq ?_ | refine awp_block ?_ | (refine awp_skip ?_; try simp) | (refine awp_exit ?_; try simp) | (refine awp_ret ?_; try simp) | (refine retP_same (by simp) ?_; simp) | (refine retP_flat (by simp) (by simp) (by simp [hb', gx, gy, g1, g2, hjs, hws, rg_cells, rg_fold, w1, hw]) ?_; simp) | (refine awp_reg ?_; simp [hb', gx, gy, g1, g2, hjs, hws, rg_cells, rg_fold, w1, hw]) | (refine awp_drawT (fun _ => false) mixed (by decide +kernel) ?_; simp [hb', gx, gy, g1, g2, hjs, hws, rg_cells, rg_fold, w1, hw]) | (refine guarded_split ?_ ?_ <;> (intro hg; simp only [hg]; simp [hb', gx, gy, g1, g2, hjs, hws, rg_cells, rg_fold, w1, hw])) | (apply awp_cond_t; focus (simp [hb', gx, gy, g1, g2, hjs, hws, rg_cells, rg_fold, w1, hw]; done)) | (apply awp_cond_f; focus (simp [hb', gx, gy, g1, g2, hjs, hws, rg_cells, rg_fold, w1, hw]; done)) | (refine awp_cond ?_; simp [hb', gx, gy, g1, g2, hjs, hws, rg_cells, rg_fold, w1, hw]; refine ⟨?_, ?_⟩ <;> intro hc))
  refine PCalls.use (hcc.calls _ _) ?_
  (try (first | (with_reducible refine dops_go ?_; simp [hb', gx, gy, g1, g2, hjs, hws, rg_cells, rg_fold, w1, hw]) | (with_reducible refine OKv_go ?_; simp [hb', gx, gy, g1, g2, hjs, hws, rg_cells, rg_fold, w1, hw]) | (with_reducible refine OKr_go ?_; simp [hb', gx, gy, g1, g2, hjs, hws, rg_cells, rg_fold, w1, hw]))); repeat' (first | refine awp_seq ?_ | refine awp_block ?_ | (refine awp_skip ?_; try simp) | (refine awp_exit ?_; try simp) | (refine awp_ret ?_; try simp) | (refine retP_same (by simp) ?_; simp) | (refine retP_flat (by simp) (by simp) (by simp [hb', gx, gy, g1, g2, hjs, hws, rg_cells, rg_fold, w1, hw]) ?_; simp) | (refine awp_reg ?_; simp [hb', gx, gy, g1, g2, hjs, hws, rg_cells, rg_fold, w1, hw]) | (refine awp_drawT (fun _ => false) mixed (by decide +kernel) ?_; simp [hb', gx, gy, g1, g2, hjs, hws, rg_cells, rg_fold, w1, hw]) | (refine guarded_split ?_ ?_ <;> (intro hg; simp only [hg]; simp [hb', gx, gy, g1, g2, hjs, hws, rg_cells, rg_fold, w1, hw])) | (apply awp_cond_t; focus (simp [hb', gx, gy, g1, g2, hjs, hws, rg_cells, rg_fold, w1, hw]; done)) | (apply awp_cond_f; focus (simp [hb', gx, gy, g1, g2, hjs, hws, rg_cells, rg_fold, w1, hw]; done)) | (refine awp_cond ?_; simp [hb', gx, gy, g1, g2, hjs, hws, rg_cells, rg_fold, w1, hw]; refine ⟨?_, ?_⟩ <;> intro hc))
  · have hl : ltOf c d[b]! d[a]! = true := by simp [ltOf]; omega
    have e1 : Sort.order2 (ltOf c) d a b k = (b, a, k1) := by rw [Sort.order2, if_pos hl, hk1]
    rw [e1]
    exact retK_of (x := .tup [.raw (.int .i64 b), .raw (.int .i64 a)]) (.inr rfl) (by simp) ⟨rfl, rfl⟩
  · have hl : ¬ ltOf c d[b]! d[a]! = true := by simp [ltOf]; omega
    have e1 : Sort.order2 (ltOf c) d a b k = (a, b, k) := by rw [Sort.order2, if_neg hl]
    rw [e1]
    exact retK_of (x := .tup [.raw (.int .i64 a), .raw (.int .i64 b)]) (.inr rfl) (by simp) ⟨rfl, (set_same hw).symm⟩

theorem order2_le (lt : Rg → Rg → Bool) (d : Array Rg) {a b k n : Nat} (ha : a < n) (hb : b < n) : (Sort.order2 lt d a b k).1 < n ∧ (Sort.order2 lt d a b k).2.1 < n ∧ k ≤ (Sort.order2 lt d a b k).2.2 ∧ (Sort.order2 lt d a b k).2.2 ≤ k + 1 := by
  unfold Sort.order2
  split <;> simp <;> omega
theorem median_calls {g : FuncId} {c : Rg → Rg → Int} (hcc : Cmp g c) {o w : Id} (hjs : o.sz = 2) (hws : w.sz = 1) (how : w ≠ o) {d : Array Rg} {a b m k : Nat} (ha : a < d.size) (hb : b < d.size) (hm : m < d.size) (hk : k < 2 ^ 39) (hsz : d.size < 2 ^ 40) {σ : St} (hj : σ.m o = some (bufOf d)) (hw : σ.m w = some (.buf [.raw (.int .i64 k)])) :
    ACalls Try.prog 66 [.rs o 0 d.size, .raw (.int .i64 a), .raw (.int .i64 b), .raw (.int .i64 m), .rp w 0 0, .fn (.func g) [] []] σ fun r τ =>
      r = .raw (.int .i64 (Sort.median (ltOf c) d a b m k).1) ∧ τ = σ.set w (.buf [.raw (.int .i64 (Sort.median (ltOf c) d a b m k).2)]) := by
  refine abody Try.func66 rfl (N := 41) rfl rfl (by simp) ?_
  have c1 := order2_calls hcc hjs hws how ha hb (by omega) hsz hj hw
  have l1 := order2_le (ltOf c) d (k := k) ha hb
  obtain ⟨x1, y1, k1, h1⟩ : ∃ x y z, Sort.order2 (ltOf c) d a b k = (x, y, z) := ⟨_, _, _, rfl⟩
  rw [h1] at c1 l1
  simp only [] at c1 l1
  have c2 := order2_calls hcc hjs hws how (a := y1) (b := m) (k := k1) l1.2.1 hm (by omega) hsz (σ := σ.set w (.buf [.raw (.int .i64 k1)])) (by rw [set_other (Ne.symm how)]; exact hj) (by simp [hw])
  have l2 := order2_le (ltOf c) d (k := k1) l1.2.1 hm
  obtain ⟨x2, y2, k2, h2⟩ : ∃ x y z, Sort.order2 (ltOf c) d y1 m k1 = (x, y, z) := ⟨_, _, _, rfl⟩
  rw [h2] at c2 l2
  simp only [set_set] at c2 l2
  have c3 := order2_calls hcc hjs hws how (a := x1) (b := x2) (k := k2) l1.1 l2.1 (by omega) hsz (σ := σ.set w (.buf [.raw (.int .i64 k2)])) (by rw [set_other (Ne.symm how)]; exact hj) (by simp [hw])
  obtain ⟨x3, y3, k3, h3⟩ : ∃ x y z, Sort.order2 (ltOf c) d x1 x2 k2 = (x, y, z) := ⟨_, _, _, rfl⟩
  rw [h3] at c3
  simp only [set_set] at c3
  have hmed : Sort.median (ltOf c) d a b m k = (y3, k3) := by simp only [Sort.median, h1, h2, h3]
  rw [hmed]
  (try (first | (with_reducible refine dops_go ?_; simp) | (with_reducible refine OKv_go ?_; simp) | (with_reducible refine OKr_go ?_; simp))); repeat' (first | refine awp_seq ?_ | refine awp_block ?_ | (refine awp_skip ?_; try simp) | (refine awp_exit ?_; try simp) | (refine awp_ret ?_; try simp) | (refine retP_same (by simp) ?_; simp) | (refine retP_flat (by simp) (by simp) (by simp) ?_; simp) | (refine awp_reg ?_; simp) | (refine awp_drawT (fun _ => false) mixed (by decide +kernel) ?_; simp) | (refine guarded_split ?_ ?_ <;> (intro hg; simp only [hg]; simp)) | (apply awp_cond_t; focus (simp; done)) | (apply awp_cond_f; focus (simp; done)) | (refine awp_cond ?_; simp; refine ⟨?_, ?_⟩ <;> intro hc))
  refine c1.mono ?_
  rintro _ τ ⟨rfl, rfl⟩
  (try (first | (with_reducible refine dops_go ?_; simp) | (with_reducible refine OKv_go ?_; simp) | (with_reducible refine OKr_go ?_; simp))); repeat' (first | refine awp_seq ?_ | refine awp_block ?_ | (refine awp_skip ?_; try simp) | (refine awp_exit ?_; try simp) | (refine awp_ret ?_; try simp) | (refine retP_same (by simp) ?_; simp) | (refine retP_flat (by simp) (by simp) (by simp) ?_; simp) | (refine awp_reg ?_; simp) | (refine awp_drawT (fun _ => false) mixed (by decide +kernel) ?_; simp) | (refine guarded_split ?_ ?_ <;> (intro hg; simp only [hg]; simp)) | (apply awp_cond_t; focus (simp; done)) | (apply awp_cond_f; focus (simp; done)) | (refine awp_cond ?_; simp; refine ⟨?_, ?_⟩ <;> intro hc))
  refine c2.mono ?_
  rintro _ τ ⟨rfl, rfl⟩
  (try (first | (with_reducible refine dops_go ?_; simp) | (with_reducible refine OKv_go ?_; simp) | (with_reducible refine OKr_go ?_; simp))); repeat' (first | refine awp_seq ?_ | refine awp_block ?_ | (refine awp_skip ?_; try simp) | (refine awp_exit ?_; try simp) | (refine awp_ret ?_; try simp) | (refine retP_same (by simp) ?_; simp) | (refine retP_flat (by simp) (by simp) (by simp) ?_; simp) | (refine awp_reg ?_; simp) | (refine awp_drawT (fun _ => false) mixed (by decide +kernel) ?_; simp) | (refine guarded_split ?_ ?_ <;> (intro hg; simp only [hg]; simp)) | (apply awp_cond_t; focus (simp; done)) | (apply awp_cond_f; focus (simp; done)) | (refine awp_cond ?_; simp; refine ⟨?_, ?_⟩ <;> intro hc))
  refine c3.mono ?_
  rintro _ τ ⟨rfl, rfl⟩
  (try (first | (with_reducible refine dops_go ?_; simp) | (with_reducible refine OKv_go ?_; simp) | (with_reducible refine OKr_go ?_; simp))); repeat' (first | refine awp_seq ?_ | refine awp_block ?_ | (refine awp_skip ?_; try simp) | (refine awp_exit ?_; try simp) | (refine awp_ret ?_; try simp) | (refine retP_same (by simp) ?_; simp) | (refine retP_flat (by simp) (by simp) (by simp) ?_; simp) | (refine awp_reg ?_; simp) | (refine awp_drawT (fun _ => false) mixed (by decide +kernel) ?_; simp) | (refine guarded_split ?_ ?_ <;> (intro hg; simp only [hg]; simp)) | (apply awp_cond_t; focus (simp; done)) | (apply awp_cond_f; focus (simp; done)) | (refine awp_cond ?_; simp; refine ⟨?_, ?_⟩ <;> intro hc))
  exact retK_of (x := .raw (.int .i64 y3)) (.inr rfl) (by simp) ⟨rfl, rfl⟩

theorem medianAdj_calls {g : FuncId} {c : Rg → Rg → Int} (hcc : Cmp g c) {o w : Id} (hjs : o.sz = 2) (hws : w.sz = 1) (how : w ≠ o) {d : Array Rg} {a k : Nat} (ha0 : 0 < a) (ha : a + 1 < d.size) (hk : k < 2 ^ 39) (hsz : d.size < 2 ^ 40) {σ : St} (hj : σ.m o = some (bufOf d)) (hw : σ.m w = some (.buf [.raw (.int .i64 k)])) :
    ACalls Try.prog 65 [.rs o 0 d.size, .raw (.int .i64 a), .rp w 0 0, .fn (.func g) [] []] σ fun r τ =>
      r = .raw (.int .i64 (Sort.medianAdjacent (ltOf c) d a k).1) ∧ τ = σ.set w (.buf [.raw (.int .i64 (Sort.medianAdjacent (ltOf c) d a k).2)]) := by
  refine abody Try.func65 rfl (N := 18) rfl rfl (by simp) ?_
  have w1 : IntKind.i64.wrap ((a : Int) + 1) = ((a + 1 : Nat) : Int) := by rw [wrap64 (by omega) (by omega)]; omega
  have w2 : IntKind.i64.wrap ((a : Int) - 1) = ((a - 1 : Nat) : Int) := by rw [wrap64 (by omega) (by omega)]; omega
  have cm := median_calls hcc hjs hws how (a := a - 1) (b := a) (m := a + 1) (by omega) (by omega) ha hk hsz hj hw
  obtain ⟨y, z, hm⟩ : ∃ y z, Sort.median (ltOf c) d (a - 1) a (a + 1) k = (y, z) := ⟨_, _, rfl⟩
  have hma : Sort.medianAdjacent (ltOf c) d a k = (y, z) := by rw [Sort.medianAdjacent, hm]
  rw [hm] at cm
  rw [hma]
  generalize a + 1 = a1 at *
  generalize a - 1 = a2 at *
  (try (first | (with_reducible refine dops_go ?_; simp [w1, w2]) | (with_reducible refine OKv_go ?_; simp [w1, w2]) | (with_reducible refine OKr_go ?_; simp [w1, w2]))); repeat' (first | refine awp_seq ?_ | refine awp_block ?_ | (refine awp_skip ?_; try simp) | (refine awp_exit ?_; try simp) | (refine awp_ret ?_; try simp) | (refine retP_same (by simp) ?_; simp) | (refine retP_flat (by simp) (by simp) (by simp [w1, w2]) ?_; simp) | (refine awp_reg ?_; simp [w1, w2]) | (refine awp_drawT (fun _ => false) mixed (by decide +kernel) ?_; simp [w1, w2]) | (refine guarded_split ?_ ?_ <;> (intro hg; simp only [hg]; simp [w1, w2])) | (apply awp_cond_t; focus (simp [w1, w2]; done)) | (apply awp_cond_f; focus (simp [w1, w2]; done)) | (refine awp_cond ?_; simp [w1, w2]; refine ⟨?_, ?_⟩ <;> intro hc))
  refine cm.mono ?_
  rintro _ τ ⟨rfl, rfl⟩
  (try (first | (with_reducible refine dops_go ?_; simp) | (with_reducible refine OKv_go ?_; simp) | (with_reducible refine OKr_go ?_; simp))); repeat' (first | refine awp_seq ?_ | refine awp_block ?_ | (refine awp_skip ?_; try simp) | (refine awp_exit ?_; try simp) | (refine awp_ret ?_; try simp) | (refine retP_same (by simp) ?_; simp) | (refine retP_flat (by simp) (by simp) (by simp) ?_; simp) | (refine awp_reg ?_; simp) | (refine awp_drawT (fun _ => false) mixed (by decide +kernel) ?_; simp) | (refine guarded_split ?_ ?_ <;> (intro hg; simp only [hg]; simp)) | (apply awp_cond_t; focus (simp; done)) | (apply awp_cond_f; focus (simp; done)) | (refine awp_cond ?_; simp; refine ⟨?_, ?_⟩ <;> intro hc))
  exact retK_of (x := .raw (.int .i64 y)) (.inr rfl) (by simp) ⟨rfl, rfl⟩
theorem median_le (lt : Rg → Rg → Bool) (d : Array Rg) {a b m k n : Nat} (ha : a < n) (hb : b < n) (hm : m < n) : (Sort.median lt d a b m k).1 < n ∧ (Sort.median lt d a b m k).2 ≤ k + 3 := by
  have l1 := order2_le lt d (k := k) ha hb
  obtain ⟨x1, y1, k1, h1⟩ : ∃ x y z, Sort.order2 lt d a b k = (x, y, z) := ⟨_, _, _, rfl⟩
  rw [h1] at l1
  have l2 := order2_le lt d (k := k1) l1.2.1 hm
  obtain ⟨x2, y2, k2, h2⟩ : ∃ x y z, Sort.order2 lt d y1 m k1 = (x, y, z) := ⟨_, _, _, rfl⟩
  rw [h2] at l2
  have l3 := order2_le lt d (k := k2) l1.1 l2.1
  simp only [Sort.median, h1, h2]
  simp only [] at l1 l2 l3
  omega
end Go.Proofs.Ytajikhpjjbohaaa.Av

/- Sorting, part 9: choosing the pivot. -/
namespace Go.Proofs.Ytajikhpjjbohaaa.Av
open Go
set_option linter.unusedSimpArgs false
set_option linter.unusedVariables false
set_option maxRecDepth 100000
set_option maxHeartbeats 4000000
set_option pp.maxSteps 150

def hintI : Sort.Hint → Int
  | .unknown => 0
  | .increasing => 1
  | .decreasing => 2
/-- An end that keeps the objects of before. -/
theorem retK_drop {P : Program} {A : Env} {σ τ : St} {fn : Func} {K : AV → St → Prop} {e : Exit} (he : e = .normal ∨ e = .ret) {x : AV} (h : aresult P τ.m A fn.results = some x) (hx : x.flat = true) (hE : Ext σ τ) (hK : ∀ ρ : St, ρ.m = σ.m → (∀ s, σ.nx s ≤ ρ.nx s) → K x ρ) : RetK P fn K e A τ :=
  ⟨he, x, h, ⟨σ.m, τ.nx, fun i hi => Nat.lt_of_lt_of_le (σ.wf i hi) (hE.nx _)⟩, fun i o hi => hE.m i o hi, fun _ => Nat.le_refl _, x, by rw [giveUps_flat hx]; exact Weaker.refl _, hK _ rfl hE.nx⟩

theorem choosePivot_calls {g : FuncId} {c : Rg → Rg → Int} (hcc : Cmp g c) {o : Id} (hjs : o.sz = 2) {d : Array Rg} {a b : Nat} (hab : a < b) (hb : b ≤ d.size) (hsz : d.size < 2 ^ 38) {σ : St} (hj : σ.m o = some (bufOf d)) :
    ACalls Try.prog 55 [.rs o 0 d.size, .raw (.int .i64 a), .raw (.int .i64 b), .fn (.func g) [] []] σ fun r τ =>
      r = .tup [.raw (.int .i64 (Sort.choosePivot (ltOf c) d a b).1), .raw (.int .i64 (hintI (Sort.choosePivot (ltOf c) d a b).2))] ∧ τ.m = σ.m ∧ ∀ s, σ.nx s ≤ τ.nx s := by
  refine abody Try.func55 rfl (N := 63) rfl rfl (by simp) ?_
  obtain ⟨l, hl⟩ : ∃ l, b - a = l := ⟨_, rfl⟩
  obtain ⟨q, hq⟩ : ∃ q, l / 4 = q := ⟨_, rfl⟩
  obtain ⟨i, hi⟩ : ∃ i, a + q * 1 = i := ⟨_, rfl⟩
  obtain ⟨j, hjj⟩ : ∃ j, a + q * 2 = j := ⟨_, rfl⟩
  obtain ⟨k, hk⟩ : ∃ k, a + q * 3 = k := ⟨_, rfl⟩
  have w1 : IntKind.i64.wrap ((b : Int) - a) = l := by rw [wrap64 (by omega) (by omega)]; omega
  have w2 : (l : Int).tdiv 4 = q := by rw [Int.tdiv_eq_ediv_of_nonneg (by omega)]; omega
  have w3 : IntKind.i64.wrap (q : Int) = q := wrap64 (by omega) (by omega)
  have w4 : IntKind.i64.wrap ((q : Int) * 2) = ((q * 2 : Nat) : Int) := by rw [wrap64 (by omega) (by omega)]; omega
  have w5 : IntKind.i64.wrap ((q : Int) * 3) = ((q * 3 : Nat) : Int) := by rw [wrap64 (by omega) (by omega)]; omega
  have w6 : IntKind.i64.wrap ((a : Int) + q) = i := by rw [wrap64 (by omega) (by omega)]; omega
  have w7 : IntKind.i64.wrap ((a : Int) + ((q * 2 : Nat) : Int)) = j := by rw [wrap64 (by omega) (by omega)]; omega
  have w8 : IntKind.i64.wrap ((a : Int) + ((q * 3 : Nat) : Int)) = k := by rw [wrap64 (by omega) (by omega)]; omega
  generalize ((q * 2 : Nat) : Int) = q2 at *
  generalize ((q * 3 : Nat) : Int) = q3 at *
  (try (first | (with_reducible refine dops_go ?_; simp [w1, w2, w3, w4, w5, w6, w7, w8]) | (with_reducible refine OKv_go ?_; simp [w1, w2, w3, w4, w5, w6, w7, w8]) | (with_reducible refine OKr_go ?_; simp [w1, w2, w3, w4, w5, w6, w7, w8]))); repeat' (first | refine awp_seq ?_ | refine awp_block ?_ | (refine awp_skip ?_; try simp) | (refine awp_exit ?_; try simp) | (refine awp_ret ?_; try simp) | (refine retP_same (by simp) ?_; simp) | (refine retP_flat (by simp) (by simp) (by simp [w1, w2, w3, w4, w5, w6, w7, w8]) ?_; simp) | (refine awp_reg ?_; simp [w1, w2, w3, w4, w5, w6, w7, w8]) | (refine awp_drawT (fun _ => false) mixed (by decide +kernel) ?_; simp [w1, w2, w3, w4, w5, w6, w7, w8]) | (refine guarded_split ?_ ?_ <;> (intro hg; simp only [hg]; simp [w1, w2, w3, w4, w5, w6, w7, w8])) | (apply awp_cond_t; focus (simp [w1, w2, w3, w4, w5, w6, w7, w8]; done)) | (apply awp_cond_f; focus (simp [w1, w2, w3, w4, w5, w6, w7, w8]; done)))
  obtain ⟨pj, sw, hps⟩ : ∃ pj sw, (if l ≥ 8 then if l ≥ 50 then Sort.median (ltOf c) d (Sort.medianAdjacent (ltOf c) d i 0).1 (Sort.medianAdjacent (ltOf c) d j (Sort.medianAdjacent (ltOf c) d i 0).2).1 (Sort.medianAdjacent (ltOf c) d k (Sort.medianAdjacent (ltOf c) d j (Sort.medianAdjacent (ltOf c) d i 0).2).2).1 (Sort.medianAdjacent (ltOf c) d k (Sort.medianAdjacent (ltOf c) d j (Sort.medianAdjacent (ltOf c) d i 0).2).2).2 else Sort.median (ltOf c) d i j k 0 else (j, 0)) = (pj, sw) := ⟨_, _, rfl⟩
  have hch : Sort.choosePivot (ltOf c) d a b = (pj, if sw = 0 then .increasing else if sw = 12 then .decreasing else .unknown) := by
    simp only [Sort.choosePivot, hl, hq, hi, hjj, hk, hps]
  rw [hch]
  have how : (⟨11, σ.nx 11, 1⟩ : Id) ≠ o := fun e => by rw [← e, fresh_none] at hj; cases hj
  have hold : ∀ s : Int, (σ.new 11 1 (.buf [.raw (.int .i64 s)])).m o = some (bufOf d) := fun s => new_up _ _ hj
  refine awp_then_cut (fun A τ => A 13 = .raw (.int .i64 pj) ∧ A 11 = .rp ⟨11, σ.nx 11, 1⟩ 0 0 ∧ τ = σ.new 11 1 (.buf [.raw (.int .i64 sw)])) ?_ ?_
  · by_cases h8 : l ≥ 8
    · rw [if_pos h8] at hps
      have h8' : (8 : Int) ≤ l := by omega
      by_cases h50 : l ≥ 50
      · rw [if_pos h50] at hps
        have h50' : (50 : Int) ≤ l := by omega
        have c1 := medianAdj_calls hcc hjs rfl how (a := i) (k := 0) (by omega) (by omega) (by omega) (by omega) (hold 0) (by simp)
        have l1 := median_le (ltOf c) d (a := i - 1) (b := i) (m := i + 1) (k := 0) (n := d.size) (by omega) (by omega) (by omega)
        rw [show Sort.median (ltOf c) d (i - 1) i (i + 1) 0 = Sort.medianAdjacent (ltOf c) d i 0 from rfl] at l1
        obtain ⟨x1, s1, e1⟩ : ∃ x y, Sort.medianAdjacent (ltOf c) d i 0 = (x, y) := ⟨_, _, rfl⟩
        rw [e1] at c1 l1 hps
        simp only [new_set] at c1 l1 hps
        have c2 := medianAdj_calls hcc hjs rfl how (a := j) (k := s1) (by omega) (by omega) (by omega) (by omega) (hold s1) (by simp)
        have l2 := median_le (ltOf c) d (a := j - 1) (b := j) (m := j + 1) (k := s1) (n := d.size) (by omega) (by omega) (by omega)
        rw [show Sort.median (ltOf c) d (j - 1) j (j + 1) s1 = Sort.medianAdjacent (ltOf c) d j s1 from rfl] at l2
        obtain ⟨x2, s2, e2⟩ : ∃ x y, Sort.medianAdjacent (ltOf c) d j s1 = (x, y) := ⟨_, _, rfl⟩
        rw [e2] at c2 l2 hps
        simp only [new_set] at c2 l2 hps
        have c3 := medianAdj_calls hcc hjs rfl how (a := k) (k := s2) (by omega) (by omega) (by omega) (by omega) (hold s2) (by simp)
        have l3 := median_le (ltOf c) d (a := k - 1) (b := k) (m := k + 1) (k := s2) (n := d.size) (by omega) (by omega) (by omega)
        rw [show Sort.median (ltOf c) d (k - 1) k (k + 1) s2 = Sort.medianAdjacent (ltOf c) d k s2 from rfl] at l3
        obtain ⟨x3, s3, e3⟩ : ∃ x y, Sort.medianAdjacent (ltOf c) d k s2 = (x, y) := ⟨_, _, rfl⟩
        rw [e3] at c3 l3 hps
        simp only [new_set] at c3 l3 hps
        have c4 := median_calls hcc hjs rfl how (a := x1) (b := x2) (m := x3) (k := s3) l1.1 l2.1 l3.1 (by omega) (by omega) (hold s3) (by simp)
        rw [hps] at c4
        simp only [new_set] at c4
        (try (first | (with_reducible refine dops_go ?_; simp [h8', h50']) | (with_reducible refine OKv_go ?_; simp [h8', h50']) | (with_reducible refine OKr_go ?_; simp [h8', h50']))); repeat' (first | refine awp_seq ?_ | refine awp_block ?_ | (refine awp_skip ?_; try simp) | (refine awp_exit ?_; try simp) | (refine awp_ret ?_; try simp) | (refine retP_same (by simp) ?_; simp) | (refine retP_flat (by simp) (by simp) (by simp [h8', h50']) ?_; simp) | (refine awp_reg ?_; simp [h8', h50']) | (refine awp_drawT (fun _ => false) mixed (by decide +kernel) ?_; simp [h8', h50']) | (refine guarded_split ?_ ?_ <;> (intro hg; simp only [hg]; simp [h8', h50'])) | (apply awp_cond_t; focus (simp [h8', h50']; done)) | (apply awp_cond_f; focus (simp [h8', h50']; done)) | (refine awp_cond ?_; simp [h8', h50']; refine ⟨?_, ?_⟩ <;> intro hc))
        refine c1.mono ?_
        rintro _ τ ⟨rfl, rfl⟩
        (try (first | (with_reducible refine dops_go ?_; simp [h8', h50']) | (with_reducible refine OKv_go ?_; simp [h8', h50']) | (with_reducible refine OKr_go ?_; simp [h8', h50']))); repeat' (first | refine awp_seq ?_ | refine awp_block ?_ | (refine awp_skip ?_; try simp) | (refine awp_exit ?_; try simp) | (refine awp_ret ?_; try simp) | (refine retP_same (by simp) ?_; simp) | (refine retP_flat (by simp) (by simp) (by simp [h8', h50']) ?_; simp) | (refine awp_reg ?_; simp [h8', h50']) | (refine awp_drawT (fun _ => false) mixed (by decide +kernel) ?_; simp [h8', h50']) | (refine guarded_split ?_ ?_ <;> (intro hg; simp only [hg]; simp [h8', h50'])) | (apply awp_cond_t; focus (simp [h8', h50']; done)) | (apply awp_cond_f; focus (simp [h8', h50']; done)) | (refine awp_cond ?_; simp [h8', h50']; refine ⟨?_, ?_⟩ <;> intro hc))
        refine c2.mono ?_
        rintro _ τ ⟨rfl, rfl⟩
        (try (first | (with_reducible refine dops_go ?_; simp [h8', h50']) | (with_reducible refine OKv_go ?_; simp [h8', h50']) | (with_reducible refine OKr_go ?_; simp [h8', h50']))); repeat' (first | refine awp_seq ?_ | refine awp_block ?_ | (refine awp_skip ?_; try simp) | (refine awp_exit ?_; try simp) | (refine awp_ret ?_; try simp) | (refine retP_same (by simp) ?_; simp) | (refine retP_flat (by simp) (by simp) (by simp [h8', h50']) ?_; simp) | (refine awp_reg ?_; simp [h8', h50']) | (refine awp_drawT (fun _ => false) mixed (by decide +kernel) ?_; simp [h8', h50']) | (refine guarded_split ?_ ?_ <;> (intro hg; simp only [hg]; simp [h8', h50'])) | (apply awp_cond_t; focus (simp [h8', h50']; done)) | (apply awp_cond_f; focus (simp [h8', h50']; done)) | (refine awp_cond ?_; simp [h8', h50']; refine ⟨?_, ?_⟩ <;> intro hc))
        refine c3.mono ?_
        rintro _ τ ⟨rfl, rfl⟩
        (try (first | (with_reducible refine dops_go ?_; simp [h8', h50']) | (with_reducible refine OKv_go ?_; simp [h8', h50']) | (with_reducible refine OKr_go ?_; simp [h8', h50']))); repeat' (first | refine awp_seq ?_ | refine awp_block ?_ | (refine awp_skip ?_; try simp) | (refine awp_exit ?_; try simp) | (refine awp_ret ?_; try simp) | (refine retP_same (by simp) ?_; simp) | (refine retP_flat (by simp) (by simp) (by simp [h8', h50']) ?_; simp) | (refine awp_reg ?_; simp [h8', h50']) | (refine awp_drawT (fun _ => false) mixed (by decide +kernel) ?_; simp [h8', h50']) | (refine guarded_split ?_ ?_ <;> (intro hg; simp only [hg]; simp [h8', h50'])) | (apply awp_cond_t; focus (simp [h8', h50']; done)) | (apply awp_cond_f; focus (simp [h8', h50']; done)) | (refine awp_cond ?_; simp [h8', h50']; refine ⟨?_, ?_⟩ <;> intro hc))
        refine c4.mono ?_
        rintro _ τ ⟨rfl, rfl⟩
        (try (first | (with_reducible refine dops_go ?_; simp [h8', h50']) | (with_reducible refine OKv_go ?_; simp [h8', h50']) | (with_reducible refine OKr_go ?_; simp [h8', h50']))); repeat' (first | refine awp_seq ?_ | refine awp_block ?_ | (refine awp_skip ?_; try simp) | (refine awp_exit ?_; try simp) | (refine awp_ret ?_; try simp) | (refine retP_same (by simp) ?_; simp) | (refine retP_flat (by simp) (by simp) (by simp [h8', h50']) ?_; simp) | (refine awp_reg ?_; simp [h8', h50']) | (refine awp_drawT (fun _ => false) mixed (by decide +kernel) ?_; simp [h8', h50']) | (refine guarded_split ?_ ?_ <;> (intro hg; simp only [hg]; simp [h8', h50'])) | (apply awp_cond_t; focus (simp [h8', h50']; done)) | (apply awp_cond_f; focus (simp [h8', h50']; done)) | (refine awp_cond ?_; simp [h8', h50']; refine ⟨?_, ?_⟩ <;> intro hc))
      · rw [if_neg h50] at hps
        have h50' : ¬ (50 : Int) ≤ l := by omega
        have c4 := median_calls hcc hjs rfl how (a := i) (b := j) (m := k) (k := 0) (by omega) (by omega) (by omega) (by omega) (by omega) (hold 0) (by simp)
        rw [hps] at c4
        simp only [new_set] at c4
        (try (first | (with_reducible refine dops_go ?_; simp [h8', h50']) | (with_reducible refine OKv_go ?_; simp [h8', h50']) | (with_reducible refine OKr_go ?_; simp [h8', h50']))); repeat' (first | refine awp_seq ?_ | refine awp_block ?_ | (refine awp_skip ?_; try simp) | (refine awp_exit ?_; try simp) | (refine awp_ret ?_; try simp) | (refine retP_same (by simp) ?_; simp) | (refine retP_flat (by simp) (by simp) (by simp [h8', h50']) ?_; simp) | (refine awp_reg ?_; simp [h8', h50']) | (refine awp_drawT (fun _ => false) mixed (by decide +kernel) ?_; simp [h8', h50']) | (refine guarded_split ?_ ?_ <;> (intro hg; simp only [hg]; simp [h8', h50'])) | (apply awp_cond_t; focus (simp [h8', h50']; done)) | (apply awp_cond_f; focus (simp [h8', h50']; done)) | (refine awp_cond ?_; simp [h8', h50']; refine ⟨?_, ?_⟩ <;> intro hc))
        refine c4.mono ?_
        rintro _ τ ⟨rfl, rfl⟩
        (try (first | (with_reducible refine dops_go ?_; simp [h8', h50']) | (with_reducible refine OKv_go ?_; simp [h8', h50']) | (with_reducible refine OKr_go ?_; simp [h8', h50']))); repeat' (first | refine awp_seq ?_ | refine awp_block ?_ | (refine awp_skip ?_; try simp) | (refine awp_exit ?_; try simp) | (refine awp_ret ?_; try simp) | (refine retP_same (by simp) ?_; simp) | (refine retP_flat (by simp) (by simp) (by simp [h8', h50']) ?_; simp) | (refine awp_reg ?_; simp [h8', h50']) | (refine awp_drawT (fun _ => false) mixed (by decide +kernel) ?_; simp [h8', h50']) | (refine guarded_split ?_ ?_ <;> (intro hg; simp only [hg]; simp [h8', h50'])) | (apply awp_cond_t; focus (simp [h8', h50']; done)) | (apply awp_cond_f; focus (simp [h8', h50']; done)) | (refine awp_cond ?_; simp [h8', h50']; refine ⟨?_, ?_⟩ <;> intro hc))
    · rw [if_neg h8] at hps
      have h8' : ¬ (8 : Int) ≤ l := by omega
      injection hps with q1 q2
      subst q1 q2
      (try (first | (with_reducible refine dops_go ?_; simp [h8']) | (with_reducible refine OKv_go ?_; simp [h8']) | (with_reducible refine OKr_go ?_; simp [h8']))); repeat' (first | refine awp_seq ?_ | refine awp_block ?_ | (refine awp_skip ?_; try simp) | (refine awp_exit ?_; try simp) | (refine awp_ret ?_; try simp) | (refine retP_same (by simp) ?_; simp) | (refine retP_flat (by simp) (by simp) (by simp [h8']) ?_; simp) | (refine awp_reg ?_; simp [h8']) | (refine awp_drawT (fun _ => false) mixed (by decide +kernel) ?_; simp [h8']) | (refine guarded_split ?_ ?_ <;> (intro hg; simp only [hg]; simp [h8'])) | (apply awp_cond_t; focus (simp [h8']; done)) | (apply awp_cond_f; focus (simp [h8']; done)) | (refine awp_cond ?_; simp [h8']; refine ⟨?_, ?_⟩ <;> intro hc))
  · rintro A τ ⟨a13, a11, rfl⟩
    by_cases h0 : sw = 0
    · subst h0
      (try (first | (with_reducible refine dops_go ?_; simp [a13, a11]) | (with_reducible refine OKv_go ?_; simp [a13, a11]) | (with_reducible refine OKr_go ?_; simp [a13, a11]))); repeat' (first | refine awp_seq ?_ | refine awp_block ?_ | (refine awp_skip ?_; try simp) | (refine awp_exit ?_; try simp) | (refine awp_ret ?_; try simp) | (refine retP_same (by simp) ?_; simp) | (refine retP_flat (by simp) (by simp) (by simp [a13, a11]) ?_; simp) | (refine awp_reg ?_; simp [a13, a11]) | (refine awp_drawT (fun _ => false) mixed (by decide +kernel) ?_; simp [a13, a11]) | (refine guarded_split ?_ ?_ <;> (intro hg; simp only [hg]; simp [a13, a11])) | (apply awp_cond_t; focus (simp [a13, a11]; done)) | (apply awp_cond_f; focus (simp [a13, a11]; done)) | (refine awp_cond ?_; simp [a13, a11]; refine ⟨?_, ?_⟩ <;> intro hc))
      exact retK_drop (σ := σ) (x := .tup [.raw (.int .i64 pj), .raw (.int .i64 1)]) (.inr rfl) (by simp) (by simp) (Ext.new _ _ _ _) fun ρ h1 h2 => ⟨by simp [hintI], h1, h2⟩
    · have h0' : ¬ ((sw : Int) = 0) := by omega
      by_cases h12 : sw = 12
      · subst h12
        (try (first | (with_reducible refine dops_go ?_; simp [a13, a11]) | (with_reducible refine OKv_go ?_; simp [a13, a11]) | (with_reducible refine OKr_go ?_; simp [a13, a11]))); repeat' (first | refine awp_seq ?_ | refine awp_block ?_ | (refine awp_skip ?_; try simp) | (refine awp_exit ?_; try simp) | (refine awp_ret ?_; try simp) | (refine retP_same (by simp) ?_; simp) | (refine retP_flat (by simp) (by simp) (by simp [a13, a11]) ?_; simp) | (refine awp_reg ?_; simp [a13, a11]) | (refine awp_drawT (fun _ => false) mixed (by decide +kernel) ?_; simp [a13, a11]) | (refine guarded_split ?_ ?_ <;> (intro hg; simp only [hg]; simp [a13, a11])) | (apply awp_cond_t; focus (simp [a13, a11]; done)) | (apply awp_cond_f; focus (simp [a13, a11]; done)) | (refine awp_cond ?_; simp [a13, a11]; refine ⟨?_, ?_⟩ <;> intro hc))
        exact retK_drop (σ := σ) (x := .tup [.raw (.int .i64 pj), .raw (.int .i64 2)]) (.inr rfl) (by simp) (by simp) (Ext.new _ _ _ _) fun ρ h1 h2 => ⟨by simp [hintI], h1, h2⟩
      · have h12' : ¬ ((sw : Int) = 12) := by omega
        (try (first | (with_reducible refine dops_go ?_; simp [a13, a11, h0', h0, h12', h12]) | (with_reducible refine OKv_go ?_; simp [a13, a11, h0', h0, h12', h12]) | (with_reducible refine OKr_go ?_; simp [a13, a11, h0', h0, h12', h12]))); repeat' (first | refine awp_seq ?_ | refine awp_block ?_ | (refine awp_skip ?_; try simp) | (refine awp_exit ?_; try simp) | (refine awp_ret ?_; try simp) | (refine retP_same (by simp) ?_; simp) | (refine retP_flat (by simp) (by simp) (by simp [a13, a11, h0', h0, h12', h12]) ?_; simp) | (refine awp_reg ?_; simp [a13, a11, h0', h0, h12', h12]) | (refine awp_drawT (fun _ => false) mixed (by decide +kernel) ?_; simp [a13, a11, h0', h0, h12', h12]) | (refine guarded_split ?_ ?_ <;> (intro hg; simp only [hg]; simp [a13, a11, h0', h0, h12', h12])) | (apply awp_cond_t; focus (simp [a13, a11, h0', h0, h12', h12]; done)) | (apply awp_cond_f; focus (simp [a13, a11, h0', h0, h12', h12]; done)) | (refine awp_cond ?_; simp [a13, a11, h0', h0, h12', h12]; refine ⟨?_, ?_⟩ <;> intro hc))
        exact retK_drop (σ := σ) (x := .tup [.raw (.int .i64 pj), .raw (.int .i64 0)]) (.inr rfl) (by simp) (by simp) (Ext.new _ _ _ _) fun ρ h1 h2 => ⟨by simp [h0, h12, hintI], h1, h2⟩
end Go.Proofs.Ytajikhpjjbohaaa.Av

/- Sorting, part 10: bits.Len, the next power of two. -/
namespace Go.Proofs.Ytajikhpjjbohaaa.Av
open Go
set_option linter.unusedSimpArgs false
set_option linter.unusedVariables false
set_option maxRecDepth 100000
set_option maxHeartbeats 4000000
set_option pp.maxSteps 150

def lenTab : ByteArray := ⟨#[0, 1, 2, 2, 3, 3, 3, 3, 4, 4, 4, 4, 4, 4, 4, 4, 5, 5, 5, 5, 5, 5, 5, 5, 5, 5, 5, 5, 5, 5, 5, 5, 6, 6, 6, 6, 6, 6, 6, 6, 6, 6, 6, 6, 6, 6, 6, 6, 6, 6, 6, 6, 6, 6, 6, 6, 6, 6, 6, 6, 6, 6, 6, 6, 7, 7, 7, 7, 7, 7, 7, 7, 7, 7, 7, 7, 7, 7, 7, 7, 7, 7, 7, 7, 7, 7, 7, 7, 7, 7, 7, 7, 7, 7, 7, 7, 7, 7, 7, 7, 7, 7, 7, 7, 7, 7, 7, 7, 7, 7, 7, 7, 7, 7, 7, 7, 7, 7, 7, 7, 7, 7, 7, 7, 7, 7, 7, 7, 8, 8, 8, 8, 8, 8, 8, 8, 8, 8, 8, 8, 8, 8, 8, 8, 8, 8, 8, 8, 8, 8, 8, 8, 8, 8, 8, 8, 8, 8, 8, 8, 8, 8, 8, 8, 8, 8, 8, 8, 8, 8, 8, 8, 8, 8, 8, 8, 8, 8, 8, 8, 8, 8, 8, 8, 8, 8, 8, 8, 8, 8, 8, 8, 8, 8, 8, 8, 8, 8, 8, 8, 8, 8, 8, 8, 8, 8, 8, 8, 8, 8, 8, 8, 8, 8, 8, 8, 8, 8, 8, 8, 8, 8, 8, 8, 8, 8, 8, 8, 8, 8, 8, 8, 8, 8, 8, 8, 8, 8, 8, 8, 8, 8, 8, 8, 8, 8, 8, 8, 8, 8, 8, 8, 8, 8, 8, 8]⟩
theorem lenTab_get : ∀ x, x < 256 → ∃ b : UInt8, lenTab[x]? = some b ∧ b.toNat = Sort.bitsLen x := by
  have h : ∀ x, x < 256 → (lenTab[x]?).map (·.toNat) = some (Sort.bitsLen x) := by decide +kernel
  intro x hx
  obtain ⟨b, h1, h2⟩ := Option.map_eq_some_iff.1 (h x hx)
  exact ⟨b, h1, h2⟩
theorem len64_small (x : Nat) (hx : x < 256) : PCalls Try.prog 61 [.raw (.int .u64 x)] (.raw (.int .i64 (Sort.bitsLen x))) := by
  refine pbody Try.func61 rfl (N := 25) rfl rfl (by simp) (by simp [noIds]) fun σ => ?_
  have h1 : ¬ (4294967296 : Int) ≤ x := by omega
  have h2 : ¬ (65536 : Int) ≤ x := by omega
  have h3 : ¬ (256 : Int) ≤ x := by omega
  have w1 : IntKind.u8.wrap (x : Int) = x := by unfold IntKind.wrap; simp [IntKind.bits, IntKind.signed]; omega
  obtain ⟨b, hb, hb2⟩ := lenTab_get x hx
  unfold lenTab at hb
  have hb3 : Sort.bitsLen x < 256 := by rw [← hb2]; exact UInt8.toNat_lt b
  have w2 : IntKind.i64.wrap ((b.toNat : Nat) : Int) = Sort.bitsLen x := by rw [hb2]; exact wrap64 (by omega) (by omega)
  have w3 : IntKind.i64.wrap ((Sort.bitsLen x : Nat) : Int) = Sort.bitsLen x := wrap64 (by omega) (by omega)
  generalize hL : Sort.bitsLen x = L at *
  (try (first | (with_reducible refine dops_go ?_; simp [h1, h2, h3, w1, hb, w2, w3]) | (with_reducible refine OKv_go ?_; simp [h1, h2, h3, w1, hb, w2, w3]) | (with_reducible refine OKr_go ?_; simp [h1, h2, h3, w1, hb, w2, w3]))); repeat' (first | refine awp_seq ?_ | refine awp_block ?_ | (refine awp_skip ?_; try simp) | (refine awp_exit ?_; try simp) | (refine awp_ret ?_; try simp) | (refine retP_same (by simp) ?_; simp) | (refine retP_flat (by simp) (by simp) (by simp [h1, h2, h3, w1, hb, w2, w3]) ?_; simp) | (refine awp_reg ?_; simp [h1, h2, h3, w1, hb, w2, w3]) | (refine awp_drawT (fun _ => false) mixed (by decide +kernel) ?_; simp [h1, h2, h3, w1, hb, w2, w3]) | (refine guarded_split ?_ ?_ <;> (intro hg; simp only [hg]; simp [h1, h2, h3, w1, hb, w2, w3])) | (apply awp_cond_t; focus (simp [h1, h2, h3, w1, hb, w2, w3]; done)) | (apply awp_cond_f; focus (simp [h1, h2, h3, w1, hb, w2, w3]; done)) | (refine awp_cond ?_; simp [h1, h2, h3, w1, hb, w2, w3]; refine ⟨?_, ?_⟩ <;> intro hc))
  done
theorem len_small (x : Nat) (hx : x < 256) : PCalls Try.prog 51 [.raw (.int .u64 x)] (.raw (.int .i64 (Sort.bitsLen x))) := by
  refine pbody Try.func51 rfl (N := 8) rfl rfl (by simp) (by simp [noIds]) fun σ => ?_
  (try (first | (with_reducible refine dops_go ?_; simp) | (with_reducible refine OKv_go ?_; simp) | (with_reducible refine OKr_go ?_; simp))); repeat' (first | refine awp_seq ?_ | refine awp_block ?_ | (refine awp_skip ?_; try simp) | (refine awp_exit ?_; try simp) | (refine awp_ret ?_; try simp) | (refine retP_same (by simp) ?_; simp) | (refine retP_flat (by simp) (by simp) (by simp) ?_; simp) | (refine awp_reg ?_; simp) | (refine awp_drawT (fun _ => false) mixed (by decide +kernel) ?_; simp) | (refine guarded_split ?_ ?_ <;> (intro hg; simp only [hg]; simp)) | (apply awp_cond_t; focus (simp; done)) | (apply awp_cond_f; focus (simp; done)) | (refine awp_cond ?_; simp; refine ⟨?_, ?_⟩ <;> intro hc))
  refine PCalls.use (len64_small x hx) ?_
  (try (first | (with_reducible refine dops_go ?_; simp) | (with_reducible refine OKv_go ?_; simp) | (with_reducible refine OKr_go ?_; simp))); repeat' (first | refine awp_seq ?_ | refine awp_block ?_ | (refine awp_skip ?_; try simp) | (refine awp_exit ?_; try simp) | (refine awp_ret ?_; try simp) | (refine retP_same (by simp) ?_; simp) | (refine retP_flat (by simp) (by simp) (by simp) ?_; simp) | (refine awp_reg ?_; simp) | (refine awp_drawT (fun _ => false) mixed (by decide +kernel) ?_; simp) | (refine guarded_split ?_ ?_ <;> (intro hg; simp only [hg]; simp)) | (apply awp_cond_t; focus (simp; done)) | (apply awp_cond_f; focus (simp; done)) | (refine awp_cond ?_; simp; refine ⟨?_, ?_⟩ <;> intro hc))
theorem nextPow_calls (x : Nat) (hx : x < 256) : PCalls Try.prog 63 [.raw (.int .i64 x)] (.raw (.int .u64 ((1 <<< Sort.bitsLen x : Nat) : Int))) := by
  refine pbody Try.func63 rfl (N := 7) rfl rfl (by simp) (by simp [noIds]) fun σ => ?_
  have hL : Sort.bitsLen x ≤ 8 := by
    have : ∀ x, x < 256 → Sort.bitsLen x ≤ 8 := by decide +kernel
    exact this x hx
  have w1 : IntKind.u64.wrap (x : Int) = x := wrapU64 (by omega) (by omega)
  have hv : IntKind.u64.wrap (1 * 2 ^ (min (Sort.bitsLen x) IntKind.u64.bits)) = ((1 <<< Sort.bitsLen x : Nat) : Int) := by
    generalize Sort.bitsLen x = L at *
    have : ∀ L, L ≤ 8 → IntKind.u64.wrap (1 * 2 ^ (min L IntKind.u64.bits)) = ((1 <<< L : Nat) : Int) := by decide +kernel
    exact this L hL
  (try (first | (with_reducible refine dops_go ?_; simp [w1]) | (with_reducible refine OKv_go ?_; simp [w1]) | (with_reducible refine OKr_go ?_; simp [w1]))); repeat' (first | refine awp_seq ?_ | refine awp_block ?_ | (refine awp_skip ?_; try simp) | (refine awp_exit ?_; try simp) | (refine awp_ret ?_; try simp) | (refine retP_same (by simp) ?_; simp) | (refine retP_flat (by simp) (by simp) (by simp [w1]) ?_; simp) | (refine awp_reg ?_; simp [w1]) | (refine awp_drawT (fun _ => false) mixed (by decide +kernel) ?_; simp [w1]) | (refine guarded_split ?_ ?_ <;> (intro hg; simp only [hg]; simp [w1])) | (apply awp_cond_t; focus (simp [w1]; done)) | (apply awp_cond_f; focus (simp [w1]; done)) | (refine awp_cond ?_; simp [w1]; refine ⟨?_, ?_⟩ <;> intro hc))
  refine PCalls.use (len_small x hx) ?_
  simp only [Int.one_mul] at hv
  (try (first | (with_reducible refine dops_go ?_; simp [w1, hv]) | (with_reducible refine OKv_go ?_; simp [w1, hv]) | (with_reducible refine OKr_go ?_; simp [w1, hv]))); repeat' (first | refine awp_seq ?_ | refine awp_block ?_ | (refine awp_skip ?_; try simp) | (refine awp_exit ?_; try simp) | (refine awp_ret ?_; try simp) | (refine retP_same (by simp) ?_; simp) | (refine retP_flat (by simp) (by simp) (by simp [w1, hv]) ?_; simp) | (refine awp_reg ?_; simp [w1, hv]) | (refine awp_drawT (fun _ => false) mixed (by decide +kernel) ?_; simp [w1, hv]) | (refine guarded_split ?_ ?_ <;> (intro hg; simp only [hg]; simp [w1, hv])) | (apply awp_cond_t; focus (simp [w1, hv]; done)) | (apply awp_cond_f; focus (simp [w1, hv]; done)) | (refine awp_cond ?_; simp [w1, hv]; refine ⟨?_, ?_⟩ <;> intro hc))
end Go.Proofs.Ytajikhpjjbohaaa.Av

/- Sorting, part 11: breaking patterns. -/
namespace Go.Proofs.Ytajikhpjjbohaaa.Av
open Go
set_option linter.unusedSimpArgs false
set_option linter.unusedVariables false
set_option maxRecDepth 100000
set_option maxHeartbeats 4000000
set_option pp.maxSteps 1500

theorem u64_xor (a b : UInt64) : IntKind.u64.wrap (((((a.toNat : Int) % 2 ^ IntKind.u64.bits).toNat ^^^ (((b.toNat : Int)) % 2 ^ IntKind.u64.bits).toNat : Nat)) : Int) = ((a ^^^ b).toNat : Int) := by
  have h1 : (((a.toNat : Int) % 2 ^ IntKind.u64.bits).toNat) = a.toNat := by
    have := a.toNat_lt; simp only [IntKind.bits]; omega
  have h2 : (((b.toNat : Int) % 2 ^ IntKind.u64.bits).toNat) = b.toNat := by
    have := b.toNat_lt; simp only [IntKind.bits]; omega
  rw [h1, h2, ← UInt64.toNat_xor]
  have := (a ^^^ b).toNat_lt
  exact wrapU64 (by omega) (by omega)
theorem u64_shl13 (r : UInt64) : IntKind.u64.wrap ((r.toNat : Int) * 2 ^ min 13 IntKind.u64.bits) = ((r <<< 13).toNat : Int) := by
  rw [UInt64.toNat_shiftLeft]
  simp only [IntKind.wrap, IntKind.bits, IntKind.signed, Bool.false_and, Bool.false_eq_true, if_false, Nat.shiftLeft_eq]
  have := r.toNat_lt
  show (r.toNat : Int) * 2 ^ 13 % 2 ^ 64 = ((r.toNat * 2 ^ 13 % 2 ^ 64 : Nat) : Int)
  omega
theorem u64_shl17 (r : UInt64) : IntKind.u64.wrap ((r.toNat : Int) * 2 ^ min 17 IntKind.u64.bits) = ((r <<< 17).toNat : Int) := by
  rw [UInt64.toNat_shiftLeft]
  simp only [IntKind.wrap, IntKind.bits, IntKind.signed, Bool.false_and, Bool.false_eq_true, if_false, Nat.shiftLeft_eq]
  have := r.toNat_lt
  show (r.toNat : Int) * 2 ^ 17 % 2 ^ 64 = ((r.toNat * 2 ^ 17 % 2 ^ 64 : Nat) : Int)
  omega
theorem u64_shr7 (r : UInt64) : ((r.toNat : Int)).fdiv (2 ^ min 7 IntKind.u64.bits) = ((r >>> 7).toNat : Int) := by
  rw [UInt64.toNat_shiftRight]
  show ((r.toNat : Int)).fdiv (2 ^ 7) = ((r.toNat >>> 7 : Nat) : Int)
  rw [Nat.shiftRight_eq_div_pow, Int.fdiv_eq_ediv_of_nonneg _ (by omega)]
  omega
theorem xor_calls {w : Id} (hws : w.sz = 1) (r : UInt64) {σ : St} (hw : σ.m w = some (.buf [.raw (.int .u64 r.toNat)])) :
    ACalls Try.prog 64 [.rp w 0 0] σ fun v τ => v = .raw (.int .u64 (Sort.xorNext r).toNat) ∧ τ = σ.set w (.buf [.raw (.int .u64 (Sort.xorNext r).toNat)]) := by
  refine abody Try.func64 rfl (N := 33) rfl rfl (by simp) ?_
  obtain ⟨r1, h1⟩ : ∃ r1, r ^^^ (r <<< 13) = r1 := ⟨_, rfl⟩
  obtain ⟨r2, h2⟩ : ∃ r2, r1 ^^^ (r1 >>> 7) = r2 := ⟨_, rfl⟩
  obtain ⟨r3, h3⟩ : ∃ r3, r2 ^^^ (r2 <<< 17) = r3 := ⟨_, rfl⟩
  have hx : Sort.xorNext r = r3 := by simp only [Sort.xorNext, h1, h2, h3]
  rw [hx]
  have x1 := u64_xor r (r <<< 13)
  have x2 := u64_xor r1 (r1 >>> 7)
  have x3 := u64_xor r2 (r2 <<< 17)
  rw [h1] at x1
  rw [h2] at x2
  rw [h3] at x3
  have y1 := u64_shl13 r
  have y2 := u64_shr7 r1
  have y3 := u64_shl17 r2
  generalize r <<< 13 = s1 at *
  generalize r1 >>> 7 = s2 at *
  generalize r2 <<< 17 = s3 at *
  (try (first | (with_reducible refine dops_go ?_; simp [hw, hws, x1, x2, x3, y1, y2, y3]) | (with_reducible refine OKv_go ?_; simp [hw, hws, x1, x2, x3, y1, y2, y3]) | (with_reducible refine OKr_go ?_; simp [hw, hws, x1, x2, x3, y1, y2, y3]))); repeat' (first | refine awp_seq ?_ | refine awp_block ?_ | (refine awp_skip ?_; try simp) | (refine awp_exit ?_; try simp) | (refine awp_ret ?_; try simp) | (refine retP_same (by simp) ?_; simp) | (refine retP_flat (by simp) (by simp) (by simp [hw, hws, x1, x2, x3, y1, y2, y3]) ?_; simp) | (refine awp_reg ?_; simp [hw, hws, x1, x2, x3, y1, y2, y3]) | (refine awp_drawT (fun _ => false) mixed (by decide +kernel) ?_; simp [hw, hws, x1, x2, x3, y1, y2, y3]) | (refine guarded_split ?_ ?_ <;> (intro hg; simp only [hg]; simp [hw, hws, x1, x2, x3, y1, y2, y3])) | (apply awp_cond_t; focus (simp [hw, hws, x1, x2, x3, y1, y2, y3]; done)) | (apply awp_cond_f; focus (simp [hw, hws, x1, x2, x3, y1, y2, y3]; done)) | (refine awp_cond ?_; simp [hw, hws, x1, x2, x3, y1, y2, y3]; refine ⟨?_, ?_⟩ <;> intro hc))
  exact retK_of (x := .raw (.int .u64 r3.toNat)) (.inr rfl) (by simp) ⟨rfl, by simp⟩
end Go.Proofs.Ytajikhpjjbohaaa.Av

/- Sorting, part 12: breaking patterns. -/
namespace Go.Proofs.Ytajikhpjjbohaaa.Av
open Go
set_option linter.unusedSimpArgs false
set_option linter.unusedVariables false
set_option maxRecDepth 100000
set_option maxHeartbeats 4000000
set_option pp.maxSteps 1500

theorem u64_and (a b : UInt64) : IntKind.u64.wrap (((((a.toNat : Int) % 2 ^ IntKind.u64.bits).toNat &&& (((b.toNat : Int)) % 2 ^ IntKind.u64.bits).toNat : Nat)) : Int) = ((a.toNat &&& b.toNat : Nat) : Int) := by
  have h1 : (((a.toNat : Int) % 2 ^ IntKind.u64.bits).toNat) = a.toNat := by
    have := a.toNat_lt; simp only [IntKind.bits]; omega
  have h2 : (((b.toNat : Int) % 2 ^ IntKind.u64.bits).toNat) = b.toNat := by
    have := b.toNat_lt; simp only [IntKind.bits]; omega
  rw [h1, h2]
  have := a.toNat_lt
  have h3 : a.toNat &&& b.toNat ≤ a.toNat := Nat.and_le_left
  exact wrapU64 (by omega) (by omega)

/-- An end that keeps the objects of another state. -/
theorem retK_drop' {P : Program} {A : Env} {ρ τ : St} {fn : Func} {K : AV → St → Prop} {e : Exit} (he : e = .normal ∨ e = .ret) {x : AV} (h : aresult P τ.m A fn.results = some x) (hx : x.flat = true) (hE : ∀ i o, ρ.m i = some o → τ.m i = some o) (hn : ∀ s, ρ.nx s ≤ τ.nx s)
    (hK : ∀ π : St, π.m = ρ.m → (∀ s, ρ.nx s ≤ π.nx s) → K x π) : RetK P fn K e A τ :=
  ⟨he, x, h, ⟨ρ.m, τ.nx, fun i hi => Nat.lt_of_lt_of_le (ρ.wf i hi) (hn _)⟩, hE, fun _ => Nat.le_refl _, x, by rw [giveUps_flat hx]; exact Weaker.refl _, hK _ rfl hn⟩
/-- After so many steps. -/
def brk (a l m i : Nat) (st : UInt64 × Array Rg) : Nat → UInt64 × Array Rg
  | 0 => st
  | k + 1 => Sort.breakStep a l m (brk a l m i st k) (i + k)

theorem brk_size (a l m i : Nat) (st : UInt64 × Array Rg) : ∀ k, (brk a l m i st k).2.size = st.2.size
  | 0 => rfl
  | k + 1 => by
    simp only [brk, Sort.breakStep, swp_size', brk_size a l m i st k]

theorem break_calls {g : FuncId} {o : Id} (hjs : o.sz = 2) {d : Array Rg} {a b : Nat} (hab : a < b) (hb : b ≤ d.size) (hsz : d.size < 256) {σ : St} (hj : σ.m o = some (bufOf d)) :
    ACalls Try.prog 54 [.rs o 0 d.size, .raw (.int .i64 a), .raw (.int .i64 b), .fn (.func g) [] []] σ fun r τ =>
      r = .tup [] ∧ τ.m = (σ.set o (bufOf (Sort.breakPatterns d a b))).m ∧ ∀ s, σ.nx s ≤ τ.nx s := by
  refine abody Try.func54 rfl (N := 67) rfl rfl (by simp) ?_
  obtain ⟨l, hl⟩ : ∃ l, b - a = l := ⟨_, rfl⟩
  have w1 : IntKind.i64.wrap ((b : Int) - a) = l := by rw [wrap64 (by omega) (by omega)]; omega
  by_cases h8 : l ≥ 8
  · have h8' : (8 : Int) ≤ l := by omega
    have w2 : IntKind.u64.wrap (l : Int) = l := wrapU64 (by omega) (by omega)
    obtain ⟨q, hq⟩ : ∃ q, l / 4 * 2 = q := ⟨_, rfl⟩
    obtain ⟨i0, hi0⟩ : ∃ i0, a + q - 1 = i0 := ⟨_, rfl⟩
    have w3 : (l : Int).tdiv 4 = ((l / 4 : Nat) : Int) := by rw [Int.tdiv_eq_ediv_of_nonneg (by omega)]; omega
    have w4 : IntKind.i64.wrap ((l / 4 : Nat) : Int) = ((l / 4 : Nat) : Int) := wrap64 (by omega) (by omega)
    have w5 : IntKind.i64.wrap (((l / 4 : Nat) : Int) * 2) = q := by rw [wrap64 (by omega) (by omega)]; omega
    have w6 : IntKind.i64.wrap ((a : Int) + q) = ((a + q : Nat) : Int) := by rw [wrap64 (by omega) (by omega)]; omega
    have w7 : IntKind.i64.wrap (((a + q : Nat) : Int) - 1) = i0 := by rw [wrap64 (by omega) (by omega)]; omega
    have w8 : IntKind.i64.wrap (((a + q : Nat) : Int) + 1) = ((i0 + 2 : Nat) : Int) := by rw [wrap64 (by omega) (by omega)]; omega
    obtain ⟨M, hM⟩ : ∃ M, 1 <<< Sort.bitsLen l = M := ⟨_, rfl⟩
    have hM2 : 1 ≤ M ∧ M ≤ 2 * l := by
      have : ∀ l, l < 256 → 8 ≤ l → 1 ≤ 1 <<< Sort.bitsLen l ∧ 1 <<< Sort.bitsLen l ≤ 2 * l := by decide +kernel
      rw [← hM]; exact this l (by omega) h8
    have hnp := nextPow_calls l (by omega)
    rw [hM] at hnp
    have hbrk : Sort.breakPatterns d a b = (brk a l M i0 (UInt64.ofNat l, d) 3).2 := by
      simp only [Sort.breakPatterns, hl, hq, hi0, hM, brk]
      rw [if_pos h8]; rfl
    rw [hbrk]
    have hr0 : (UInt64.ofNat l).toNat = l := by rw [UInt64.toNat_ofNat']; omega
    have hd0 : (brk a l M i0 (UInt64.ofNat l, d) 0) = (UInt64.ofNat l, d) := rfl
    have hds := brk_size a l M i0 (UInt64.ofNat l, d)
    have hB : ∀ k, brk a l M i0 (UInt64.ofNat l, d) (k + 1) = Sort.breakStep a l M (brk a l M i0 (UInt64.ofNat l, d) k) (i0 + k) := fun k => rfl
    generalize brk a l M i0 (UInt64.ofNat l, d) = B at *
    generalize hl4 : ((l / 4 : Nat) : Int) = l4 at *
    generalize haq : ((a + q : Nat) : Int) = aq at *
    generalize hi2 : ((i0 + 2 : Nat) : Int) = i2 at *
    (try (first | (with_reducible refine dops_go ?_; simp [w1, h8', w2]) | (with_reducible refine OKv_go ?_; simp [w1, h8', w2]) | (with_reducible refine OKr_go ?_; simp [w1, h8', w2]))); repeat' (first | refine awp_seq ?_ | refine awp_block ?_ | (refine awp_skip ?_; try simp) | (refine awp_exit ?_; try simp) | (refine awp_ret ?_; try simp) | (refine retP_same (by simp) ?_; simp) | (refine retP_flat (by simp) (by simp) (by simp [w1, h8', w2]) ?_; simp) | (refine awp_reg ?_; simp [w1, h8', w2]) | (refine awp_drawT (fun _ => false) mixed (by decide +kernel) ?_; simp [w1, h8', w2]) | (refine guarded_split ?_ ?_ <;> (intro hg; simp only [hg]; simp [w1, h8', w2])) | (apply awp_cond_t; focus (simp [w1, h8', w2]; done)) | (apply awp_cond_f; focus (simp [w1, h8', w2]; done)) | (refine awp_cond ?_; simp [w1, h8', w2]; refine ⟨?_, ?_⟩ <;> intro hc))
    refine PCalls.use hnp ?_
    (try (first | (with_reducible refine dops_go ?_; simp [w1, h8', w3, w4, w5, w6, w7]) | (with_reducible refine OKv_go ?_; simp [w1, h8', w3, w4, w5, w6, w7]) | (with_reducible refine OKr_go ?_; simp [w1, h8', w3, w4, w5, w6, w7]))); repeat' (first | refine awp_seq ?_ | refine awp_block ?_ | (refine awp_skip ?_; try simp) | (refine awp_exit ?_; try simp) | (refine awp_ret ?_; try simp) | (refine retP_same (by simp) ?_; simp) | (refine retP_flat (by simp) (by simp) (by simp [w1, h8', w3, w4, w5, w6, w7]) ?_; simp) | (refine awp_reg ?_; simp [w1, h8', w3, w4, w5, w6, w7]) | (refine awp_drawT (fun _ => false) mixed (by decide +kernel) ?_; simp [w1, h8', w3, w4, w5, w6, w7]) | (refine guarded_split ?_ ?_ <;> (intro hg; simp only [hg]; simp [w1, h8', w3, w4, w5, w6, w7])) | (apply awp_cond_t; focus (simp [w1, h8', w3, w4, w5, w6, w7]; done)) | (apply awp_cond_f; focus (simp [w1, h8', w3, w4, w5, w6, w7]; done)) | (refine awp_cond ?_; simp [w1, h8', w3, w4, w5, w6, w7]; refine ⟨?_, ?_⟩ <;> intro hc))
    have how : (⟨9, σ.nx 9, 1⟩ : Id) ≠ o := fun e => by rw [← e, fresh_none] at hj; cases hj
    generalize hw : (⟨9, σ.nx 9, 1⟩ : Id) = w at *
    have hwm : ∀ x, (σ.new 9 1 x).m w = some x := fun x => by rw [← hw]; simp
    have hwn : σ.m w = none := by rw [← hw]; exact fresh_none _ _ _
    have hold : ∀ x i, i ≠ w → (σ.new 9 1 x).m i = σ.m i := fun x i hi => by rw [← hw] at hi; exact new_other hi
    have hnx : ∀ x s, σ.nx s ≤ (σ.new 9 1 x).nx s := fun x s => St.new_le _ _ _ _ _
    have hws : w.sz = 1 := by rw [← hw]
    have hns : ∀ x y, (σ.new 9 1 x).set w y = σ.new 9 1 y := fun x y => by rw [← hw]; simp
    refine awp_loop (fun n A τ => ∃ k, n = 3 - k ∧ k ≤ 3 ∧ A 0 = .rs o 0 d.size ∧ A 1 = .raw (.int .i64 a) ∧ A 8 = .raw (.int .i64 l) ∧ A 9 = .rp w 0 0 ∧ A 10 = .raw (.int .u64 M) ∧ A 11 = .raw (.int .i64 ((i0 + k : Nat) : Int)) ∧
      τ.m o = some (bufOf (B k).2) ∧ τ.m w = some (.buf [.raw (.int .u64 (B k).1.toNat)]) ∧ (∀ i, i ≠ o → i ≠ w → τ.m i = σ.m i) ∧ ∀ s, σ.nx s ≤ τ.nx s) 3 ?_ ?_
    · refine ⟨0, rfl, by omega, by simp, by simp, by simp, by simp, by simp, by simp, ?_, ?_, ?_, ?_⟩
      · rw [hns, hold _ _ (Ne.symm how), hd0]; exact hj
      · rw [hns, hwm, hd0, hr0]
      · intro i h1 h2; rw [hns]; exact hold _ _ h2
      · exact hnx (.buf [])
    rintro n A τ ⟨k, rfl, hk, a0, a1, a8, a9, a10, a11, ht, htw, hot, hnx'⟩
    by_cases hk3 : k < 3
    · have hle : ((i0 + k : Nat) : Int) ≤ i2 := by omega
      obtain ⟨ix, hix⟩ : ∃ ix, i0 + k = ix := ⟨_, rfl⟩
      rw [hix] at a11 hle
      have hx := xor_calls hws _ htw
      have hstep : B (k + 1) = Sort.breakStep a l M (B k) ix := by rw [hB, hix]
      have hsz' := hds k
      obtain ⟨r, hr⟩ : ∃ r, Sort.xorNext (B k).1 = r := ⟨_, rfl⟩
      rw [hr] at hx
      simp only [Sort.breakStep, hr] at hstep
      obtain ⟨e, he⟩ : ∃ e, (B k).2 = e := ⟨_, rfl⟩
      rw [he] at ht hsz' hstep
      simp only [] at hsz'
      obtain ⟨m1, hm1⟩ : ∃ m1 : UInt64, m1.toNat = M - 1 := ⟨UInt64.ofNat (M - 1), by rw [UInt64.toNat_ofNat']; omega⟩
      have v1 : IntKind.u64.wrap ((M : Int) - 1) = (m1.toNat : Int) := by rw [wrapU64 (by omega) (by omega)]; omega
      have v2 := u64_and r m1
      rw [hm1] at v1 v2
      have hle2 : r.toNat &&& (M - 1) ≤ M - 1 := Nat.and_le_right
      obtain ⟨x, hx'⟩ : ∃ x, r.toNat &&& (M - 1) = x := ⟨_, rfl⟩
      rw [hx'] at v2 hle2 hstep
      have v3 : IntKind.i64.wrap (x : Int) = x := wrap64 (by omega) (by omega)
      generalize ((M - 1 : Nat) : Int) = M1 at *
      obtain ⟨y, hy⟩ : ∃ y, (if x ≥ l then x - l else x) = y := ⟨_, rfl⟩
      rw [hy] at hstep
      have hyl : y < l := by rw [← hy]; split <;> omega
      have v4 : IntKind.i64.wrap ((x : Int) - l) = ((x - l : Nat) : Int) ∨ x < l := by
        by_cases h : x < l
        · exact .inr h
        · exact .inl (by rw [wrap64 (by omega) (by omega)]; omega)
      obtain ⟨z, hz⟩ : ∃ z, a + y = z := ⟨_, rfl⟩
      have v5 : IntKind.i64.wrap ((a : Int) + y) = z := by rw [wrap64 (by omega) (by omega)]; omega
      have v6 : IntKind.i64.wrap ((ix : Int) + 1) = ((i0 + (k + 1) : Nat) : Int) := by rw [wrap64 (by omega) (by omega)]; omega
      rw [hz] at hstep
      (try (first | (with_reducible refine dops_go ?_; simp [a0, a1, a8, a9, a10, a11, w3, w4, w5, w6, w8, hle]) | (with_reducible refine OKv_go ?_; simp [a0, a1, a8, a9, a10, a11, w3, w4, w5, w6, w8, hle]) | (with_reducible refine OKr_go ?_; simp [a0, a1, a8, a9, a10, a11, w3, w4, w5, w6, w8, hle]))); repeat' (first | refine awp_seq ?_ | refine awp_block ?_ | (refine awp_skip ?_; try simp) | (refine awp_exit ?_; try simp) | (refine awp_ret ?_; try simp) | (refine retP_same (by simp) ?_; simp) | (refine retP_flat (by simp) (by simp) (by simp [a0, a1, a8, a9, a10, a11, w3, w4, w5, w6, w8, hle]) ?_; simp) | (refine awp_reg ?_; simp [a0, a1, a8, a9, a10, a11, w3, w4, w5, w6, w8, hle]) | (refine awp_drawT (fun _ => false) mixed (by decide +kernel) ?_; simp [a0, a1, a8, a9, a10, a11, w3, w4, w5, w6, w8, hle]) | (refine guarded_split ?_ ?_ <;> (intro hg; simp only [hg]; simp [a0, a1, a8, a9, a10, a11, w3, w4, w5, w6, w8, hle])) | (apply awp_cond_t; focus (simp [a0, a1, a8, a9, a10, a11, w3, w4, w5, w6, w8, hle]; done)) | (apply awp_cond_f; focus (simp [a0, a1, a8, a9, a10, a11, w3, w4, w5, w6, w8, hle]; done)))
      refine hx.mono ?_
      rintro _ τ1 ⟨rfl, rfl⟩
      have ht1 : (τ.set w (.buf [.raw (.int .u64 r.toNat)])).m o = some (.buf (e.toList.map rgAV)) := by rw [set_other (Ne.symm how)]; exact ht
      have htw1 : (τ.set w (.buf [.raw (.int .u64 r.toNat)])).m w = some (.buf [.raw (.int .u64 r.toNat)]) := by simp [htw]
      have hot1 : ∀ i, i ≠ o → i ≠ w → (τ.set w (.buf [.raw (.int .u64 r.toNat)])).m i = σ.m i := fun i h1 h2 => by rw [set_other h2]; exact hot i h1 h2
      have hnx1 : ∀ s, σ.nx s ≤ (τ.set w (.buf [.raw (.int .u64 r.toNat)])).nx s := hnx'
      generalize τ.set w (.buf [.raw (.int .u64 r.toNat)]) = τ1 at *
      have gx : e[z]? = some e[z]! := get_bang (by omega)
      have gy : e[ix]? = some e[ix]! := get_bang (by omega)
      have g1 : (z : Int) < d.size := by omega
      have g3 : (ix : Int) < d.size := by omega
      have hsw := set_get e (i := ix) (k := z) (by omega) (by omega)
      have f1 : Ob.buf ((Sort.swp e ix z).toList.map rgAV) = bufOf (B (k + 1)).2 := by simp [hstep, bufOf]
      have f2 : (τ1.set o (.buf ((Sort.swp e ix z).toList.map rgAV))).m w = some (.buf [.raw (.int .u64 (B (k + 1)).1.toNat)]) := by rw [set_other how, htw1, hstep]
      have f3 : ∀ i, ¬ i = o → ¬ i = w → (τ1.set o (.buf ((Sort.swp e ix z).toList.map rgAV))).m i = σ.m i := by
        intro i h1 h2; rw [set_other h1]; exact hot1 i h1 h2
      by_cases hxl : x < l
      · have hxl' : ¬ (l : Int) ≤ x := by omega
        rw [if_neg (by omega)] at hy
        subst hy
        (try (first | (with_reducible refine dops_go ?_; simp [a0, a1, a8, a9, a10, a11, v1, v2, v3, v5, v6, hxl', ht1, gx, gy, g1, g3, hsw, hjs, rg_cells, rg_fold, rg_setPart, swp_buf, hsz']) | (with_reducible refine OKv_go ?_; simp [a0, a1, a8, a9, a10, a11, v1, v2, v3, v5, v6, hxl', ht1, gx, gy, g1, g3, hsw, hjs, rg_cells, rg_fold, rg_setPart, swp_buf, hsz']) | (with_reducible refine OKr_go ?_; simp [a0, a1, a8, a9, a10, a11, v1, v2, v3, v5, v6, hxl', ht1, gx, gy, g1, g3, hsw, hjs, rg_cells, rg_fold, rg_setPart, swp_buf, hsz']))); repeat' (first | refine awp_seq ?_ | refine awp_block ?_ | (refine awp_skip ?_; try simp) | (refine awp_exit ?_; try simp) | (refine awp_ret ?_; try simp) | (refine retP_same (by simp) ?_; simp) | (refine retP_flat (by simp) (by simp) (by simp [a0, a1, a8, a9, a10, a11, v1, v2, v3, v5, v6, hxl', ht1, gx, gy, g1, g3, hsw, hjs, rg_cells, rg_fold, rg_setPart, swp_buf, hsz']) ?_; simp) | (refine awp_reg ?_; simp [a0, a1, a8, a9, a10, a11, v1, v2, v3, v5, v6, hxl', ht1, gx, gy, g1, g3, hsw, hjs, rg_cells, rg_fold, rg_setPart, swp_buf, hsz']) | (refine awp_drawT (fun _ => false) mixed (by decide +kernel) ?_; simp [a0, a1, a8, a9, a10, a11, v1, v2, v3, v5, v6, hxl', ht1, gx, gy, g1, g3, hsw, hjs, rg_cells, rg_fold, rg_setPart, swp_buf, hsz']) | (refine guarded_split ?_ ?_ <;> (intro hg; simp only [hg]; simp [a0, a1, a8, a9, a10, a11, v1, v2, v3, v5, v6, hxl', ht1, gx, gy, g1, g3, hsw, hjs, rg_cells, rg_fold, rg_setPart, swp_buf, hsz'])) | (apply awp_cond_t; focus (simp [a0, a1, a8, a9, a10, a11, v1, v2, v3, v5, v6, hxl', ht1, gx, gy, g1, g3, hsw, hjs, rg_cells, rg_fold, rg_setPart, swp_buf, hsz']; done)) | (apply awp_cond_f; focus (simp [a0, a1, a8, a9, a10, a11, v1, v2, v3, v5, v6, hxl', ht1, gx, gy, g1, g3, hsw, hjs, rg_cells, rg_fold, rg_setPart, swp_buf, hsz']; done)) | (refine awp_cond ?_; simp [a0, a1, a8, a9, a10, a11, v1, v2, v3, v5, v6, hxl', ht1, gx, gy, g1, g3, hsw, hjs, rg_cells, rg_fold, rg_setPart, swp_buf, hsz']; refine ⟨?_, ?_⟩ <;> intro hc))
        exact ⟨3 - (k + 1), by omega, k + 1, rfl, by omega, by simp, f1, f2, f3, hnx1⟩
      · have hxl' : (l : Int) ≤ x := by omega
        have v4 := v4.resolve_right hxl
        rw [if_pos (by omega)] at hy
        rw [hy] at v4
        (try (first | (with_reducible refine dops_go ?_; simp [a0, a1, a8, a9, a10, a11, v1, v2, v3, v4, v5, v6, hxl', ht1, gx, gy, g1, g3, hsw, hjs, rg_cells, rg_fold, rg_setPart, swp_buf, hsz']) | (with_reducible refine OKv_go ?_; simp [a0, a1, a8, a9, a10, a11, v1, v2, v3, v4, v5, v6, hxl', ht1, gx, gy, g1, g3, hsw, hjs, rg_cells, rg_fold, rg_setPart, swp_buf, hsz']) | (with_reducible refine OKr_go ?_; simp [a0, a1, a8, a9, a10, a11, v1, v2, v3, v4, v5, v6, hxl', ht1, gx, gy, g1, g3, hsw, hjs, rg_cells, rg_fold, rg_setPart, swp_buf, hsz']))); repeat' (first | refine awp_seq ?_ | refine awp_block ?_ | (refine awp_skip ?_; try simp) | (refine awp_exit ?_; try simp) | (refine awp_ret ?_; try simp) | (refine retP_same (by simp) ?_; simp) | (refine retP_flat (by simp) (by simp) (by simp [a0, a1, a8, a9, a10, a11, v1, v2, v3, v4, v5, v6, hxl', ht1, gx, gy, g1, g3, hsw, hjs, rg_cells, rg_fold, rg_setPart, swp_buf, hsz']) ?_; simp) | (refine awp_reg ?_; simp [a0, a1, a8, a9, a10, a11, v1, v2, v3, v4, v5, v6, hxl', ht1, gx, gy, g1, g3, hsw, hjs, rg_cells, rg_fold, rg_setPart, swp_buf, hsz']) | (refine awp_drawT (fun _ => false) mixed (by decide +kernel) ?_; simp [a0, a1, a8, a9, a10, a11, v1, v2, v3, v4, v5, v6, hxl', ht1, gx, gy, g1, g3, hsw, hjs, rg_cells, rg_fold, rg_setPart, swp_buf, hsz']) | (refine guarded_split ?_ ?_ <;> (intro hg; simp only [hg]; simp [a0, a1, a8, a9, a10, a11, v1, v2, v3, v4, v5, v6, hxl', ht1, gx, gy, g1, g3, hsw, hjs, rg_cells, rg_fold, rg_setPart, swp_buf, hsz'])) | (apply awp_cond_t; focus (simp [a0, a1, a8, a9, a10, a11, v1, v2, v3, v4, v5, v6, hxl', ht1, gx, gy, g1, g3, hsw, hjs, rg_cells, rg_fold, rg_setPart, swp_buf, hsz']; done)) | (apply awp_cond_f; focus (simp [a0, a1, a8, a9, a10, a11, v1, v2, v3, v4, v5, v6, hxl', ht1, gx, gy, g1, g3, hsw, hjs, rg_cells, rg_fold, rg_setPart, swp_buf, hsz']; done)) | (refine awp_cond ?_; simp [a0, a1, a8, a9, a10, a11, v1, v2, v3, v4, v5, v6, hxl', ht1, gx, gy, g1, g3, hsw, hjs, rg_cells, rg_fold, rg_setPart, swp_buf, hsz']; refine ⟨?_, ?_⟩ <;> intro hc))
        exact ⟨3 - (k + 1), by omega, k + 1, rfl, by omega, by simp, f1, f2, f3, hnx1⟩
    · have hk3' : k = 3 := by omega
      subst hk3'
      have hle : ¬ ((i0 + 3 : Nat) : Int) ≤ i2 := by omega
      obtain ⟨ix, hix⟩ : ∃ ix, i0 + 3 = ix := ⟨_, rfl⟩
      rw [hix] at a11 hle
      (try (first | (with_reducible refine dops_go ?_; simp [a0, a1, a8, a9, a10, a11, w3, w4, w5, w6, w8, hle]) | (with_reducible refine OKv_go ?_; simp [a0, a1, a8, a9, a10, a11, w3, w4, w5, w6, w8, hle]) | (with_reducible refine OKr_go ?_; simp [a0, a1, a8, a9, a10, a11, w3, w4, w5, w6, w8, hle]))); repeat' (first | refine awp_seq ?_ | refine awp_block ?_ | (refine awp_skip ?_; try simp) | (refine awp_exit ?_; try simp) | (refine awp_ret ?_; try simp) | (refine retP_same (by simp) ?_; simp) | (refine retP_flat (by simp) (by simp) (by simp [a0, a1, a8, a9, a10, a11, w3, w4, w5, w6, w8, hle]) ?_; simp) | (refine awp_reg ?_; simp [a0, a1, a8, a9, a10, a11, w3, w4, w5, w6, w8, hle]) | (refine awp_drawT (fun _ => false) mixed (by decide +kernel) ?_; simp [a0, a1, a8, a9, a10, a11, w3, w4, w5, w6, w8, hle]) | (refine guarded_split ?_ ?_ <;> (intro hg; simp only [hg]; simp [a0, a1, a8, a9, a10, a11, w3, w4, w5, w6, w8, hle])) | (apply awp_cond_t; focus (simp [a0, a1, a8, a9, a10, a11, w3, w4, w5, w6, w8, hle]; done)) | (apply awp_cond_f; focus (simp [a0, a1, a8, a9, a10, a11, w3, w4, w5, w6, w8, hle]; done)) | (refine awp_cond ?_; simp [a0, a1, a8, a9, a10, a11, w3, w4, w5, w6, w8, hle]; refine ⟨?_, ?_⟩ <;> intro hc))
      refine retK_drop' (x := .tup []) (.inl rfl) (by simp) (by simp) (ρ := (σ.set o (bufOf (B 3).2))) ?_ hnx' ?_
      · intro i x hx
        by_cases hio : i = o
        · subst hio; rw [set_self, hj] at hx; rw [ht]; exact hx
        · rw [set_other hio] at hx
          rw [hot i hio (fun e => by rw [e, hwn] at hx; cases hx)]; exact hx
      · exact fun ρ h1 h2 => ⟨rfl, h1, h2⟩
  · have h8' : ¬ (8 : Int) ≤ l := by omega
    (try (first | (with_reducible refine dops_go ?_; simp [w1, h8']) | (with_reducible refine OKv_go ?_; simp [w1, h8']) | (with_reducible refine OKr_go ?_; simp [w1, h8']))); repeat' (first | refine awp_seq ?_ | refine awp_block ?_ | (refine awp_skip ?_; try simp) | (refine awp_exit ?_; try simp) | (refine awp_ret ?_; try simp) | (refine retP_same (by simp) ?_; simp) | (refine retP_flat (by simp) (by simp) (by simp [w1, h8']) ?_; simp) | (refine awp_reg ?_; simp [w1, h8']) | (refine awp_drawT (fun _ => false) mixed (by decide +kernel) ?_; simp [w1, h8']) | (refine guarded_split ?_ ?_ <;> (intro hg; simp only [hg]; simp [w1, h8'])) | (apply awp_cond_t; focus (simp [w1, h8']; done)) | (apply awp_cond_f; focus (simp [w1, h8']; done)) | (refine awp_cond ?_; simp [w1, h8']; refine ⟨?_, ?_⟩ <;> intro hc))
    have : Sort.breakPatterns d a b = d := by simp only [Sort.breakPatterns, hl]; rw [if_neg h8]
    refine retK_of (x := .tup []) (.inl rfl) (by simp) ⟨rfl, by rw [this, set_same hj], fun _ => Nat.le_refl _⟩
end Go.Proofs.Ytajikhpjjbohaaa.Av
