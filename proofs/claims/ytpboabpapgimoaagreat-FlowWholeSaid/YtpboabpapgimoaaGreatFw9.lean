/- Flows: FlowWhole. Part 9 of 14: AvZ7, AvZ8, AvZ9, AvZA, AvZB, AvZC, AvZD, AvZE, AvZF, AvZG, AvZH, AvZI, AvZJ, AvZK, AvZL, AvZM, AvZN, AvZO, AvZP, AvZQ, AvZR, AvZS, AvP4, AvZT, AvF2. -/
import Derived.Test.YtpboabpapgimoaaGreatFw6
import Derived.Test.YtpboabpapgimoaaGreatFw8
import Derived.Sort.AssemblyPlain
namespace Go.Proofs.YtpboabpapgimoaaGreat.Av.Zn
open Go
set_option linter.unusedSimpArgs false
set_option linter.unusedVariables false
set_option maxRecDepth 100000
set_option pp.maxSteps 300
instance : Inhabited Rg := ⟨⟨0, 0⟩⟩
def zK (d : Array Rg) : Ob := .buf (d.toList.map zl)
theorem rg_cells (r : Rg) : (zl r).cells = [.raw (.int .u32 r.lo), .raw (.int .u32 r.hi)] := rfl
theorem rg_fold (r : Rg) : AV.agg [.raw (.int .u32 r.lo), .raw (.int .u32 r.hi)] = zl r := rfl
theorem zW (r s : Rg) : setPart (zl r) 0 [.raw (.int .u32 s.lo), .raw (.int .u32 s.hi)] = zl s := rfl
theorem zM {d : Array Rg} {i : Nat} (h : i < d.size) : d[i]? = some d[i]! := by
  rw [Array.getElem?_eq_getElem h, getElem!_pos d i h]
theorem zjI (d : Array Rg) (i : Nat) (x : Rg) : (d.toList.map zl).set i (zl x) = (d.setIfInBounds i x).toList.map zl := by
  simp [List.map_set]
theorem zaq (d : Array Rg) (i j : Nat) : ((d.toList.map zl).set i (zl d[j]!)).set j (zl d[i]!) = (Sort.swp d i j).toList.map zl := by
  rw [zjI, zjI]; rfl
theorem zaD (d : Array Rg) (i j : Nat) : (Sort.swp d i j).size = d.size := by simp [Sort.swp]
@[simp] theorem zbP {σ : St} {i : Id} {o o' : Ob} : (σ.set i o).set i o' = σ.set i o' := by
  apply St.ext'
  · funext j
    by_cases h : j = i
    · subst h; cases hm : σ.m j <;> simp [hm]
    · rw [zy h, zy h, zy h]
  · rfl
theorem zaS {σ : St} {i : Id} {o : Ob} (h : σ.m i = some o) : σ.set i o = σ := by
  apply St.ext'
  · funext j
    by_cases e : j = i
    · subst e; simp [h]
    · rw [zy e]
  · rfl
structure Cmp (g : FuncId) (c : Rg → Rg → Int) : Prop where
  calls : ∀ x y, PCalls Tryz.prog g [zl x, zl y] (.raw (.int .i64 (c x y)))
def zq (c : Rg → Rg → Int) (x y : Rg) : Bool := decide (c x y < 0)
theorem zjb {g : FuncId} {c : Rg → Rg → Int} (hc : Cmp g c) {j : Id} (hjs : j.sz = 2) {d : Array Rg} {a b : Nat} (hab : a ≤ b) (hb : b ≤ d.size) (hsz : d.size < 2 ^ 43) {σ : St} (hj : σ.m j = some (zK d)) :
    ACalls Tryz.prog 120 [.rs j 0 d.size, .raw (.int .i64 a), .raw (.int .i64 b), .fn (.func g) [] []] σ fun r τ => r = .tup [] ∧ τ = σ.set j (zK (Sort.insertionSort (zq c) d a b)) := by
  refine zaL Tryz.func120 rfl (N := 53) rfl rfl (by simp) ?_
  have w0 : IntKind.i64.wrap ((a : Int) + 1) = ((a + 1 : Nat) : Int) := by rw [zh (by omega) (by omega)]; simp
  have FF := @w0; refine zx ?_; clear FF
  refine zav (fun n A τ => A 0 = .rs j 0 d.size ∧ A 1 = .raw (.int .i64 a) ∧ A 2 = .raw (.int .i64 b) ∧ A 3 = .fn (.func g) [] [] ∧ ∃ (i : Nat) (d' : Array Rg), A 8 = .raw (.int .i64 i) ∧ a + 1 ≤ i ∧ n = b + 1 - i ∧ d'.size = d.size ∧
    Sort.insOuter (zq c) a b i d' = Sort.insertionSort (zq c) d a b ∧ τ.m j = some (zK d') ∧ τ.set j (zK d) = σ) (b + 1 - (a + 1)) ?_ ?_
  · simp
    exact ⟨a + 1, by simp, by omega, by omega, d, rfl, rfl, hj, zaS hj⟩
  rintro n A τ ⟨a0, a1, a2, a3, i, d', a8, hai, rfl, hd', hins, hτ, hτσ⟩
  by_cases hib : i < b
  · have wi : IntKind.i64.wrap ((i : Int) + 1) = ((i + 1 : Nat) : Int) := by rw [zh (by omega) (by omega)]; simp
    have FF := fI @a0 (fI @a1 (fI @a2 (fI @a3 (fI @a8 @hib)))); refine zx ?_; clear FF
    refine zav (fun n B τ' => B 0 = .rs j 0 d.size ∧ B 1 = .raw (.int .i64 a) ∧ B 2 = .raw (.int .i64 b) ∧ B 3 = .fn (.func g) [] [] ∧ B 8 = .raw (.int .i64 i) ∧ ∃ (k : Nat) (e : Array Rg), B 9 = .raw (.int .i64 k) ∧ k ≤ i ∧ n = k ∧ e.size = d.size ∧
      Sort.insInner (zq c) a k e = Sort.insInner (zq c) a i d' ∧ τ'.m j = some (zK e) ∧ τ'.set j (zK d) = σ) i ?_ ?_
    · simp [a0, a1, a2, a3, a8]
      exact ⟨i, rfl, Nat.le_refl _, rfl, d', hd', rfl, hτ, hτσ⟩
    rintro n B τ' ⟨b0, b1, b2, b3, b8, k, e, b9, hki, hnk, he, hinn, hτ', hτσ'⟩
    have hb' : τ'.m j = some (.buf (e.toList.map zl)) := hτ'
    by_cases hka : a < k
    · have hx : e[k]? = some e[k]! := zM (by omega)
      have hy : e[k - 1]? = some e[k - 1]! := zM (by omega)
      have wk : IntKind.i64.wrap ((k : Int) - 1) = ((k - 1 : Nat) : Int) := by rw [zh (by omega) (by omega)]; omega
      have hks : (k : Int) < d.size := by omega
      have hks2 : ((k - 1 : Nat) : Int) < d.size := by omega
      have FF := fI @b0 (fI @b1 (fI @b2 (fI @b3 (fI @b8 (fI @b9 (fI @hka (fI @hb' (fI @hx (fI @hy (fI @wk (fI @hjs (fI @hks (fI @hks2 (fI @rg_cells @rg_fold)))))))))))))); refine zx ?_; clear FF
      refine PCalls.use (hc.calls _ _) ?_
      have hne : ¬ k = k - 1 := by omega
      have hins1 : Sort.insInner (zq c) a k e = if zq c e[k]! e[k - 1]! = true then Sort.insInner (zq c) a (k - 1) (Sort.swp e k (k - 1)) else e := by
        obtain ⟨m, rfl⟩ : ∃ m, k = m + 1 := ⟨k - 1, by omega⟩
        rw [Sort.insInner]; simp [hka]
      (try ((first | with_reducible refine zo ?_ | with_reducible refine zt ?_ | with_reducible refine zu ?_); simp [b0, b1, b2, b3, b8, b9, hka, hb', hx, hy, wk, hjs, hks, hks2, rg_cells, rg_fold, he, zW, hne, zaq])); repeat' (first | ((first | refine zf ?_ | refine zg ?_ | refine dN (by decide +kernel) ?_ | (refine za ?_ ?_ <;> (intro hg; simp only [hg])) | fail) <;> simp [b0, b1, b2, b3, b8, b9, hka, hb', hx, hy, wk, hjs, hks, hks2, rg_cells, rg_fold, he, zW, hne, zaq]) | refine ze ?_ | refine zd ?_ | (refine zA ?_; simp only [zB]; try simp) | ((first | refine zm (by simp) ?_ | refine zv (by simp) (by simp) (by simp (maxDischargeDepth := 30) [b0, b1, b2, b3, b8, b9, hka, hb', hx, hy, wk, hjs, hks, hks2, rg_cells, rg_fold, he, zW, hne, zaq]) ?_ | fail); simp) | (refine zc (fun hc => ?_) (fun hc => ?_) <;> try simp at hc) | fail)
      · refine ⟨k - 1, by omega, k - 1, rfl, by omega, rfl, Sort.swp e k (k - 1), by rw [zaD, he], ?_, by simp [zK], hτσ'⟩
        rw [← hinn, hins1, if_pos (by simpa [zq] using hc)]
      · refine ⟨b - i, by omega, i + 1, wi, by omega, by omega, e, he, ?_, rfl, hτσ'⟩
        rw [← hins]
        conv => rhs; rw [Sort.insOuter, if_pos hib, ← hinn, hins1, if_neg (by simp [zq]; omega)]
    · have hne : Sort.insInner (zq c) a k e = e := by
        cases k with
        | zero => rfl
        | succ m => rw [Sort.insInner]; simp [hka]
      have FF := fI @b0 (fI @b1 (fI @b2 (fI @b3 (fI @b8 (fI @b9 @hka))))); refine zx ?_; clear FF
      refine ⟨b - i, by omega, i + 1, wi, by omega, by omega, e, he, ?_, hτ', hτσ'⟩
      rw [← hins]
      conv => rhs; rw [Sort.insOuter, if_pos hib, ← hinn, hne]
  · have FF := fI @a0 (fI @a1 (fI @a2 (fI @a3 (fI @a8 @hib)))); refine zx ?_; clear FF
    refine zT (x := .tup []) (.inl rfl) (by simp) ⟨rfl, ?_⟩
    rw [Sort.insOuter, if_neg hib] at hins
    rw [← hτσ, zbP, ← hins, zaS hτ]
end Go.Proofs.YtpboabpapgimoaaGreat.Av.Zn
namespace Go.Proofs.YtpboabpapgimoaaGreat.Av.Zn
open Go
set_option linter.unusedSimpArgs false
set_option linter.unusedVariables false
set_option maxRecDepth 100000
set_option pp.maxSteps 300
theorem zfH {g : FuncId} {c : Rg → Rg → Int} (hcc : Cmp g c) {j : Id} (hjs : j.sz = 2) {d : Array Rg} {lo hi first : Nat} (hb : first + hi ≤ d.size) (hsz : d.size < 2 ^ 43) (hlo : lo ≤ d.size) {σ : St} (hj : σ.m j = some (zK d)) :
    ACalls Tryz.prog 138 [.rs j 0 d.size, .raw (.int .i64 lo), .raw (.int .i64 hi), .raw (.int .i64 first), .fn (.func g) [] []] σ fun r τ => r = .tup [] ∧ τ = σ.set j (zK (Sort.siftDown (zq c) hi first lo d)) := by
  refine zaL Tryz.func138 rfl (N := 82) rfl rfl (by simp) ?_
  refine zaR ?_
  refine zav (fun n A τ => A 0 = .rs j 0 d.size ∧ A 2 = .raw (.int .i64 hi) ∧ A 3 = .raw (.int .i64 first) ∧ A 4 = .fn (.func g) [] [] ∧ ∃ (r : Nat) (d' : Array Rg), A 10 = .raw (.int .i64 r) ∧ n = d.size + 1 - r ∧ d'.size = d.size ∧ r ≤ d.size ∧
    Sort.siftDown (zq c) hi first r d' = Sort.siftDown (zq c) hi first lo d ∧ τ.m j = some (zK d') ∧ τ.set j (zK d) = σ) (d.size + 1 - lo) ?_ ?_
  · simp
    exact ⟨lo, rfl, rfl, d, rfl, hlo, rfl, hj, zaS hj⟩
  rintro n A τ ⟨a0, a2, a3, a4, r, d', a10, hn, hd', hr, hins, hτ, hτσ⟩
  have hb' : τ.m j = some (.buf (d'.toList.map zl)) := hτ
  have done : τ = σ.set j (zK d') := by rw [← hτσ, zbP, zaS hτ]
  have w1 : IntKind.i64.wrap (2 * (r : Int)) = ((2 * r : Nat) : Int) := by rw [zh (by omega) (by omega)]; omega
  have w2 : IntKind.i64.wrap (((2 * r : Nat) : Int) + 1) = ((2 * r + 1 : Nat) : Int) := by rw [zh (by omega) (by omega)]; omega
  by_cases h1 : hi ≤ 2 * r + 1
  · have h1' : (hi : Int) ≤ ((2 * r + 1 : Nat) : Int) := by omega
    generalize ((2 * r : Nat) : Int) = y at *
    generalize hq : 2 * r + 1 = q at *
    have FF := fI @a0 (fI @a2 (fI @a3 (fI @a4 (fI @a10 (fI @w1 (fI @w2 @h1')))))); refine zx ?_; clear FF
    refine zT (x := .tup []) (.inl rfl) (by simp) ⟨rfl, ?_⟩
    rw [← hins, Sort.siftDown, dif_pos (by omega)]
    exact done
  · obtain ⟨q, hq⟩ : ∃ q : Nat, 2 * r + 1 = q := ⟨_, rfl⟩
    obtain ⟨q1, hq1⟩ : ∃ q1 : Nat, q + 1 = q1 := ⟨_, rfl⟩
    obtain ⟨fq, hfq⟩ : ∃ fq : Nat, first + q = fq := ⟨_, rfl⟩
    obtain ⟨fp, hfp⟩ : ∃ fp : Nat, fq + 1 = fp := ⟨_, rfl⟩
    obtain ⟨fr, hfr⟩ : ∃ fr : Nat, first + r = fr := ⟨_, rfl⟩
    have h1' : ¬ (hi : Int) ≤ (q : Int) := by omega
    have h1q : q < hi := by omega
    have w3 : IntKind.i64.wrap ((q : Int) + 1) = q1 := by rw [zh (by omega) (by omega)]; omega
    have w4 : IntKind.i64.wrap ((first : Int) + q) = fq := by rw [zh (by omega) (by omega)]; omega
    have w5 : IntKind.i64.wrap ((fq : Int) + 1) = fp := by rw [zh (by omega) (by omega)]; omega
    have w6 : IntKind.i64.wrap ((first : Int) + r) = fr := by rw [zh (by omega) (by omega)]; omega
    have w7 : IntKind.i64.wrap ((first : Int) + q1) = fp := by rw [zh (by omega) (by omega)]; omega
    have hx : d'[fq]? = some d'[fq]! := zM (by omega)
    have hz : d'[fr]? = some d'[fr]! := zM (by omega)
    have b1 : (fq : Int) < d.size := by omega
    have b3 : (fr : Int) < d.size := by omega
    rw [hq] at w2
    have hne : ¬ fr = fq := by omega
    generalize ((2 * r : Nat) : Int) = y at *
    have hsd : Sort.siftDown (zq c) hi first r d' = if (q1 < hi && zq c d'[fq]! d'[fp]!) = true then (if (!zq c d'[fr]! d'[fp]!) = true then d' else Sort.siftDown (zq c) hi first q1 (Sort.swp d' fr fp)) else (if (!zq c d'[fr]! d'[fq]!) = true then d' else Sort.siftDown (zq c) hi first q (Sort.swp d' fr fq)) := by
      rw [Sort.siftDown, dif_neg (by omega)]
      have e1 : 2 * r + 1 + 1 = q1 := by omega
      have e2 : first + (2 * r + 1) = fq := by omega
      have e3 : fq + 1 = fp := hfp
      have e4 : first + r = fr := hfr
      have e5 : first + q1 = fp := by omega
      rw [e1, e2, e3, e4, e5, hq]
      by_cases hh : q1 < hi
      · simp [hh]
      · simp [hh]
    by_cases h2 : q1 < hi
    · have hy : d'[fp]? = some d'[fp]! := zM (by omega)
      have b2 : (fp : Int) < d.size := by omega
      have hne2 : ¬ fr = fp := by omega
      have FF := fI @a0 (fI @a2 (fI @a3 (fI @a4 (fI @a10 (fI @w1 (fI @w2 (fI @h1' (fI @h1q (fI @w3 (fI @w4 (fI @w5 (fI @w6 (fI @w7 (fI @hx (fI @hz (fI @hb' (fI @b1 (fI @b3 (fI @h2 (fI @hy (fI @b2 (fI @hjs (fI @rg_cells (fI @rg_fold @hd')))))))))))))))))))))))); refine zx ?_; clear FF
      refine PCalls.use (hcc.calls _ _) ?_
      (try ((first | with_reducible refine zo ?_ | with_reducible refine zt ?_ | with_reducible refine zu ?_); simp [a0, a2, a3, a4, a10, w1, w2, h1', h1q, w3, w4, w5, w6, w7, hx, hz, hb', b1, b3, h2, hy, b2, hjs, rg_cells, rg_fold, hd'])); repeat' (first | ((first | refine zf ?_ | refine zg ?_ | refine dN (by decide +kernel) ?_ | (refine za ?_ ?_ <;> (intro hg; simp only [hg])) | fail) <;> simp [a0, a2, a3, a4, a10, w1, w2, h1', h1q, w3, w4, w5, w6, w7, hx, hz, hb', b1, b3, h2, hy, b2, hjs, rg_cells, rg_fold, hd']) | refine ze ?_ | refine zd ?_ | (refine zA ?_; simp only [zB]; try simp) | ((first | refine zm (by simp) ?_ | refine zv (by simp) (by simp) (by simp (maxDischargeDepth := 30) [a0, a2, a3, a4, a10, w1, w2, h1', h1q, w3, w4, w5, w6, w7, hx, hz, hb', b1, b3, h2, hy, b2, hjs, rg_cells, rg_fold, hd']) ?_ | fail); simp) | (refine zc (fun hc => ?_) (fun hc => ?_) <;> try simp at hc) | fail)
      · have hc1 : zq c d'[fq]! d'[fp]! = true := by simpa [zq] using hc
        refine PCalls.use (hcc.calls _ _) ?_
        (try ((first | with_reducible refine zo ?_ | with_reducible refine zt ?_ | with_reducible refine zu ?_); simp [a0, a2, a3, a4, a10, w1, w2, h1', h1q, w3, w4, w5, w6, w7, hx, hz, hb', b1, b3, h2, hy, b2, hjs, rg_cells, rg_fold, hd', zW, hne, hne2, zaq])); repeat' (first | ((first | refine zf ?_ | refine zg ?_ | refine dN (by decide +kernel) ?_ | (refine za ?_ ?_ <;> (intro hg; simp only [hg])) | fail) <;> simp [a0, a2, a3, a4, a10, w1, w2, h1', h1q, w3, w4, w5, w6, w7, hx, hz, hb', b1, b3, h2, hy, b2, hjs, rg_cells, rg_fold, hd', zW, hne, hne2, zaq]) | refine ze ?_ | refine zd ?_ | (refine zA ?_; simp only [zB]; try simp) | ((first | refine zm (by simp) ?_ | refine zv (by simp) (by simp) (by simp (maxDischargeDepth := 30) [a0, a2, a3, a4, a10, w1, w2, h1', h1q, w3, w4, w5, w6, w7, hx, hz, hb', b1, b3, h2, hy, b2, hjs, rg_cells, rg_fold, hd', zW, hne, hne2, zaq]) ?_ | fail); simp) | (refine zc (fun hc => ?_) (fun hc => ?_) <;> try simp at hc) | fail)
        · have hc2 : zq c d'[fr]! d'[fp]! = false := by simpa [zq] using hc
          refine zT (x := .tup []) (.inr rfl) (by simp) ⟨rfl, ?_⟩
          rw [← hins, hsd]
          simp only [h2, hc1, hc2, Bool.and_true, Bool.true_and, Bool.false_and, Bool.and_false, decide_true, decide_false, if_true, Bool.not_false, Bool.false_eq_true, if_false]
          exact done
        · have hc2 : zq c d'[fr]! d'[fp]! = true := by simpa [zq] using hc
          refine ⟨d.size + 1 - q1, by omega, q1, rfl, rfl, Sort.swp d' fr fp, by rw [zaD, hd'], by omega, ?_, by simp [zK], hτσ⟩
          rw [← hins, hsd]
          simp only [h2, hc1, hc2, Bool.and_true, Bool.true_and, Bool.false_and, Bool.and_false, decide_true, decide_false, if_true, Bool.not_true, Bool.false_eq_true, if_false]
      · have hc1 : zq c d'[fq]! d'[fp]! = false := by simpa [zq] using hc
        refine PCalls.use (hcc.calls _ _) ?_
        (try ((first | with_reducible refine zo ?_ | with_reducible refine zt ?_ | with_reducible refine zu ?_); simp [a0, a2, a3, a4, a10, w1, w2, h1', h1q, w3, w4, w5, w6, w7, hx, hz, hb', b1, b3, h2, hy, b2, hjs, rg_cells, rg_fold, hd', zW, hne, hne2, zaq])); repeat' (first | ((first | refine zf ?_ | refine zg ?_ | refine dN (by decide +kernel) ?_ | (refine za ?_ ?_ <;> (intro hg; simp only [hg])) | fail) <;> simp [a0, a2, a3, a4, a10, w1, w2, h1', h1q, w3, w4, w5, w6, w7, hx, hz, hb', b1, b3, h2, hy, b2, hjs, rg_cells, rg_fold, hd', zW, hne, hne2, zaq]) | refine ze ?_ | refine zd ?_ | (refine zA ?_; simp only [zB]; try simp) | ((first | refine zm (by simp) ?_ | refine zv (by simp) (by simp) (by simp (maxDischargeDepth := 30) [a0, a2, a3, a4, a10, w1, w2, h1', h1q, w3, w4, w5, w6, w7, hx, hz, hb', b1, b3, h2, hy, b2, hjs, rg_cells, rg_fold, hd', zW, hne, hne2, zaq]) ?_ | fail); simp) | (refine zc (fun hc => ?_) (fun hc => ?_) <;> try simp at hc) | fail)
        · have hc2 : zq c d'[fr]! d'[fq]! = false := by simpa [zq] using hc
          refine zT (x := .tup []) (.inr rfl) (by simp) ⟨rfl, ?_⟩
          rw [← hins, hsd]
          simp only [h2, hc1, hc2, Bool.and_true, Bool.true_and, Bool.false_and, Bool.and_false, decide_true, decide_false, if_true, Bool.not_false, Bool.false_eq_true, if_false]
          exact done
        · have hc2 : zq c d'[fr]! d'[fq]! = true := by simpa [zq] using hc
          refine ⟨d.size + 1 - q, by omega, q, rfl, rfl, Sort.swp d' fr fq, by rw [zaD, hd'], by omega, ?_, by simp [zK], hτσ⟩
          rw [← hins, hsd]
          simp only [h2, hc1, hc2, Bool.and_true, Bool.true_and, Bool.false_and, Bool.and_false, decide_true, decide_false, if_true, Bool.not_true, Bool.false_eq_true, if_false]
    · have FF := fI @a0 (fI @a2 (fI @a3 (fI @a4 (fI @a10 (fI @w1 (fI @w2 (fI @h1' (fI @h1q (fI @w3 (fI @w4 (fI @w5 (fI @w6 (fI @w7 (fI @hx (fI @hz (fI @hb' (fI @b1 (fI @b3 (fI @h2 (fI @hjs (fI @rg_cells (fI @rg_fold (fI @hd' (fI @zW (fI @hne @zaq))))))))))))))))))))))))); refine zx ?_; clear FF
      refine PCalls.use (hcc.calls _ _) ?_
      (try ((first | with_reducible refine zo ?_ | with_reducible refine zt ?_ | with_reducible refine zu ?_); simp [a0, a2, a3, a4, a10, w1, w2, h1', h1q, w3, w4, w5, w6, w7, hx, hz, hb', b1, b3, h2, hjs, rg_cells, rg_fold, hd', zW, hne, zaq])); repeat' (first | ((first | refine zf ?_ | refine zg ?_ | refine dN (by decide +kernel) ?_ | (refine za ?_ ?_ <;> (intro hg; simp only [hg])) | fail) <;> simp [a0, a2, a3, a4, a10, w1, w2, h1', h1q, w3, w4, w5, w6, w7, hx, hz, hb', b1, b3, h2, hjs, rg_cells, rg_fold, hd', zW, hne, zaq]) | refine ze ?_ | refine zd ?_ | (refine zA ?_; simp only [zB]; try simp) | ((first | refine zm (by simp) ?_ | refine zv (by simp) (by simp) (by simp (maxDischargeDepth := 30) [a0, a2, a3, a4, a10, w1, w2, h1', h1q, w3, w4, w5, w6, w7, hx, hz, hb', b1, b3, h2, hjs, rg_cells, rg_fold, hd', zW, hne, zaq]) ?_ | fail); simp) | (refine zc (fun hc => ?_) (fun hc => ?_) <;> try simp at hc) | fail)
      · have hc2 : zq c d'[fr]! d'[fq]! = false := by simpa [zq] using hc
        refine zT (x := .tup []) (.inr rfl) (by simp) ⟨rfl, ?_⟩
        rw [← hins, hsd]
        simp only [h2, hc2, Bool.and_true, Bool.true_and, Bool.false_and, Bool.and_false, decide_true, decide_false, if_true, Bool.not_false, Bool.false_eq_true, if_false]
        exact done
      · have hc2 : zq c d'[fr]! d'[fq]! = true := by simpa [zq] using hc
        refine ⟨d.size + 1 - q, by omega, q, rfl, rfl, Sort.swp d' fr fq, by rw [zaD, hd'], by omega, ?_, by simp [zK], hτσ⟩
        rw [← hins, hsd]
        simp only [h2, hc2, Bool.and_true, Bool.true_and, Bool.false_and, Bool.and_false, decide_true, decide_false, if_true, Bool.not_true, Bool.false_eq_true, if_false]
end Go.Proofs.YtpboabpapgimoaaGreat.Av.Zn
namespace Go.Proofs.YtpboabpapgimoaaGreat.Av.Zn
open Go
set_option linter.unusedSimpArgs false
set_option linter.unusedVariables false
set_option maxRecDepth 100000
set_option pp.maxSteps 300
theorem zqc (lt : Rg → Rg → Bool) (hi first : Nat) : ∀ (n root : Nat) (d : Array Rg), hi - root ≤ n → (Sort.siftDown lt hi first root d).size = d.size := by
  intro n
  induction n with
  | zero =>
    intro root d h
    rw [Sort.siftDown, dif_pos (by omega)]
  | succ n ih =>
    intro root d h
    rw [Sort.siftDown]
    split
    · rfl
    · split
      · split
        · rfl
        · split
          · rw [ih _ _ (by omega), zaD]
          · rfl
      · split
        · rfl
        · rw [ih _ _ (by omega), zaD]
theorem zif (lt : Rg → Rg → Bool) (hi first root : Nat) (d : Array Rg) : (Sort.siftDown lt hi first root d).size = d.size := zqc lt hi first _ root d (Nat.le_refl _)
theorem zgl {d : Array Rg} {i : Nat} (h : i < d.size) : d.setIfInBounds i d[i]! = d := by
  rw [getElem!_pos d i h]
  apply Array.ext
  · simp
  · intro k h1 h2
    rw [Array.getElem_setIfInBounds]
    split
    · rename_i e; subst e; rfl
    · rfl
theorem zpx {d : Array Rg} {i : Nat} (h : i < d.size) : Sort.swp d i i = d := by
  simp only [Sort.swp]
  rw [zgl h, zgl h]
theorem zpy {d : Array Rg} {i : Nat} (h : i < d.size) : (d.toList.map zl).set i (zl d[i]!) = d.toList.map zl := by
  rw [zjI, zgl h]
theorem zjJ {g : FuncId} {c : Rg → Rg → Int} (hcc : Cmp g c) {j : Id} (hjs : j.sz = 2) {d : Array Rg} {a b : Nat} (hab : a ≤ b) (hb : b ≤ d.size) (hsz : d.size < 2 ^ 43) {σ : St} (hj : σ.m j = some (zK d)) :
    ACalls Tryz.prog 121 [.rs j 0 d.size, .raw (.int .i64 a), .raw (.int .i64 b), .fn (.func g) [] []] σ fun r τ => r = .tup [] ∧ τ = σ.set j (zK (Sort.heapSort (zq c) d a b)) := by
  refine zaL Tryz.func121 rfl (N := 60) rfl rfl (by simp) ?_
  obtain ⟨hi, hhi⟩ : ∃ hi, b - a = hi := ⟨_, rfl⟩
  have w1 : IntKind.i64.wrap ((b : Int) - a) = hi := by rw [zh (by omega) (by omega)]; omega
  have w2 : IntKind.i64.wrap ((hi : Int) - 1) = (hi : Int) - 1 := zh (by omega) (by omega)
  have w3 : ((hi : Int) - 1).tdiv 2 = (((hi - 1) / 2 + 1 : Nat) : Int) - 1 := by
    rcases Nat.eq_zero_or_pos hi with h | h
    · subst h; rfl
    · have e : (hi : Int) - 1 = ((hi - 1 : Nat) : Int) := by omega
      rw [e, Int.tdiv_eq_ediv_of_nonneg (by omega)]; omega
  have w4 : IntKind.i64.wrap ((((hi - 1) / 2 + 1 : Nat) : Int) - 1) = (((hi - 1) / 2 + 1 : Nat) : Int) - 1 := zh (by omega) (by omega)
  obtain ⟨k0, hk0⟩ : ∃ k0 : Nat, (hi - 1) / 2 + 1 = k0 := ⟨_, rfl⟩
  rw [hk0] at w3 w4
  have hk0b : k0 ≤ d.size + 1 := by omega
  have FF := fI @w1 (fI @w2 (fI @w3 @w4)); refine zx ?_; clear FF
  refine zav (fun n A τ => A 0 = .rs j 0 d.size ∧ A 3 = .fn (.func g) [] [] ∧ A 8 = .raw (.int .i64 a) ∧ A 9 = .raw (.int .i64 0) ∧ A 10 = .raw (.int .i64 hi) ∧ ∃ (d' : Array Rg), A 11 = .raw (.int .i64 ((n : Int) - 1)) ∧ d'.size = d.size ∧ n ≤ k0 ∧
    Sort.heapBuild (zq c) hi a n d' = Sort.heapBuild (zq c) hi a k0 d ∧ τ.m j = some (zK d') ∧ τ.set j (zK d) = σ) k0 ?_ ?_
  · simp
    exact ⟨d, rfl, rfl, hj, zaS hj⟩
  rintro n A τ ⟨a0, a3, a8, a9, a10, d', a11, hd', hn, hins, hτ, hτσ⟩
  cases n with
  | succ n =>
    have e1 : ((n + 1 : Nat) : Int) - 1 = n := by omega
    rw [e1] at a11
    have w5 : IntKind.i64.wrap ((n : Int) - 1) = (n : Int) - 1 := zh (by omega) (by omega)
    have FF := fI @a0 (fI @a3 (fI @a8 (fI @a9 (fI @a10 (fI @a11 @w5))))); refine zx ?_; clear FF
    have := zfH hcc hjs (d := d') (lo := n) (hi := hi) (first := a) (by omega) (by omega) (by omega) hτ
    rw [hd'] at this
    refine this.mono ?_
    rintro _ τ' ⟨rfl, rfl⟩
    have FF := fI @a0 (fI @a3 (fI @a8 (fI @a9 (fI @a10 (fI @a11 @w5))))); refine zx ?_; clear FF
    exact ⟨n, by omega, rfl, Sort.siftDown (zq c) hi a n d', by rw [zif, hd'], by omega, by rw [← hins]; rfl, ⟨⟨_, hτ⟩, rfl⟩, hτσ⟩
  | zero =>
    have FF := fI @a0 (fI @a3 (fI @a8 (fI @a9 (fI @a10 (fI @a11 @w2))))); refine zx ?_; clear FF
    refine zav (fun n B τ => B 0 = .rs j 0 d.size ∧ B 3 = .fn (.func g) [] [] ∧ B 8 = .raw (.int .i64 a) ∧ B 9 = .raw (.int .i64 0) ∧ ∃ (e : Array Rg), B 12 = .raw (.int .i64 ((n : Int) - 1)) ∧ e.size = d.size ∧ n ≤ hi ∧
      Sort.heapPop (zq c) a n e = Sort.heapSort (zq c) d a b ∧ τ.m j = some (zK e) ∧ τ.set j (zK d) = σ) hi ?_ ?_
    · simp [a0, a3, a8, a9]
      refine ⟨d', hd', ?_, hτ, hτσ⟩
      have : d' = Sort.heapBuild (zq c) hi a k0 d := by rw [← hins]; rfl
      rw [this, Sort.heapSort, hhi, hk0]
    rintro n B τ' ⟨b0, b3, b8, b9, e, b12, he, hn2, hpop, hτ', hτσ'⟩
    cases n with
    | succ n =>
      have e1 : ((n + 1 : Nat) : Int) - 1 = n := by omega
      rw [e1] at b12
      have w5 : IntKind.i64.wrap ((n : Int) - 1) = (n : Int) - 1 := zh (by omega) (by omega)
      obtain ⟨fk, hfk⟩ : ∃ fk, a + n = fk := ⟨_, rfl⟩
      have w6 : IntKind.i64.wrap ((a : Int) + n) = fk := by rw [zh (by omega) (by omega)]; omega
      have hb' : τ'.m j = some (.buf (e.toList.map zl)) := hτ'
      have hx : e[a]? = some e[a]! := zM (by omega)
      have hy : e[fk]? = some e[fk]! := zM (by omega)
      have c1 : (a : Int) < d.size := by omega
      have c2 : (fk : Int) < d.size := by omega
      have key := fun (τ2 : St) (h : τ2.m j = some (zK (Sort.swp e a fk))) => zfH hcc hjs (d := Sort.swp e a fk) (lo := 0) (hi := n) (first := a) (by rw [zaD]; omega) (by rw [zaD]; omega) (by omega) h
      simp only [zaD, he] at key
      have hpop1 : Sort.heapPop (zq c) a (n + 1) e = Sort.heapPop (zq c) a n (Sort.siftDown (zq c) n a 0 (Sort.swp e a fk)) := by rw [Sort.heapPop, hfk]
      by_cases hne : a = fk
      · subst hne
        have hss := zpy (d := e) (i := a) (by omega)
        rw [zpx (by omega)] at key hpop1
        have FF := fI @b0 (fI @b3 (fI @b8 (fI @b9 (fI @b12 (fI @w5 (fI @w6 (fI @hb' (fI @hx (fI @hy (fI @c1 (fI @c2 (fI @hjs (fI @rg_cells (fI @rg_fold (fI @zW (fI @he @hss)))))))))))))))); refine zx ?_; clear FF
        refine (key _ (by simp [zK, hb'])).mono ?_
        rintro _ τ2 ⟨rfl, rfl⟩
        have FF := fI @b0 (fI @b3 (fI @b8 (fI @b9 (fI @b12 @w5)))); refine zx ?_; clear FF
        exact ⟨n, by omega, rfl, Sort.siftDown (zq c) n a 0 e, by rw [zif, he], by omega, by rw [← hpop1, hpop], ⟨⟨_, hτ'⟩, rfl⟩, hτσ'⟩
      · have FF := fI @b0 (fI @b3 (fI @b8 (fI @b9 (fI @b12 (fI @w5 (fI @w6 (fI @hb' (fI @hx (fI @hy (fI @c1 (fI @c2 (fI @hjs (fI @rg_cells (fI @rg_fold (fI @zW (fI @he (fI @hne @zaq))))))))))))))))); refine zx ?_; clear FF
        refine (key _ (by simp [zK, hb'])).mono ?_
        rintro _ τ2 ⟨rfl, rfl⟩
        have FF := fI @b0 (fI @b3 (fI @b8 (fI @b9 (fI @b12 @w5)))); refine zx ?_; clear FF
        exact ⟨n, by omega, rfl, Sort.siftDown (zq c) n a 0 (Sort.swp e a fk), by rw [zif, zaD, he], by omega, by rw [← hpop1, hpop], ⟨⟨_, hτ'⟩, rfl⟩, hτσ'⟩
    | zero =>
      have FF := fI @b0 (fI @b3 (fI @b8 (fI @b9 @b12))); refine zx ?_; clear FF
      refine zT (x := .tup []) (.inl rfl) (by simp) ⟨rfl, ?_⟩
      rw [← hτσ', zbP, ← hpop]
      exact (zaS hτ').symm
end Go.Proofs.YtpboabpapgimoaaGreat.Av.Zn
namespace Go.Proofs.YtpboabpapgimoaaGreat.Av.Zn
open Go
set_option linter.unusedSimpArgs false
set_option linter.unusedVariables false
set_option maxRecDepth 100000
set_option pp.maxSteps 300
theorem zkH {g : FuncId} {j : Id} (hjs : j.sz = 2) {d : Array Rg} {a b : Nat} (hab : a < b) (hb : b ≤ d.size) (hsz : d.size < 2 ^ 43) {σ : St} (hj : σ.m j = some (zK d)) :
    ACalls Tryz.prog 124 [.rs j 0 d.size, .raw (.int .i64 a), .raw (.int .i64 b), .fn (.func g) [] []] σ fun r τ => r = .tup [] ∧ τ = σ.set j (zK (Sort.reverseRange d a b)) := by
  refine zaL Tryz.func124 rfl (N := 34) rfl rfl (by simp) ?_
  have w1 : IntKind.i64.wrap ((b : Int) - 1) = ((b - 1 : Nat) : Int) := by rw [zh (by omega) (by omega)]; omega
  have FF := @w1; refine zx ?_; clear FF
  refine zav (fun n A τ => A 0 = .rs j 0 d.size ∧ ∃ (i l : Nat) (d' : Array Rg), A 8 = .raw (.int .i64 i) ∧ A 9 = .raw (.int .i64 l) ∧ n = l - i ∧ l < d.size ∧ d'.size = d.size ∧
    Sort.reverseLoop i l d' = Sort.reverseRange d a b ∧ τ.m j = some (zK d') ∧ τ.set j (zK d) = σ) (b - 1 - a) ?_ ?_
  · simp
    exact ⟨a, rfl, b - 1, rfl, rfl, by omega, d, rfl, rfl, hj, zaS hj⟩
  rintro n A τ ⟨a0, i, l, d', a8, a9, hn, hl, hd', hins, hτ, hτσ⟩
  have hb' : τ.m j = some (.buf (d'.toList.map zl)) := hτ
  by_cases hil : i < l
  · have hx : d'[i]? = some d'[i]! := zM (by omega)
    have hy : d'[l]? = some d'[l]! := zM (by omega)
    have c1 : (i : Int) < d.size := by omega
    have c2 : (l : Int) < d.size := by omega
    have hne : ¬ i = l := by omega
    have w2 : IntKind.i64.wrap ((i : Int) + 1) = ((i + 1 : Nat) : Int) := by rw [zh (by omega) (by omega)]; omega
    have w3 : IntKind.i64.wrap ((l : Int) - 1) = ((l - 1 : Nat) : Int) := by rw [zh (by omega) (by omega)]; omega
    have hrev : Sort.reverseLoop i l d' = Sort.reverseLoop (i + 1) (l - 1) (Sort.swp d' i l) := by rw [Sort.reverseLoop, if_pos hil]
    generalize hi1 : i + 1 = i1 at *
    generalize hl1 : l - 1 = l1 at *
    have FF := fI @a0 (fI @a8 (fI @a9 (fI @hil (fI @hb' (fI @hx (fI @hy (fI @c1 (fI @c2 (fI @hne (fI @hjs (fI @rg_cells (fI @rg_fold (fI @zW (fI @hd' (fI @zaq (fI @w2 @w3)))))))))))))))); refine zx ?_; clear FF
    exact ⟨l1 - i1, by omega, i1, rfl, l1, rfl, rfl, by omega, Sort.swp d' i l, by rw [zaD, hd'], by rw [← hrev, hins], rfl, hτσ⟩
  · have FF := fI @a0 (fI @a8 (fI @a9 @hil)); refine zx ?_; clear FF
    refine zT (x := .tup []) (.inl rfl) (by simp) ⟨rfl, ?_⟩
    rw [Sort.reverseLoop, if_neg hil] at hins
    rw [← hτσ, zbP, ← hins, zaS hτ]
theorem zmz {d : Array Rg} {i j : Nat} (hi : i < d.size) : ∀ k, ((d.toList.map zl).set i (zl d[j]!))[k]? = if i = k then some (zl d[j]!) else (d[k]?).map zl := by
  intro k
  rw [List.getElem?_set]
  simp [hi]
theorem zg2 (p : Rg → Bool) (d : Array Rg) (j : Nat) : ∀ (n i : Nat), j + 1 - i ≤ n → i ≤ Sort.scanUp p d j i ∧ Sort.scanUp p d j i ≤ max i (j + 1) := by
  intro n
  induction n with
  | zero =>
    intro i h
    rw [Sort.scanUp]
    have : ¬ i ≤ j := by omega
    simp [this]
    omega
  | succ n ih =>
    intro i h
    rw [Sort.scanUp]
    split
    · rename_i hc
      simp at hc
      have := ih (i + 1) (by omega)
      omega
    · omega
theorem zfq (p : Rg → Bool) (d : Array Rg) (i : Nat) : ∀ (j : Nat), Sort.scanDown p d i j ≤ j := by
  intro j
  induction j with
  | zero => simp [Sort.scanDown]
  | succ j ih =>
    rw [Sort.scanDown]
    split
    · omega
    · omega
end Go.Proofs.YtpboabpapgimoaaGreat.Av.Zn
namespace Go.Proofs.YtpboabpapgimoaaGreat.Av.Zn
open Go
set_option linter.unusedSimpArgs false
set_option linter.unusedVariables false
set_option maxRecDepth 100000
set_option pp.maxSteps 150
theorem zcn (d : Array Rg) {i k : Nat} (hi : i < d.size) (hk : k < d.size) : ((d.toList.map zl).set i (zl d[k]!))[k]? = some (zl d[k]!) := by
  rw [zmz hi]
  split
  · rfl
  · rw [zM hk]; rfl
theorem zfr {p : Rg → Bool} {d : Array Rg} {j i : Nat} (h : i ≤ j) : Sort.scanUp p d j i = if p d[i]! = true then Sort.scanUp p d j (i + 1) else i := by
  rw [Sort.scanUp]; simp [h]
theorem zgm {p : Rg → Bool} {d : Array Rg} {j i : Nat} (h : ¬ i ≤ j) : Sort.scanUp p d j i = i := by
  rw [Sort.scanUp]; simp [h]
theorem zeq {p : Rg → Bool} {d : Array Rg} {i j : Nat} (h : i ≤ j) (h0 : 0 < j) : Sort.scanDown p d i j = if p d[j]! = true then Sort.scanDown p d i (j - 1) else j := by
  obtain ⟨m, rfl⟩ : ∃ m, j = m + 1 := ⟨j - 1, by omega⟩
  rw [Sort.scanDown]; simp [h]
theorem ze1 {p : Rg → Bool} {d : Array Rg} {i j : Nat} (h : ¬ i ≤ j) : Sort.scanDown p d i j = j := by
  cases j with
  | zero => rfl
  | succ m => rw [Sort.scanDown]; simp [h]
def PR (o : Id) (d : Array Rg) (σ : St) (g : FuncId) (a : Nat) (e : Array Rg) (i j : Nat) (A : zD) (τ : St) : Prop :=
  τ.m o = some (zK e) ∧ τ.set o (zK d) = σ ∧ A 0 = .rs o 0 d.size ∧ A 1 = .raw (.int .i64 a) ∧ A 4 = .fn (.func g) [] [] ∧ A 12 = .raw (.int .i64 i) ∧ A 13 = .raw (.int .i64 j)
theorem zjc {g : FuncId} {c : Rg → Rg → Int} (hcc : Cmp g c) {o : Id} (hjs : o.sz = 2) {d : Array Rg} {a b pivot : Nat} (hap : a ≤ pivot) (hpb : pivot < b) (hb : b ≤ d.size) (hsz : d.size < 2 ^ 43) {σ : St} (hj : σ.m o = some (zK d)) :
    ACalls Tryz.prog 127 [.rs o 0 d.size, .raw (.int .i64 a), .raw (.int .i64 b), .raw (.int .i64 pivot), .fn (.func g) [] []] σ fun r τ =>
      r = .tup [.raw (.int .i64 (Sort.partition (zq c) d a b pivot).1), .raw (.bool (Sort.partition (zq c) d a b pivot).2.1)] ∧ τ = σ.set o (zK (Sort.partition (zq c) d a b pivot).2.2) := by
  refine zaL Tryz.func127 rfl (N := 178) rfl rfl (by simp) ?_
  have hb' : σ.m o = some (.buf (d.toList.map zl)) := hj
  have hx : d[a]? = some d[a]! := zM (by omega)
  have hy : d[pivot]? = some d[pivot]! := zM (by omega)
  have hsw := zcn d (i := a) (k := pivot) (by omega) (by omega)
  have c1 : (a : Int) < d.size := by omega
  have c2 : (pivot : Int) < d.size := by omega
  have w1 : IntKind.i64.wrap ((a : Int) + 1) = ((a + 1 : Nat) : Int) := by rw [zh (by omega) (by omega)]; omega
  have w2 : IntKind.i64.wrap ((b : Int) - 1) = ((b - 1 : Nat) : Int) := by rw [zh (by omega) (by omega)]; omega
  obtain ⟨i0, hi0⟩ : ∃ i0, a + 1 = i0 := ⟨_, rfl⟩
  obtain ⟨j0, hj0⟩ : ∃ j0, b - 1 = j0 := ⟨_, rfl⟩
  rw [hi0] at w1
  rw [hj0] at w2
  have FF := fI @hb' (fI @hx (fI @hy (fI @hsw (fI @c1 (fI @c2 (fI @w1 (fI @w2 (fI @hjs (fI @rg_cells (fI @rg_fold (fI @zW @zaq))))))))))); refine zx ?_; clear FF
  obtain ⟨e, he⟩ : ∃ e, Sort.swp d a pivot = e := ⟨_, rfl⟩
  have hes : e.size = d.size := by rw [← he, zaD]
  rw [he]
  obtain ⟨i2, hi2⟩ : ∃ i2, Sort.scanUp (fun x => zq c x e[a]!) e j0 i0 = i2 := ⟨_, rfl⟩
  obtain ⟨j2, hj2⟩ : ∃ j2, Sort.scanDown (fun x => !zq c x e[a]!) e i2 j0 = j2 := ⟨_, rfl⟩
  refine zaU (PR o d σ g a e i2 j0) ?_ ?_
  · refine zav (fun n A τ => ∃ i, PR o d σ g a e i j0 A τ ∧ i0 ≤ i ∧ n = j0 + 1 - i ∧ Sort.scanUp (fun x => zq c x e[a]!) e j0 i = i2) (j0 + 1 - i0) ?_ ?_
    · exact ⟨i0, ⟨by simp [zK, hb'], by simp [zK]; exact zaS hj, by simp, by simp, by simp, by simp, by simp⟩, Nat.le_refl _, rfl, hi2⟩
    rintro n A τ ⟨i, ⟨ht, htσ, a0, a1, a4, a12, a13⟩, hii, hn, hsc⟩
    have ht' : τ.m o = some (.buf (e.toList.map zl)) := ht
    by_cases hij : i ≤ j0
    · have gx : e[i]? = some e[i]! := zM (by omega)
      have gy : e[a]? = some e[a]! := zM (by omega)
      have g1 : (i : Int) < d.size := by omega
      have g2 : (a : Int) < d.size := by omega
      have wi : IntKind.i64.wrap ((i : Int) + 1) = ((i + 1 : Nat) : Int) := by rw [zh (by omega) (by omega)]; omega
      rw [zfr hij] at hsc
      generalize hi1 : i + 1 = i1 at *
      have FF := fI @a0 (fI @a1 (fI @a4 (fI @a12 (fI @a13 (fI @hij (fI @ht' (fI @gx (fI @gy (fI @g1 (fI @g2 (fI @hjs (fI @rg_cells (fI @rg_fold (fI @hes @wi)))))))))))))); refine zx ?_; clear FF
      refine PCalls.use (hcc.calls _ _) ?_
      (try ((first | with_reducible refine zo ?_ | with_reducible refine zt ?_ | with_reducible refine zu ?_); simp [a0, a1, a4, a12, a13, hij, ht', gx, gy, g1, g2, hjs, rg_cells, rg_fold, hes, wi])); repeat' (first | ((first | refine zf ?_ | refine zg ?_ | refine dN (by decide +kernel) ?_ | (refine za ?_ ?_ <;> (intro hg; simp only [hg])) | fail) <;> simp [a0, a1, a4, a12, a13, hij, ht', gx, gy, g1, g2, hjs, rg_cells, rg_fold, hes, wi]) | refine ze ?_ | refine zd ?_ | (refine zA ?_; simp only [zB]; try simp) | ((first | refine zm (by simp) ?_ | refine zv (by simp) (by simp) (by simp (maxDischargeDepth := 30) [a0, a1, a4, a12, a13, hij, ht', gx, gy, g1, g2, hjs, rg_cells, rg_fold, hes, wi]) ?_ | fail); simp) | (refine zc (fun hc => ?_) (fun hc => ?_) <;> try simp at hc) | fail)
      · rw [if_pos (by simp [zq]; omega)] at hsc
        exact ⟨j0 + 1 - i1, by omega, i1, ⟨ht, htσ, by simp [a0], by simp [a1], by simp [a4], by simp [a12], by simp [a13]⟩, by omega, rfl, hsc⟩
      · rw [if_neg (by simp [zq]; omega)] at hsc
        rw [← hsc]
        exact ⟨ht, htσ, by simp [a0], by simp [a1], by simp [a4], by simp [a12], by simp [a13]⟩
    · have FF := fI @a0 (fI @a1 (fI @a4 (fI @a12 (fI @a13 @hij)))); refine zx ?_; clear FF
      rw [zgm hij] at hsc
      rw [← hsc]
      exact ⟨ht, htσ, by simp [a0], by simp [a1], by simp [a4], by simp [a12], by simp [a13]⟩
  rintro A τ ⟨ht, htσ, a0, a1, a4, a12, a13⟩
  have hi2r := zg2 (fun x => zq c x e[a]!) e j0 _ i0 (Nat.le_refl _)
  rw [hi2] at hi2r
  have FF := fI @a0 (fI @a1 (fI @a4 (fI @a12 @a13))); refine zx ?_; clear FF
  refine zaU (PR o d σ g a e i2 j2) ?_ ?_
  · refine zav (fun n A τ => ∃ j, PR o d σ g a e i2 j A τ ∧ j ≤ j0 ∧ n = j ∧ Sort.scanDown (fun x => !zq c x e[a]!) e i2 j = j2) j0 ?_ ?_
    · exact ⟨j0, ⟨ht, htσ, by simp [a0], by simp [a1], by simp [a4], by simp [a12], by simp [a13]⟩, Nat.le_refl _, rfl, hj2⟩
    rintro n A τ ⟨j, ⟨ht, htσ, a0, a1, a4, a12, a13⟩, hjj, hn, hsc⟩
    have ht' : τ.m o = some (.buf (e.toList.map zl)) := ht
    by_cases hij : i2 ≤ j
    · have gx : e[j]? = some e[j]! := zM (by omega)
      have gy : e[a]? = some e[a]! := zM (by omega)
      have g1 : (j : Int) < d.size := by omega
      have g2 : (a : Int) < d.size := by omega
      have wi : IntKind.i64.wrap ((j : Int) - 1) = ((j - 1 : Nat) : Int) := by rw [zh (by omega) (by omega)]; omega
      rw [zeq hij (by omega)] at hsc
      generalize hj1 : j - 1 = j1 at *
      have FF := fI @a0 (fI @a1 (fI @a4 (fI @a12 (fI @a13 (fI @hij (fI @ht' (fI @gx (fI @gy (fI @g1 (fI @g2 (fI @hjs (fI @rg_cells (fI @rg_fold (fI @hes @wi)))))))))))))); refine zx ?_; clear FF
      refine PCalls.use (hcc.calls _ _) ?_
      (try ((first | with_reducible refine zo ?_ | with_reducible refine zt ?_ | with_reducible refine zu ?_); simp [a0, a1, a4, a12, a13, hij, ht', gx, gy, g1, g2, hjs, rg_cells, rg_fold, hes, wi])); repeat' (first | ((first | refine zf ?_ | refine zg ?_ | refine dN (by decide +kernel) ?_ | (refine za ?_ ?_ <;> (intro hg; simp only [hg])) | fail) <;> simp [a0, a1, a4, a12, a13, hij, ht', gx, gy, g1, g2, hjs, rg_cells, rg_fold, hes, wi]) | refine ze ?_ | refine zd ?_ | (refine zA ?_; simp only [zB]; try simp) | ((first | refine zm (by simp) ?_ | refine zv (by simp) (by simp) (by simp (maxDischargeDepth := 30) [a0, a1, a4, a12, a13, hij, ht', gx, gy, g1, g2, hjs, rg_cells, rg_fold, hes, wi]) ?_ | fail); simp) | (refine zc (fun hc => ?_) (fun hc => ?_) <;> try simp at hc) | fail)
      · rw [if_pos (by simp [zq]; omega)] at hsc
        exact ⟨j1, by omega, j1, ⟨ht, htσ, by simp [a0], by simp [a1], by simp [a4], by simp [a12], by simp [a13]⟩, by omega, rfl, hsc⟩
      · rw [if_neg (by simp [zq]; omega)] at hsc
        rw [← hsc]
        exact ⟨ht, htσ, by simp [a0], by simp [a1], by simp [a4], by simp [a12], by simp [a13]⟩
    · have FF := fI @a0 (fI @a1 (fI @a4 (fI @a12 (fI @a13 @hij)))); refine zx ?_; clear FF
      rw [ze1 hij] at hsc
      rw [← hsc]
      exact ⟨ht, htσ, by simp [a0], by simp [a1], by simp [a4], by simp [a12], by simp [a13]⟩
  rintro A τ ⟨ht, htσ, a0, a1, a4, a12, a13⟩
  have hj2r := zfq (fun x => !zq c x e[a]!) e i2 j0
  rw [hj2] at hj2r
  have ht' : τ.m o = some (.buf (e.toList.map zl)) := ht
  have hpart : Sort.partition (zq c) d a b pivot = if i2 > j2 then (j2, true, Sort.swp e j2 a) else ((Sort.partLoop (zq c) a (i2 + 1) (j2 - 1) (Sort.swp e i2 j2)).1, false, Sort.swp (Sort.partLoop (zq c) a (i2 + 1) (j2 - 1) (Sort.swp e i2 j2)).2 (Sort.partLoop (zq c) a (i2 + 1) (j2 - 1) (Sort.swp e i2 j2)).1 a) := by
    simp only [Sort.partition, he, hi0, hj0, hi2, hj2]
  have gx : e[a]? = some e[a]! := zM (by omega)
  have gy : e[j2]? = some e[j2]! := zM (by omega)
  have g1 : (a : Int) < d.size := by omega
  have g2 : (j2 : Int) < d.size := by omega
  by_cases hgt : j2 < i2
  · have hsw2 := zcn e (i := j2) (k := a) (by omega) (by omega)
    have FF := fI @a0 (fI @a1 (fI @a4 (fI @a12 (fI @a13 (fI @hgt (fI @ht' (fI @gx (fI @gy (fI @g1 (fI @g2 (fI @hsw2 (fI @hjs (fI @rg_cells (fI @rg_fold (fI @zW (fI @zaq @hes)))))))))))))))); refine zx ?_; clear FF
    refine zT (x := .tup [.raw (.int .i64 j2), .raw (.bool true)]) (.inr rfl) (by simp) ?_
    rw [hpart, if_pos hgt]
    refine ⟨rfl, ?_⟩
    rw [← htσ, zbP]; rfl
  · have g3 : (i2 : Int) < d.size := by omega
    have gz : e[i2]? = some e[i2]! := zM (by omega)
    have hsw2 := zcn e (i := i2) (k := j2) (by omega) (by omega)
    have w3 : IntKind.i64.wrap ((i2 : Int) + 1) = ((i2 + 1 : Nat) : Int) := by rw [zh (by omega) (by omega)]; omega
    have w4 : IntKind.i64.wrap ((j2 : Int) - 1) = ((j2 - 1 : Nat) : Int) := by rw [zh (by omega) (by omega)]; omega
    obtain ⟨i3, hi3⟩ : ∃ i3, i2 + 1 = i3 := ⟨_, rfl⟩
    obtain ⟨j3, hj3⟩ : ∃ j3, j2 - 1 = j3 := ⟨_, rfl⟩
    obtain ⟨e1, he1⟩ : ∃ e1, Sort.swp e i2 j2 = e1 := ⟨_, rfl⟩
    have hes1 : e1.size = d.size := by rw [← he1, zaD, hes]
    rw [hi3, hj3, he1] at hpart
    rw [if_neg (by omega)] at hpart
    rw [hi3] at w3
    rw [hj3] at w4
    have FF := fI @a0 (fI @a1 (fI @a4 (fI @a12 (fI @a13 (fI @hgt (fI @ht' (fI @gx (fI @gy (fI @gz (fI @g1 (fI @g2 (fI @g3 (fI @hsw2 (fI @hjs (fI @rg_cells (fI @rg_fold (fI @zW (fI @zaq (fI @hes (fI @w3 (fI @w4 @he1))))))))))))))))))))); refine zx ?_; clear FF
    obtain ⟨jf, ef, hpl⟩ : ∃ jf ef, Sort.partLoop (zq c) a i3 j3 e1 = (jf, ef) := ⟨_, _, rfl⟩
    rw [hpl] at hpart
    refine zaU (fun A τ => ∃ i', PR o d σ g a ef i' jf A τ ∧ ef.size = d.size ∧ jf < d.size) ?_ ?_
    · refine zav (fun n A τ => ∃ e' ia ja, PR o d σ g a e' ia ja A τ ∧ e'.size = d.size ∧ 1 ≤ ia ∧ ja < d.size ∧ n = ja + 1 - ia ∧ Sort.partLoop (zq c) a ia ja e' = (jf, ef)) (j3 + 1 - i3) ?_ ?_
      · exact ⟨e1, i3, j3, ⟨by simp [zK, ht'], by simp [zK]; exact htσ, by simp [a0], by simp [a1], by simp [a4], by simp, by simp⟩, hes1, by omega, by omega, rfl, hpl⟩
      rintro n0 A τ ⟨e', ia, ja, ⟨ht, htσ, a0, a1, a4, a12, a13⟩, hes', hia, hja, hn0, hpl'⟩
      obtain ⟨k2, hk2⟩ : ∃ k2, Sort.scanUp (fun x => zq c x e'[a]!) e' ja ia = k2 := ⟨_, rfl⟩
      obtain ⟨l2, hl2⟩ : ∃ l2, Sort.scanDown (fun x => !zq c x e'[a]!) e' k2 ja = l2 := ⟨_, rfl⟩
      have hk2r := zg2 (fun x => zq c x e'[a]!) e' ja _ ia (Nat.le_refl _)
      rw [hk2] at hk2r
      have hl2r := zfq (fun x => !zq c x e'[a]!) e' k2 ja
      rw [hl2] at hl2r
      have FF := fI @a0 (fI @a1 (fI @a4 (fI @a12 @a13))); refine zx ?_; clear FF
      refine zaU (PR o d σ g a e' k2 ja) ?_ ?_
      · refine zav (fun n A τ => ∃ i, PR o d σ g a e' i ja A τ ∧ ia ≤ i ∧ n = ja + 1 - i ∧ Sort.scanUp (fun x => zq c x e'[a]!) e' ja i = k2) (ja + 1 - ia) ?_ ?_
        · exact ⟨ia, ⟨ht, htσ, by simp [a0], by simp [a1], by simp [a4], by simp [a12], by simp [a13]⟩, Nat.le_refl _, rfl, hk2⟩
        rintro n A τ ⟨i, ⟨ht, htσ, a0, a1, a4, a12, a13⟩, hii, hn, hsc⟩
        have ht' : τ.m o = some (.buf (e'.toList.map zl)) := ht
        by_cases hij : i ≤ ja
        · have gx : e'[i]? = some e'[i]! := zM (by omega)
          have gy : e'[a]? = some e'[a]! := zM (by omega)
          have g1 : (i : Int) < d.size := by omega
          have g2 : (a : Int) < d.size := by omega
          have wi : IntKind.i64.wrap ((i : Int) + 1) = ((i + 1 : Nat) : Int) := by rw [zh (by omega) (by omega)]; omega
          rw [zfr hij] at hsc
          generalize hi1 : i + 1 = i1 at *
          have FF := fI @a0 (fI @a1 (fI @a4 (fI @a12 (fI @a13 (fI @hij (fI @ht' (fI @gx (fI @gy (fI @g1 (fI @g2 (fI @hjs (fI @rg_cells (fI @rg_fold (fI @hes' @wi)))))))))))))); refine zx ?_; clear FF
          refine PCalls.use (hcc.calls _ _) ?_
          (try ((first | with_reducible refine zo ?_ | with_reducible refine zt ?_ | with_reducible refine zu ?_); simp [a0, a1, a4, a12, a13, hij, ht', gx, gy, g1, g2, hjs, rg_cells, rg_fold, hes', wi])); repeat' (first | ((first | refine zf ?_ | refine zg ?_ | refine dN (by decide +kernel) ?_ | (refine za ?_ ?_ <;> (intro hg; simp only [hg])) | fail) <;> simp [a0, a1, a4, a12, a13, hij, ht', gx, gy, g1, g2, hjs, rg_cells, rg_fold, hes', wi]) | refine ze ?_ | refine zd ?_ | (refine zA ?_; simp only [zB]; try simp) | ((first | refine zm (by simp) ?_ | refine zv (by simp) (by simp) (by simp (maxDischargeDepth := 30) [a0, a1, a4, a12, a13, hij, ht', gx, gy, g1, g2, hjs, rg_cells, rg_fold, hes', wi]) ?_ | fail); simp) | (refine zc (fun hc => ?_) (fun hc => ?_) <;> try simp at hc) | fail)
          · rw [if_pos (by simp [zq]; omega)] at hsc
            exact ⟨ja + 1 - i1, by omega, i1, ⟨ht, htσ, by simp [a0], by simp [a1], by simp [a4], by simp [a12], by simp [a13]⟩, by omega, rfl, hsc⟩
          · rw [if_neg (by simp [zq]; omega)] at hsc
            rw [← hsc]
            exact ⟨ht, htσ, by simp [a0], by simp [a1], by simp [a4], by simp [a12], by simp [a13]⟩
        · have FF := fI @a0 (fI @a1 (fI @a4 (fI @a12 (fI @a13 @hij)))); refine zx ?_; clear FF
          rw [zgm hij] at hsc
          rw [← hsc]
          exact ⟨ht, htσ, by simp [a0], by simp [a1], by simp [a4], by simp [a12], by simp [a13]⟩
      rintro A τ ⟨ht, htσ, a0, a1, a4, a12, a13⟩
      have FF := fI @a0 (fI @a1 (fI @a4 (fI @a12 @a13))); refine zx ?_; clear FF
      refine zaU (PR o d σ g a e' k2 l2) ?_ ?_
      · refine zav (fun n A τ => ∃ j, PR o d σ g a e' k2 j A τ ∧ j ≤ ja ∧ n = j ∧ Sort.scanDown (fun x => !zq c x e'[a]!) e' k2 j = l2) ja ?_ ?_
        · exact ⟨ja, ⟨ht, htσ, by simp [a0], by simp [a1], by simp [a4], by simp [a12], by simp [a13]⟩, Nat.le_refl _, rfl, hl2⟩
        rintro n A τ ⟨j, ⟨ht, htσ, a0, a1, a4, a12, a13⟩, hjj, hn, hsc⟩
        have ht' : τ.m o = some (.buf (e'.toList.map zl)) := ht
        by_cases hij : k2 ≤ j
        · have gx : e'[j]? = some e'[j]! := zM (by omega)
          have gy : e'[a]? = some e'[a]! := zM (by omega)
          have g1 : (j : Int) < d.size := by omega
          have g2 : (a : Int) < d.size := by omega
          have wi : IntKind.i64.wrap ((j : Int) - 1) = ((j - 1 : Nat) : Int) := by rw [zh (by omega) (by omega)]; omega
          rw [zeq hij (by omega)] at hsc
          generalize hj1 : j - 1 = j1 at *
          have FF := fI @a0 (fI @a1 (fI @a4 (fI @a12 (fI @a13 (fI @hij (fI @ht' (fI @gx (fI @gy (fI @g1 (fI @g2 (fI @hjs (fI @rg_cells (fI @rg_fold (fI @hes' @wi)))))))))))))); refine zx ?_; clear FF
          refine PCalls.use (hcc.calls _ _) ?_
          (try ((first | with_reducible refine zo ?_ | with_reducible refine zt ?_ | with_reducible refine zu ?_); simp [a0, a1, a4, a12, a13, hij, ht', gx, gy, g1, g2, hjs, rg_cells, rg_fold, hes', wi])); repeat' (first | ((first | refine zf ?_ | refine zg ?_ | refine dN (by decide +kernel) ?_ | (refine za ?_ ?_ <;> (intro hg; simp only [hg])) | fail) <;> simp [a0, a1, a4, a12, a13, hij, ht', gx, gy, g1, g2, hjs, rg_cells, rg_fold, hes', wi]) | refine ze ?_ | refine zd ?_ | (refine zA ?_; simp only [zB]; try simp) | ((first | refine zm (by simp) ?_ | refine zv (by simp) (by simp) (by simp (maxDischargeDepth := 30) [a0, a1, a4, a12, a13, hij, ht', gx, gy, g1, g2, hjs, rg_cells, rg_fold, hes', wi]) ?_ | fail); simp) | (refine zc (fun hc => ?_) (fun hc => ?_) <;> try simp at hc) | fail)
          · rw [if_pos (by simp [zq]; omega)] at hsc
            exact ⟨j1, by omega, j1, ⟨ht, htσ, by simp [a0], by simp [a1], by simp [a4], by simp [a12], by simp [a13]⟩, by omega, rfl, hsc⟩
          · rw [if_neg (by simp [zq]; omega)] at hsc
            rw [← hsc]
            exact ⟨ht, htσ, by simp [a0], by simp [a1], by simp [a4], by simp [a12], by simp [a13]⟩
        · have FF := fI @a0 (fI @a1 (fI @a4 (fI @a12 (fI @a13 @hij)))); refine zx ?_; clear FF
          rw [ze1 hij] at hsc
          rw [← hsc]
          exact ⟨ht, htσ, by simp [a0], by simp [a1], by simp [a4], by simp [a12], by simp [a13]⟩
      rintro A τ ⟨ht, htσ, a0, a1, a4, a12, a13⟩
      have hpl1 : Sort.partLoop (zq c) a ia ja e' = if k2 > l2 then (l2, e') else Sort.partLoop (zq c) a (k2 + 1) (l2 - 1) (Sort.swp e' k2 l2) := by
        rw [Sort.partLoop]
        simp only [hk2, hl2]
        split
        · rfl
        · rw [dif_pos (by omega)]
      by_cases hgt2 : l2 < k2
      · rw [hpl1, if_pos hgt2] at hpl'
        injection hpl' with q1 q2
        subst q1 q2
        have FF := fI @a0 (fI @a1 (fI @a4 (fI @a12 (fI @a13 @hgt2)))); refine zx ?_; clear FF
        exact ⟨⟨k2, ht, htσ, by simp [a0], by simp [a1], by simp [a4], by simp [a12], by simp [a13]⟩, hes', by omega⟩
      · rw [hpl1, if_neg (by omega)] at hpl'
        have ht' : τ.m o = some (.buf (e'.toList.map zl)) := ht
        have gx : e'[k2]? = some e'[k2]! := zM (by omega)
        have gy : e'[l2]? = some e'[l2]! := zM (by omega)
        have g4 : (k2 : Int) < d.size := by omega
        have g5 : (l2 : Int) < d.size := by omega
        have hsw3 := zcn e' (i := k2) (k := l2) (by omega) (by omega)
        have w5 : IntKind.i64.wrap ((k2 : Int) + 1) = ((k2 + 1 : Nat) : Int) := by rw [zh (by omega) (by omega)]; omega
        have w6 : IntKind.i64.wrap ((l2 : Int) - 1) = ((l2 - 1 : Nat) : Int) := by rw [zh (by omega) (by omega)]; omega
        obtain ⟨k3, hk3⟩ : ∃ k3, k2 + 1 = k3 := ⟨_, rfl⟩
        obtain ⟨l3, hl3⟩ : ∃ l3, l2 - 1 = l3 := ⟨_, rfl⟩
        rw [hk3] at w5 hpl'
        rw [hl3] at w6 hpl'
        have FF := fI @a0 (fI @a1 (fI @a4 (fI @a12 (fI @a13 (fI @hgt2 (fI @ht' (fI @gx (fI @gy (fI @g4 (fI @g5 (fI @hsw3 (fI @hjs (fI @rg_cells (fI @rg_fold (fI @zW (fI @zaq (fI @hes' (fI @w5 @w6)))))))))))))))))); refine zx ?_; clear FF
        exact ⟨l3 + 1 - k3, by omega, Sort.swp e' k2 l2, k3, l3, ⟨by simp [zK, ht'], by simp [zK]; exact htσ, by simp [a0], by simp [a1], by simp [a4], by simp, by simp⟩, by rw [zaD, hes'], by omega, by omega, rfl, hpl'⟩
    · rintro A τ ⟨i', ⟨ht, htσ, a0, a1, a4, a12, a13⟩, hef, hjf⟩
      have ht' : τ.m o = some (.buf (ef.toList.map zl)) := ht
      have gx : ef[a]? = some ef[a]! := zM (by omega)
      have gy : ef[jf]? = some ef[jf]! := zM (by omega)
      have g4 : (jf : Int) < d.size := by omega
      have hsw3 := zcn ef (i := jf) (k := a) (by omega) (by omega)
      have FF := fI @a0 (fI @a1 (fI @a4 (fI @a12 (fI @a13 (fI @ht' (fI @gx (fI @gy (fI @g1 (fI @g4 (fI @hsw3 (fI @hjs (fI @rg_cells (fI @rg_fold (fI @zW (fI @zaq @hef))))))))))))))); refine zx ?_; clear FF
      refine zT (x := .tup [.raw (.int .i64 jf), .raw (.bool false)]) (.inr rfl) (by simp) ?_
      rw [hpart]
      refine ⟨rfl, ?_⟩
      rw [← htσ, zbP]; rfl
end Go.Proofs.YtpboabpapgimoaaGreat.Av.Zn
namespace Go.Proofs.YtpboabpapgimoaaGreat.Av.Zn
open Go
set_option linter.unusedSimpArgs false
set_option linter.unusedVariables false
set_option maxRecDepth 100000
set_option pp.maxSteps 150
def PQ (o : Id) (d : Array Rg) (σ : St) (g : FuncId) (a : Nat) (e : Array Rg) (i j : Nat) (A : zD) (τ : St) : Prop :=
  τ.m o = some (zK e) ∧ τ.set o (zK d) = σ ∧ A 0 = .rs o 0 d.size ∧ A 1 = .raw (.int .i64 a) ∧ A 4 = .fn (.func g) [] [] ∧ A 11 = .raw (.int .i64 i) ∧ A 12 = .raw (.int .i64 j)
theorem zgn {g : FuncId} {c : Rg → Rg → Int} (hcc : Cmp g c) {o : Id} (hjs : o.sz = 2) {d : Array Rg} {a b pivot : Nat} (hap : a ≤ pivot) (hpb : pivot < b) (hb : b ≤ d.size) (hsz : d.size < 2 ^ 43) {σ : St} (hj : σ.m o = some (zK d)) :
    ACalls Tryz.prog 126 [.rs o 0 d.size, .raw (.int .i64 a), .raw (.int .i64 b), .raw (.int .i64 pivot), .fn (.func g) [] []] σ fun r τ =>
      r = .raw (.int .i64 (Sort.partitionEqual (zq c) d a b pivot).1) ∧ τ = σ.set o (zK (Sort.partitionEqual (zq c) d a b pivot).2) := by
  refine zaL Tryz.func126 rfl (N := 90) rfl rfl (by simp) ?_
  have hb' : σ.m o = some (.buf (d.toList.map zl)) := hj
  have hx : d[a]? = some d[a]! := zM (by omega)
  have hy : d[pivot]? = some d[pivot]! := zM (by omega)
  have hsw := zcn d (i := a) (k := pivot) (by omega) (by omega)
  have c1 : (a : Int) < d.size := by omega
  have c2 : (pivot : Int) < d.size := by omega
  have w1 : IntKind.i64.wrap ((a : Int) + 1) = ((a + 1 : Nat) : Int) := by rw [zh (by omega) (by omega)]; omega
  have w2 : IntKind.i64.wrap ((b : Int) - 1) = ((b - 1 : Nat) : Int) := by rw [zh (by omega) (by omega)]; omega
  obtain ⟨i0, hi0⟩ : ∃ i0, a + 1 = i0 := ⟨_, rfl⟩
  obtain ⟨j0, hj0⟩ : ∃ j0, b - 1 = j0 := ⟨_, rfl⟩
  rw [hi0] at w1
  rw [hj0] at w2
  have FF := fI @hb' (fI @hx (fI @hy (fI @hsw (fI @c1 (fI @c2 (fI @w1 (fI @w2 (fI @hjs (fI @rg_cells (fI @rg_fold (fI @zW @zaq))))))))))); refine zx ?_; clear FF
  obtain ⟨e, he⟩ : ∃ e, Sort.swp d a pivot = e := ⟨_, rfl⟩
  have hes : e.size = d.size := by rw [← he, zaD]
  rw [he]
  obtain ⟨jf, ef, hpl⟩ : ∃ jf ef, Sort.partEqLoop (zq c) a i0 j0 e = (jf, ef) := ⟨_, _, rfl⟩
  have hpart : Sort.partitionEqual (zq c) d a b pivot = (jf, ef) := by simp only [Sort.partitionEqual, he, hi0, hj0, hpl]
  rw [hpart]
  refine zaU (fun A τ => ∃ j', PQ o d σ g a ef jf j' A τ) ?_ ?_
  · refine zav (fun n A τ => ∃ e' ia ja, PQ o d σ g a e' ia ja A τ ∧ e'.size = d.size ∧ 1 ≤ ia ∧ ja < d.size ∧ n = ja + 1 - ia ∧ Sort.partEqLoop (zq c) a ia ja e' = (jf, ef)) (j0 + 1 - i0) ?_ ?_
    · exact ⟨e, i0, j0, ⟨by simp [zK, hb'], by simp [zK]; exact zaS hj, by simp, by simp, by simp, by simp, by simp⟩, hes, by omega, by omega, rfl, hpl⟩
    rintro n0 A τ ⟨e', ia, ja, ⟨ht, htσ, a0, a1, a4, a12, a13⟩, hes', hia, hja, hn0, hpl'⟩
    obtain ⟨k2, hk2⟩ : ∃ k2, Sort.scanUp (fun x => !zq c e'[a]! x) e' ja ia = k2 := ⟨_, rfl⟩
    obtain ⟨l2, hl2⟩ : ∃ l2, Sort.scanDown (fun x => zq c e'[a]! x) e' k2 ja = l2 := ⟨_, rfl⟩
    have hk2r := zg2 (fun x => !zq c e'[a]! x) e' ja _ ia (Nat.le_refl _)
    rw [hk2] at hk2r
    have hl2r := zfq (fun x => zq c e'[a]! x) e' k2 ja
    rw [hl2] at hl2r
    have FF := fI @a0 (fI @a1 (fI @a4 (fI @a12 @a13))); refine zx ?_; clear FF
    refine zaU (PQ o d σ g a e' k2 ja) ?_ ?_
    · refine zav (fun n A τ => ∃ i, PQ o d σ g a e' i ja A τ ∧ ia ≤ i ∧ n = ja + 1 - i ∧ Sort.scanUp (fun x => !zq c e'[a]! x) e' ja i = k2) (ja + 1 - ia) ?_ ?_
      · exact ⟨ia, ⟨ht, htσ, by simp [a0], by simp [a1], by simp [a4], by simp [a12], by simp [a13]⟩, Nat.le_refl _, rfl, hk2⟩
      rintro n A τ ⟨i, ⟨ht, htσ, a0, a1, a4, a12, a13⟩, hii, hn, hsc⟩
      have ht' : τ.m o = some (.buf (e'.toList.map zl)) := ht
      by_cases hij : i ≤ ja
      · have gx : e'[i]? = some e'[i]! := zM (by omega)
        have gy : e'[a]? = some e'[a]! := zM (by omega)
        have g1 : (i : Int) < d.size := by omega
        have g2 : (a : Int) < d.size := by omega
        have wi : IntKind.i64.wrap ((i : Int) + 1) = ((i + 1 : Nat) : Int) := by rw [zh (by omega) (by omega)]; omega
        rw [zfr hij] at hsc
        generalize hi1 : i + 1 = i1 at *
        have FF := fI @a0 (fI @a1 (fI @a4 (fI @a12 (fI @a13 (fI @hij (fI @ht' (fI @gx (fI @gy (fI @g1 (fI @g2 (fI @hjs (fI @rg_cells (fI @rg_fold (fI @hes' @wi)))))))))))))); refine zx ?_; clear FF
        refine PCalls.use (hcc.calls _ _) ?_
        (try ((first | with_reducible refine zo ?_ | with_reducible refine zt ?_ | with_reducible refine zu ?_); simp [a0, a1, a4, a12, a13, hij, ht', gx, gy, g1, g2, hjs, rg_cells, rg_fold, hes', wi])); repeat' (first | ((first | refine zf ?_ | refine zg ?_ | refine dN (by decide +kernel) ?_ | (refine za ?_ ?_ <;> (intro hg; simp only [hg])) | fail) <;> simp [a0, a1, a4, a12, a13, hij, ht', gx, gy, g1, g2, hjs, rg_cells, rg_fold, hes', wi]) | refine ze ?_ | refine zd ?_ | (refine zA ?_; simp only [zB]; try simp) | ((first | refine zm (by simp) ?_ | refine zv (by simp) (by simp) (by simp (maxDischargeDepth := 30) [a0, a1, a4, a12, a13, hij, ht', gx, gy, g1, g2, hjs, rg_cells, rg_fold, hes', wi]) ?_ | fail); simp) | (refine zc (fun hc => ?_) (fun hc => ?_) <;> try simp at hc) | fail)
        · rw [if_pos (by simp [zq]; omega)] at hsc
          exact ⟨ja + 1 - i1, by omega, i1, ⟨ht, htσ, by simp [a0], by simp [a1], by simp [a4], by simp [a12], by simp [a13]⟩, by omega, rfl, hsc⟩
        · rw [if_neg (by simp [zq]; omega)] at hsc
          rw [← hsc]
          exact ⟨ht, htσ, by simp [a0], by simp [a1], by simp [a4], by simp [a12], by simp [a13]⟩
      · have FF := fI @a0 (fI @a1 (fI @a4 (fI @a12 (fI @a13 @hij)))); refine zx ?_; clear FF
        rw [zgm hij] at hsc
        rw [← hsc]
        exact ⟨ht, htσ, by simp [a0], by simp [a1], by simp [a4], by simp [a12], by simp [a13]⟩
    rintro A τ ⟨ht, htσ, a0, a1, a4, a12, a13⟩
    have FF := fI @a0 (fI @a1 (fI @a4 (fI @a12 @a13))); refine zx ?_; clear FF
    refine zaU (PQ o d σ g a e' k2 l2) ?_ ?_
    · refine zav (fun n A τ => ∃ j, PQ o d σ g a e' k2 j A τ ∧ j ≤ ja ∧ n = j ∧ Sort.scanDown (fun x => zq c e'[a]! x) e' k2 j = l2) ja ?_ ?_
      · exact ⟨ja, ⟨ht, htσ, by simp [a0], by simp [a1], by simp [a4], by simp [a12], by simp [a13]⟩, Nat.le_refl _, rfl, hl2⟩
      rintro n A τ ⟨j, ⟨ht, htσ, a0, a1, a4, a12, a13⟩, hjj, hn, hsc⟩
      have ht' : τ.m o = some (.buf (e'.toList.map zl)) := ht
      by_cases hij : k2 ≤ j
      · have gx : e'[j]? = some e'[j]! := zM (by omega)
        have gy : e'[a]? = some e'[a]! := zM (by omega)
        have g1 : (j : Int) < d.size := by omega
        have g2 : (a : Int) < d.size := by omega
        have wi : IntKind.i64.wrap ((j : Int) - 1) = ((j - 1 : Nat) : Int) := by rw [zh (by omega) (by omega)]; omega
        rw [zeq hij (by omega)] at hsc
        generalize hj1 : j - 1 = j1 at *
        have FF := fI @a0 (fI @a1 (fI @a4 (fI @a12 (fI @a13 (fI @hij (fI @ht' (fI @gx (fI @gy (fI @g1 (fI @g2 (fI @hjs (fI @rg_cells (fI @rg_fold (fI @hes' @wi)))))))))))))); refine zx ?_; clear FF
        refine PCalls.use (hcc.calls _ _) ?_
        (try ((first | with_reducible refine zo ?_ | with_reducible refine zt ?_ | with_reducible refine zu ?_); simp [a0, a1, a4, a12, a13, hij, ht', gx, gy, g1, g2, hjs, rg_cells, rg_fold, hes', wi])); repeat' (first | ((first | refine zf ?_ | refine zg ?_ | refine dN (by decide +kernel) ?_ | (refine za ?_ ?_ <;> (intro hg; simp only [hg])) | fail) <;> simp [a0, a1, a4, a12, a13, hij, ht', gx, gy, g1, g2, hjs, rg_cells, rg_fold, hes', wi]) | refine ze ?_ | refine zd ?_ | (refine zA ?_; simp only [zB]; try simp) | ((first | refine zm (by simp) ?_ | refine zv (by simp) (by simp) (by simp (maxDischargeDepth := 30) [a0, a1, a4, a12, a13, hij, ht', gx, gy, g1, g2, hjs, rg_cells, rg_fold, hes', wi]) ?_ | fail); simp) | (refine zc (fun hc => ?_) (fun hc => ?_) <;> try simp at hc) | fail)
        · rw [if_pos (by simp [zq]; omega)] at hsc
          exact ⟨j1, by omega, j1, ⟨ht, htσ, by simp [a0], by simp [a1], by simp [a4], by simp [a12], by simp [a13]⟩, by omega, rfl, hsc⟩
        · rw [if_neg (by simp [zq]; omega)] at hsc
          rw [← hsc]
          exact ⟨ht, htσ, by simp [a0], by simp [a1], by simp [a4], by simp [a12], by simp [a13]⟩
      · have FF := fI @a0 (fI @a1 (fI @a4 (fI @a12 (fI @a13 @hij)))); refine zx ?_; clear FF
        rw [ze1 hij] at hsc
        rw [← hsc]
        exact ⟨ht, htσ, by simp [a0], by simp [a1], by simp [a4], by simp [a12], by simp [a13]⟩
    rintro A τ ⟨ht, htσ, a0, a1, a4, a12, a13⟩
    have hpl1 : Sort.partEqLoop (zq c) a ia ja e' = if k2 > l2 then (k2, e') else Sort.partEqLoop (zq c) a (k2 + 1) (l2 - 1) (Sort.swp e' k2 l2) := by
      rw [Sort.partEqLoop]
      simp only [hk2, hl2]
      split
      · rfl
      · rw [dif_pos (by omega)]
    by_cases hgt2 : l2 < k2
    · rw [hpl1, if_pos hgt2] at hpl'
      injection hpl' with q1 q2
      subst q1 q2
      have FF := fI @a0 (fI @a1 (fI @a4 (fI @a12 (fI @a13 @hgt2)))); refine zx ?_; clear FF
      exact ⟨l2, ht, htσ, by simp [a0], by simp [a1], by simp [a4], by simp [a12], by simp [a13]⟩
    · rw [hpl1, if_neg (by omega)] at hpl'
      have ht' : τ.m o = some (.buf (e'.toList.map zl)) := ht
      have gx : e'[k2]? = some e'[k2]! := zM (by omega)
      have gy : e'[l2]? = some e'[l2]! := zM (by omega)
      have g4 : (k2 : Int) < d.size := by omega
      have g5 : (l2 : Int) < d.size := by omega
      have hsw3 := zcn e' (i := k2) (k := l2) (by omega) (by omega)
      have w5 : IntKind.i64.wrap ((k2 : Int) + 1) = ((k2 + 1 : Nat) : Int) := by rw [zh (by omega) (by omega)]; omega
      have w6 : IntKind.i64.wrap ((l2 : Int) - 1) = ((l2 - 1 : Nat) : Int) := by rw [zh (by omega) (by omega)]; omega
      obtain ⟨k3, hk3⟩ : ∃ k3, k2 + 1 = k3 := ⟨_, rfl⟩
      obtain ⟨l3, hl3⟩ : ∃ l3, l2 - 1 = l3 := ⟨_, rfl⟩
      rw [hk3] at w5 hpl'
      rw [hl3] at w6 hpl'
      have FF := fI @a0 (fI @a1 (fI @a4 (fI @a12 (fI @a13 (fI @hgt2 (fI @ht' (fI @gx (fI @gy (fI @g4 (fI @g5 (fI @hsw3 (fI @hjs (fI @rg_cells (fI @rg_fold (fI @zW (fI @zaq (fI @hes' (fI @w5 @w6)))))))))))))))))); refine zx ?_; clear FF
      exact ⟨l3 + 1 - k3, by omega, Sort.swp e' k2 l2, k3, l3, ⟨by simp [zK, ht'], by simp [zK]; exact htσ, by simp [a0], by simp [a1], by simp [a4], by simp, by simp⟩, by rw [zaD, hes'], by omega, by omega, rfl, hpl'⟩
  · rintro A τ ⟨i', ht, htσ, a0, a1, a4, a12, a13⟩
    have FF := fI @a0 (fI @a1 (fI @a4 (fI @a12 @a13))); refine zx ?_; clear FF
    refine zT (x := .raw (.int .i64 jf)) (.inr rfl) (by simp) ⟨rfl, ?_⟩
    rw [← htσ, zbP, zaS ht]
end Go.Proofs.YtpboabpapgimoaaGreat.Av.Zn
namespace Go.Proofs.YtpboabpapgimoaaGreat.Av.Zn
open Go
set_option linter.unusedSimpArgs false
set_option linter.unusedVariables false
set_option maxRecDepth 100000
set_option pp.maxSteps 150
def PI (o : Id) (d : Array Rg) (σ : St) (g : FuncId) (a b : Nat) (e : Array Rg) (i s : Nat) (A : zD) (τ : St) : Prop :=
  τ.m o = some (zK e) ∧ τ.set o (zK d) = σ ∧ A 0 = .rs o 0 d.size ∧ A 1 = .raw (.int .i64 a) ∧ A 2 = .raw (.int .i64 b) ∧ A 3 = .fn (.func g) [] [] ∧ A 9 = .raw (.int .i64 i) ∧ A 10 = .raw (.int .i64 ((5 : Int) - s))
def PJ (o : Id) (d : Array Rg) (σ : St) (g : FuncId) (a b : Nat) (e : Array Rg) (i : Nat) (x : Int) (A : zD) (τ : St) : Prop :=
  τ.m o = some (zK e) ∧ τ.set o (zK d) = σ ∧ A 0 = .rs o 0 d.size ∧ A 1 = .raw (.int .i64 a) ∧ A 2 = .raw (.int .i64 b) ∧ A 3 = .fn (.func g) [] [] ∧ A 9 = .raw (.int .i64 i) ∧ A 10 = .raw (.int .i64 x)
theorem zfd {lt : Rg → Rg → Bool} {d : Array Rg} {b i : Nat} (h : i < b) : Sort.scanSorted lt d b i = if lt d[i]! d[i - 1]! = true then i else Sort.scanSorted lt d b (i + 1) := by
  rw [Sort.scanSorted]; simp [h]
  split <;> simp_all
theorem zdV {lt : Rg → Rg → Bool} {d : Array Rg} {b i : Nat} (h : ¬ i < b) : Sort.scanSorted lt d b i = i := by
  rw [Sort.scanSorted]; simp [h]
theorem zkI {lt : Rg → Rg → Bool} {d : Array Rg} {b : Nat} : ∀ (n i : Nat), b - i ≤ n → i ≤ b → i ≤ Sort.scanSorted lt d b i ∧ Sort.scanSorted lt d b i ≤ b := by
  intro n
  induction n with
  | zero => intro i h h2; rw [zdV (by omega)]; omega
  | succ n ih =>
    intro i h h2
    by_cases hi : i < b
    · rw [zfd hi]
      split
      · omega
      · have := ih (i + 1) (by omega) (by omega); omega
    · rw [zdV hi]; omega
theorem zjK {lt : Rg → Rg → Bool} {d : Array Rg} {k : Nat} (h : 0 < k) : Sort.shiftDown lt k d = if lt d[k]! d[k - 1]! = true then Sort.shiftDown lt (k - 1) (Sort.swp d k (k - 1)) else d := by
  obtain ⟨m, rfl⟩ : ∃ m, k = m + 1 := ⟨k - 1, by omega⟩
  rw [Sort.shiftDown]
  simp only [Nat.add_sub_cancel]
  by_cases hl : lt d[m + 1]! d[m]! = true <;> simp [hl]
theorem zlQ {lt : Rg → Rg → Bool} {d : Array Rg} {b k : Nat} (h : k < b) : Sort.shiftUp lt b k d = if lt d[k]! d[k - 1]! = true then Sort.shiftUp lt b (k + 1) (Sort.swp d k (k - 1)) else d := by
  rw [Sort.shiftUp, if_pos h]
  by_cases hl : lt d[k]! d[k - 1]! = true <;> simp [hl]
theorem zmA {lt : Rg → Rg → Bool} {d : Array Rg} {b k : Nat} (h : ¬ k < b) : Sort.shiftUp lt b k d = d := by rw [Sort.shiftUp, if_neg h]
theorem zig {g : FuncId} {c : Rg → Rg → Int} (hcc : Cmp g c) {o : Id} (hjs : o.sz = 2) {d : Array Rg} {a b : Nat} (hab : a < b) (hb : b ≤ d.size) (hsz : d.size < 2 ^ 43) {σ : St} (hj : σ.m o = some (zK d)) :
    ACalls Tryz.prog 125 [.rs o 0 d.size, .raw (.int .i64 a), .raw (.int .i64 b), .fn (.func g) [] []] σ fun r τ =>
      r = .raw (.bool (Sort.partialInsertionSort (zq c) d a b).2) ∧ τ = σ.set o (zK (Sort.partialInsertionSort (zq c) d a b).1) := by
  refine zaL Tryz.func125 rfl (N := 141) rfl rfl (by simp) ?_
  have w1 : IntKind.i64.wrap ((a : Int) + 1) = ((a + 1 : Nat) : Int) := by rw [zh (by omega) (by omega)]; omega
  obtain ⟨i0, hi0⟩ : ∃ i0, a + 1 = i0 := ⟨_, rfl⟩
  rw [hi0] at w1
  obtain ⟨df, rf, hpf⟩ : ∃ df rf, Sort.partialIns (zq c) a b 5 i0 d = (df, rf) := ⟨_, _, rfl⟩
  have hres : Sort.partialInsertionSort (zq c) d a b = (df, rf) := by rw [Sort.partialInsertionSort, hi0, hpf]
  rw [hres]
  have FF := @w1; refine zx ?_; clear FF
  refine zav (fun n A τ => ∃ e i, PI o d σ g a b e i n A τ ∧ n ≤ 5 ∧ e.size = d.size ∧ a + 1 ≤ i ∧ i ≤ b ∧ Sort.partialIns (zq c) a b n i e = (df, rf)) 5 ?_ ?_
  · exact ⟨d, i0, ⟨by simp [hj], zaS hj, by simp, by simp, by simp, by simp, by simp, by simp⟩, by omega, rfl, by omega, by omega, hpf⟩
  rintro s A τ ⟨e, i, ⟨ht, htσ, a0, a1, a2, a3, a9, a10⟩, hs5, hes, hai, hib, hpf'⟩
  cases s with
  | zero =>
    have FF := fI @a0 (fI @a1 (fI @a2 (fI @a3 (fI @a9 @a10)))); refine zx ?_; clear FF
    rw [Sort.partialIns] at hpf'
    injection hpf' with q1 q2
    subst q1 q2
    refine zT (x := .raw (.bool false)) (.inr rfl) (by simp) ⟨rfl, ?_⟩
    rw [← htσ, zbP, zaS ht]
  | succ s =>
    have hlt5 : (5 : Int) - ((s + 1 : Nat) : Int) < 5 := by omega
    obtain ⟨x5, hx5⟩ : ∃ x5 : Int, (5 : Int) - ((s + 1 : Nat) : Int) = x5 := ⟨_, rfl⟩
    rw [hx5] at a10 hlt5
    have FF := fI @a0 (fI @a1 (fI @a2 (fI @a3 (fI @a9 (fI @a10 @hlt5))))); refine zx ?_; clear FF
    obtain ⟨i2, hi2⟩ : ∃ i2, Sort.scanSorted (zq c) e b i = i2 := ⟨_, rfl⟩
    have hi2r := zkI (lt := zq c) (d := e) (b := b) _ i (Nat.le_refl _) hib
    rw [hi2] at hi2r
    have g2 : (a : Int) < d.size := by omega
    refine zaU (PJ o d σ g a b e i2 x5) ?_ ?_
    · refine zav (fun n A τ => ∃ i', PJ o d σ g a b e i' x5 A τ ∧ i ≤ i' ∧ i' ≤ b ∧ n = b - i' ∧ Sort.scanSorted (zq c) e b i' = i2) (b - i) ?_ ?_
      · exact ⟨i, ⟨ht, htσ, by simp [a0], by simp [a1], by simp [a2], by simp [a3], by simp [a9], by simp [a10]⟩, Nat.le_refl _, hib, rfl, hi2⟩
      rintro n A τ ⟨i', ⟨ht, htσ, a0, a1, a2, a3, a9, a10⟩, hii, hib', hn, hsc⟩
      have ht' : τ.m o = some (.buf (e.toList.map zl)) := ht
      by_cases hlt : i' < b
      · have gx : e[i']? = some e[i']! := zM (by omega)
        have gy : e[i' - 1]? = some e[i' - 1]! := zM (by omega)
        have g1 : (i' : Int) < d.size := by omega
        have g3 : ((i' - 1 : Nat) : Int) < d.size := by omega
        have wi : IntKind.i64.wrap ((i' : Int) + 1) = ((i' + 1 : Nat) : Int) := by rw [zh (by omega) (by omega)]; omega
        have wp : IntKind.i64.wrap ((i' : Int) - 1) = ((i' - 1 : Nat) : Int) := by rw [zh (by omega) (by omega)]; omega
        rw [zfd hlt] at hsc
        generalize hi1 : i' + 1 = i1 at *
        generalize hi3 : i' - 1 = i3 at *
        have FF := fI @a0 (fI @a1 (fI @a2 (fI @a3 (fI @a9 (fI @a10 (fI @hlt (fI @ht' (fI @gx (fI @gy (fI @g1 (fI @g3 (fI @hjs (fI @rg_cells (fI @rg_fold (fI @hes (fI @wi @wp)))))))))))))))); refine zx ?_; clear FF
        refine PCalls.use (hcc.calls _ _) ?_
        (try ((first | with_reducible refine zo ?_ | with_reducible refine zt ?_ | with_reducible refine zu ?_); simp [a0, a1, a2, a3, a9, a10, hlt, ht', gx, gy, g1, g3, hjs, rg_cells, rg_fold, hes, wi, wp])); repeat' (first | ((first | refine zf ?_ | refine zg ?_ | refine dN (by decide +kernel) ?_ | (refine za ?_ ?_ <;> (intro hg; simp only [hg])) | fail) <;> simp [a0, a1, a2, a3, a9, a10, hlt, ht', gx, gy, g1, g3, hjs, rg_cells, rg_fold, hes, wi, wp]) | refine ze ?_ | refine zd ?_ | (refine zA ?_; simp only [zB]; try simp) | ((first | refine zm (by simp) ?_ | refine zv (by simp) (by simp) (by simp (maxDischargeDepth := 30) [a0, a1, a2, a3, a9, a10, hlt, ht', gx, gy, g1, g3, hjs, rg_cells, rg_fold, hes, wi, wp]) ?_ | fail); simp) | (refine zc (fun hc => ?_) (fun hc => ?_) <;> try simp at hc) | fail)
        · rw [if_neg (by simp [zq]; omega)] at hsc
          exact ⟨b - i1, by omega, i1, ⟨ht, htσ, by simp [a0], by simp [a1], by simp [a2], by simp [a3], by simp, by simp [a10]⟩, by omega, by omega, rfl, hsc⟩
        · rw [if_pos (by simp [zq]; omega)] at hsc
          rw [← hsc]
          exact ⟨ht, htσ, by simp [a0], by simp [a1], by simp [a2], by simp [a3], by simp [a9], by simp [a10]⟩
      · have FF := fI @a0 (fI @a1 (fI @a2 (fI @a3 (fI @a9 (fI @a10 @hlt))))); refine zx ?_; clear FF
        rw [zdV hlt] at hsc
        rw [← hsc]
        exact ⟨ht, htσ, by simp [a0], by simp [a1], by simp [a2], by simp [a3], by simp [a9], by simp [a10]⟩
    rintro A τ ⟨ht, htσ, a0, a1, a2, a3, a9, a10⟩
    have ht' : τ.m o = some (.buf (e.toList.map zl)) := ht
    have wba : IntKind.i64.wrap ((b : Int) - a) = ((b - a : Nat) : Int) := by rw [zh (by omega) (by omega)]; omega
    rw [Sort.partialIns, hi2] at hpf'
    by_cases hib2 : i2 = b
    · subst hib2
      rw [if_pos rfl] at hpf'
      injection hpf' with q1 q2
      subst q1 q2
      have FF := fI @a0 (fI @a1 (fI @a2 (fI @a3 (fI @a9 @a10)))); refine zx ?_; clear FF
      refine zT (x := .raw (.bool true)) (.inr rfl) (by simp) ⟨rfl, ?_⟩
      rw [← htσ, zbP, zaS ht]
    · rw [if_neg hib2] at hpf'
      have hibi : ¬ ((i2 : Int) = b) := by omega
      by_cases h50 : b - a < 50
      · have h50' : ((b - a : Nat) : Int) < 50 := by omega
        rw [if_pos h50] at hpf'
        injection hpf' with q1 q2
        subst q1 q2
        have FF := fI @a0 (fI @a1 (fI @a2 (fI @a3 (fI @a9 (fI @a10 (fI @hib2 (fI @hibi (fI @wba @h50')))))))); refine zx ?_; clear FF
        refine zT (x := .raw (.bool false)) (.inr rfl) (by simp) ⟨rfl, ?_⟩
        rw [← htσ, zbP, zaS ht]
      · have h50' : ¬ ((b - a : Nat) : Int) < 50 := by omega
        rw [if_neg h50] at hpf'
        have gx : e[i2]? = some e[i2]! := zM (by omega)
        have gy : e[i2 - 1]? = some e[i2 - 1]! := zM (by omega)
        have g1 : (i2 : Int) < d.size := by omega
        have g3 : ((i2 - 1 : Nat) : Int) < d.size := by omega
        have wp : IntKind.i64.wrap ((i2 : Int) - 1) = ((i2 - 1 : Nat) : Int) := by rw [zh (by omega) (by omega)]; omega
        have hsw2 := zcn e (i := i2) (k := i2 - 1) (by omega) (by omega)
        have wia : IntKind.i64.wrap ((i2 : Int) - a) = ((i2 - a : Nat) : Int) := by rw [zh (by omega) (by omega)]; omega
        generalize hi3 : i2 - 1 = i3 at *
        have FF := fI @wia (fI @a0 (fI @a1 (fI @a2 (fI @a3 (fI @a9 (fI @a10 (fI @hib2 (fI @hibi (fI @wba (fI @h50' (fI @ht' (fI @gx (fI @gy (fI @g1 (fI @g3 (fI @hsw2 (fI @wp (fI @hjs (fI @rg_cells (fI @rg_fold (fI @zW (fI @zaq @hes)))))))))))))))))))))); refine goM ?_; clear FF
        obtain ⟨e1, he1⟩ : ∃ e1, Sort.swp e i2 i3 = e1 := ⟨_, rfl⟩
        have hes1 : e1.size = d.size := by rw [← he1, zaD, hes]
        rw [he1] at hpf' ⊢
        obtain ⟨e2, he2⟩ : ∃ e2, (if i2 - a ≥ 2 then Sort.shiftDown (zq c) i3 e1 else e1) = e2 := ⟨_, rfl⟩
        simp only [he2] at hpf'
        refine zeU (fun A τ => PJ o d σ g a b e2 i2 x5 A τ ∧ e2.size = d.size) ?_ ?_
        · by_cases h2 : i2 - a ≥ 2
          · rw [if_pos h2] at he2
            have h2' : (2 : Int) ≤ ((i2 - a : Nat) : Int) := by omega
            have FF := fI @a0 (fI @a1 (fI @a2 (fI @a3 (fI @a9 (fI @a10 (fI @wia (fI @h2' @wp))))))); refine zx ?_; clear FF
            refine zav (fun n A τ => ∃ (k : Nat) (e' : Array Rg), PJ o d σ g a b e' i2 x5 A τ ∧ A 11 = .raw (.int .i64 k) ∧ n = k ∧ k ≤ i3 ∧ e'.size = d.size ∧ Sort.shiftDown (zq c) k e' = e2) i3 ?_ ?_
            · exact ⟨i3, e1, ⟨by simp [zK, ht'], by simp [zK]; exact htσ, by simp [a0], by simp [a1], by simp [a2], by simp [a3], by simp [a9], by simp [a10]⟩, by simp, rfl, Nat.le_refl _, hes1, he2⟩
            rintro n A τ ⟨k, e', ⟨ht, htσ, a0, a1, a2, a3, a9, a10⟩, a11, hn, hk, hes', hsh⟩
            have ht' : τ.m o = some (.buf (e'.toList.map zl)) := ht
            by_cases hk1 : 0 < k
            · have hk1' : (1 : Int) ≤ (k : Int) := by omega
              have gx : e'[k]? = some e'[k]! := zM (by omega)
              have gy : e'[k - 1]? = some e'[k - 1]! := zM (by omega)
              have g1 : (k : Int) < d.size := by omega
              have g3 : ((k - 1 : Nat) : Int) < d.size := by omega
              have wk : IntKind.i64.wrap ((k : Int) - 1) = ((k - 1 : Nat) : Int) := by rw [zh (by omega) (by omega)]; omega
              have hsw3 := zcn e' (i := k) (k := k - 1) (by omega) (by omega)
              rw [zjK hk1] at hsh
              generalize hkp : k - 1 = kp at *
              have FF := fI @a0 (fI @a1 (fI @a2 (fI @a3 (fI @a9 (fI @a10 (fI @a11 (fI @hk1' (fI @ht' (fI @gx (fI @gy (fI @g1 (fI @g3 (fI @hjs (fI @rg_cells (fI @rg_fold (fI @hes' @wk)))))))))))))))); refine zx ?_; clear FF
              refine PCalls.use (hcc.calls _ _) ?_
              (try ((first | with_reducible refine zo ?_ | with_reducible refine zt ?_ | with_reducible refine zu ?_); simp [a0, a1, a2, a3, a9, a10, a11, hk1', ht', gx, gy, g1, g3, hsw3, hjs, rg_cells, rg_fold, zW, zaq, hes', wk])); repeat' (first | ((first | refine zf ?_ | refine zg ?_ | refine dN (by decide +kernel) ?_ | (refine za ?_ ?_ <;> (intro hg; simp only [hg])) | fail) <;> simp [a0, a1, a2, a3, a9, a10, a11, hk1', ht', gx, gy, g1, g3, hsw3, hjs, rg_cells, rg_fold, zW, zaq, hes', wk]) | refine ze ?_ | refine zd ?_ | (refine zA ?_; simp only [zB]; try simp) | ((first | refine zm (by simp) ?_ | refine zv (by simp) (by simp) (by simp (maxDischargeDepth := 30) [a0, a1, a2, a3, a9, a10, a11, hk1', ht', gx, gy, g1, g3, hsw3, hjs, rg_cells, rg_fold, zW, zaq, hes', wk]) ?_ | fail); simp) | (refine zc (fun hc => ?_) (fun hc => ?_) <;> try simp at hc) | fail)
              · rw [if_neg (by simp [zq]; omega)] at hsh
                subst hsh
                exact ⟨⟨ht, htσ, by simp [a0], by simp [a1], by simp [a2], by simp [a3], by simp [a9], by simp [a10]⟩, hes'⟩
              · rw [if_pos (by simp [zq]; omega)] at hsh
                exact ⟨kp, by omega, kp, Sort.swp e' k kp, ⟨by simp [zK, ht'], by simp [zK]; exact htσ, by simp [a0], by simp [a1], by simp [a2], by simp [a3], by simp [a9], by simp [a10]⟩, by simp, rfl, by omega, by rw [zaD, hes'], hsh⟩
            · have hk0 : k = 0 := by omega
              subst hk0
              rw [Sort.shiftDown] at hsh
              subst hsh
              have FF := fI @a0 (fI @a1 (fI @a2 (fI @a3 (fI @a9 (fI @a10 @a11))))); refine zx ?_; clear FF
              exact ⟨⟨ht, htσ, by simp [a0], by simp [a1], by simp [a2], by simp [a3], by simp [a9], by simp [a10]⟩, hes'⟩
          · rw [if_neg h2] at he2
            subst he2
            have h2' : ¬ (2 : Int) ≤ ((i2 - a : Nat) : Int) := by omega
            have FF := fI @a0 (fI @a1 (fI @a2 (fI @a3 (fI @a9 (fI @a10 (fI @wia @h2')))))); refine zx ?_; clear FF
            exact ⟨⟨by simp [zK, ht'], by simp [zK]; exact htσ, by simp [a0], by simp [a1], by simp [a2], by simp [a3], by simp [a9], by simp [a10]⟩, hes1⟩
        · rintro A τ ⟨⟨ht, htσ, a0, a1, a2, a3, a9, a10⟩, hes2⟩
          obtain ⟨e3, he3⟩ : ∃ e3, (if b - i2 ≥ 2 then Sort.shiftUp (zq c) b (i2 + 1) e2 else e2) = e3 := ⟨_, rfl⟩
          simp only [he3] at hpf'
          have wbi : IntKind.i64.wrap ((b : Int) - i2) = ((b - i2 : Nat) : Int) := by rw [zh (by omega) (by omega)]; omega
          have FF := fI @a0 (fI @a1 (fI @a2 (fI @a3 (fI @a9 (fI @a10 @wbi))))); refine goM ?_; clear FF
          refine zaU (fun A τ => PJ o d σ g a b e3 i2 x5 A τ ∧ e3.size = d.size) ?_ ?_
          · have ht' : τ.m o = some (.buf (e2.toList.map zl)) := ht
            by_cases h2 : b - i2 ≥ 2
            · rw [if_pos h2] at he3
              have h2' : (2 : Int) ≤ ((b - i2 : Nat) : Int) := by omega
              have wi : IntKind.i64.wrap ((i2 : Int) + 1) = ((i2 + 1 : Nat) : Int) := by rw [zh (by omega) (by omega)]; omega
              obtain ⟨i4, hi4⟩ : ∃ i4, i2 + 1 = i4 := ⟨_, rfl⟩
              rw [hi4] at wi he3
              have FF := fI @a0 (fI @a1 (fI @a2 (fI @a3 (fI @a9 (fI @a10 (fI @wbi (fI @h2' @wi))))))); refine zx ?_; clear FF
              refine zav (fun n A τ => ∃ (k : Nat) (e' : Array Rg), PJ o d σ g a b e' i2 x5 A τ ∧ A 12 = .raw (.int .i64 k) ∧ n = b - k ∧ i4 ≤ k ∧ e'.size = d.size ∧ Sort.shiftUp (zq c) b k e' = e3) (b - i4) ?_ ?_
              · exact ⟨i4, e2, ⟨ht, htσ, by simp [a0], by simp [a1], by simp [a2], by simp [a3], by simp [a9], by simp [a10]⟩, by simp, rfl, Nat.le_refl _, hes2, he3⟩
              rintro n A τ ⟨k, e', ⟨ht, htσ, a0, a1, a2, a3, a9, a10⟩, a12, hn, hk, hes', hsh⟩
              have ht' : τ.m o = some (.buf (e'.toList.map zl)) := ht
              by_cases hk1 : k < b
              · have gx : e'[k]? = some e'[k]! := zM (by omega)
                have gy : e'[k - 1]? = some e'[k - 1]! := zM (by omega)
                have g1 : (k : Int) < d.size := by omega
                have g3 : ((k - 1 : Nat) : Int) < d.size := by omega
                have wk : IntKind.i64.wrap ((k : Int) - 1) = ((k - 1 : Nat) : Int) := by rw [zh (by omega) (by omega)]; omega
                have wn : IntKind.i64.wrap ((k : Int) + 1) = ((k + 1 : Nat) : Int) := by rw [zh (by omega) (by omega)]; omega
                have hsw3 := zcn e' (i := k) (k := k - 1) (by omega) (by omega)
                rw [zlQ hk1] at hsh
                generalize hkp : k - 1 = kp at *
                generalize hkn : k + 1 = kn at *
                have FF := fI @a0 (fI @a1 (fI @a2 (fI @a3 (fI @a9 (fI @a10 (fI @a12 (fI @hk1 (fI @ht' (fI @gx (fI @gy (fI @g1 (fI @g3 (fI @hjs (fI @rg_cells (fI @rg_fold (fI @hes' (fI @wk @wn))))))))))))))))); refine zx ?_; clear FF
                refine PCalls.use (hcc.calls _ _) ?_
                (try ((first | with_reducible refine zo ?_ | with_reducible refine zt ?_ | with_reducible refine zu ?_); simp [a0, a1, a2, a3, a9, a10, a12, hk1, ht', gx, gy, g1, g3, hsw3, hjs, rg_cells, rg_fold, zW, zaq, hes', wk, wn])); repeat' (first | ((first | refine zf ?_ | refine zg ?_ | refine dN (by decide +kernel) ?_ | (refine za ?_ ?_ <;> (intro hg; simp only [hg])) | fail) <;> simp [a0, a1, a2, a3, a9, a10, a12, hk1, ht', gx, gy, g1, g3, hsw3, hjs, rg_cells, rg_fold, zW, zaq, hes', wk, wn]) | refine ze ?_ | refine zd ?_ | (refine zA ?_; simp only [zB]; try simp) | ((first | refine zm (by simp) ?_ | refine zv (by simp) (by simp) (by simp (maxDischargeDepth := 30) [a0, a1, a2, a3, a9, a10, a12, hk1, ht', gx, gy, g1, g3, hsw3, hjs, rg_cells, rg_fold, zW, zaq, hes', wk, wn]) ?_ | fail); simp) | (refine zc (fun hc => ?_) (fun hc => ?_) <;> try simp at hc) | fail)
                · rw [if_neg (by simp [zq]; omega)] at hsh
                  subst hsh
                  exact ⟨⟨ht, htσ, by simp [a0], by simp [a1], by simp [a2], by simp [a3], by simp [a9], by simp [a10]⟩, hes'⟩
                · rw [if_pos (by simp [zq]; omega)] at hsh
                  exact ⟨b - kn, by omega, kn, Sort.swp e' k kp, ⟨by simp [zK, ht'], by simp [zK]; exact htσ, by simp [a0], by simp [a1], by simp [a2], by simp [a3], by simp [a9], by simp [a10]⟩, by simp, rfl, by omega, by rw [zaD, hes'], hsh⟩
              · rw [zmA hk1] at hsh
                subst hsh
                have FF := fI @a0 (fI @a1 (fI @a2 (fI @a3 (fI @a9 (fI @a10 (fI @a12 @hk1)))))); refine zx ?_; clear FF
                exact ⟨⟨ht, htσ, by simp [a0], by simp [a1], by simp [a2], by simp [a3], by simp [a9], by simp [a10]⟩, hes'⟩
            · rw [if_neg h2] at he3
              subst he3
              have h2' : ¬ (2 : Int) ≤ ((b - i2 : Nat) : Int) := by omega
              have FF := fI @a0 (fI @a1 (fI @a2 (fI @a3 (fI @a9 (fI @a10 (fI @wbi @h2')))))); refine zx ?_; clear FF
              exact ⟨⟨ht, htσ, by simp [a0], by simp [a1], by simp [a2], by simp [a3], by simp [a9], by simp [a10]⟩, hes2⟩
          · rintro A τ ⟨⟨ht, htσ, a0, a1, a2, a3, a9, a10⟩, hes3⟩
            have w10 : IntKind.i64.wrap (x5 + 1) = (5 : Int) - s := by rw [zh (by omega) (by omega)]; omega
            have FF := fI @a0 (fI @a1 (fI @a2 (fI @a3 (fI @a9 (fI @a10 @w10))))); refine zx ?_; clear FF
            exact ⟨s, by omega, e3, i2, ⟨ht, htσ, by simp [a0], by simp [a1], by simp [a2], by simp [a3], by simp [a9], by simp⟩, by omega, hes3, by omega, by omega, hpf'⟩
end Go.Proofs.YtpboabpapgimoaaGreat.Av.Zn
namespace Go.Proofs.YtpboabpapgimoaaGreat.Av.Zn
open Go
set_option linter.unusedSimpArgs false
set_option linter.unusedVariables false
set_option maxRecDepth 100000
set_option pp.maxSteps 150
theorem ze2 {g : FuncId} {c : Rg → Rg → Int} (hcc : Cmp g c) {o w : Id} (hjs : o.sz = 2) (hws : w.sz = 1) (how : w ≠ o) {d : Array Rg} {a b k : Nat} (ha : a < d.size) (hb : b < d.size) (hk : k < 2 ^ 40) (hsz : d.size < 2 ^ 43) {σ : St} (hj : σ.m o = some (zK d)) (hw : σ.m w = some (.buf [.raw (.int .i64 k)])) :
    ACalls Tryz.prog 147 [.rs o 0 d.size, .raw (.int .i64 a), .raw (.int .i64 b), .rp w 0 0, .fn (.func g) [] []] σ fun r τ =>
      r = .tup [.raw (.int .i64 (Sort.order2 (zq c) d a b k).1), .raw (.int .i64 (Sort.order2 (zq c) d a b k).2.1)] ∧ τ = σ.set w (.buf [.raw (.int .i64 (Sort.order2 (zq c) d a b k).2.2)]) := by
  refine zaL Tryz.func147 rfl (N := 32) rfl rfl (by simp) ?_
  have hb' : σ.m o = some (.buf (d.toList.map zl)) := hj
  have gx : d[a]? = some d[a]! := zM ha
  have gy : d[b]? = some d[b]! := zM hb
  have g1 : (a : Int) < d.size := by omega
  have g2 : (b : Int) < d.size := by omega
  have w1 : IntKind.i64.wrap ((k : Int) + 1) = ((k + 1 : Nat) : Int) := by rw [zh (by omega) (by omega)]; omega
  obtain ⟨k1, hk1⟩ : ∃ k1, k + 1 = k1 := ⟨_, rfl⟩
  rw [hk1] at w1
  have FF := fI @hb' (fI @gx (fI @gy (fI @g1 (fI @g2 (fI @hjs (fI @hws (fI @rg_cells (fI @rg_fold (fI @w1 @hw))))))))); refine zx ?_; clear FF
  refine PCalls.use (hcc.calls _ _) ?_
  (try ((first | with_reducible refine zo ?_ | with_reducible refine zt ?_ | with_reducible refine zu ?_); simp [hb', gx, gy, g1, g2, hjs, hws, rg_cells, rg_fold, w1, hw])); repeat' (first | ((first | refine zf ?_ | refine zg ?_ | refine dN (by decide +kernel) ?_ | (refine za ?_ ?_ <;> (intro hg; simp only [hg])) | fail) <;> simp [hb', gx, gy, g1, g2, hjs, hws, rg_cells, rg_fold, w1, hw]) | refine ze ?_ | refine zd ?_ | (refine zA ?_; simp only [zB]; try simp) | ((first | refine zm (by simp) ?_ | refine zv (by simp) (by simp) (by simp (maxDischargeDepth := 30) [hb', gx, gy, g1, g2, hjs, hws, rg_cells, rg_fold, w1, hw]) ?_ | fail); simp) | (refine zc (fun hc => ?_) (fun hc => ?_) <;> try simp at hc) | fail)
  · have hl : zq c d[b]! d[a]! = true := by simp [zq]; omega
    have e1 : Sort.order2 (zq c) d a b k = (b, a, k1) := by rw [Sort.order2, if_pos hl, hk1]
    rw [e1]
    exact zT (x := .tup [.raw (.int .i64 b), .raw (.int .i64 a)]) (.inr rfl) (by simp) ⟨rfl, rfl⟩
  · have hl : ¬ zq c d[b]! d[a]! = true := by simp [zq]; omega
    have e1 : Sort.order2 (zq c) d a b k = (a, b, k) := by rw [Sort.order2, if_neg hl]
    rw [e1]
    exact zT (x := .tup [.raw (.int .i64 a), .raw (.int .i64 b)]) (.inr rfl) (by simp) ⟨rfl, (zaS hw).symm⟩
theorem zel (lt : Rg → Rg → Bool) (d : Array Rg) {a b k n : Nat} (ha : a < n) (hb : b < n) : (Sort.order2 lt d a b k).1 < n ∧ (Sort.order2 lt d a b k).2.1 < n ∧ k ≤ (Sort.order2 lt d a b k).2.2 ∧ (Sort.order2 lt d a b k).2.2 ≤ k + 1 := by
  unfold Sort.order2
  split <;> simp <;> omega
theorem ze3 {g : FuncId} {c : Rg → Rg → Int} (hcc : Cmp g c) {o w : Id} (hjs : o.sz = 2) (hws : w.sz = 1) (how : w ≠ o) {d : Array Rg} {a b m k : Nat} (ha : a < d.size) (hb : b < d.size) (hm : m < d.size) (hk : k < 2 ^ 39) (hsz : d.size < 2 ^ 43) {σ : St} (hj : σ.m o = some (zK d)) (hw : σ.m w = some (.buf [.raw (.int .i64 k)])) :
    ACalls Tryz.prog 142 [.rs o 0 d.size, .raw (.int .i64 a), .raw (.int .i64 b), .raw (.int .i64 m), .rp w 0 0, .fn (.func g) [] []] σ fun r τ =>
      r = .raw (.int .i64 (Sort.median (zq c) d a b m k).1) ∧ τ = σ.set w (.buf [.raw (.int .i64 (Sort.median (zq c) d a b m k).2)]) := by
  refine zaL Tryz.func142 rfl (N := 41) rfl rfl (by simp) ?_
  have c1 := ze2 hcc hjs hws how ha hb (by omega) hsz hj hw
  have l1 := zel (zq c) d (k := k) ha hb
  obtain ⟨x1, y1, k1, h1⟩ : ∃ x y z, Sort.order2 (zq c) d a b k = (x, y, z) := ⟨_, _, _, rfl⟩
  rw [h1] at c1 l1
  simp only [] at c1 l1
  have c2 := ze2 hcc hjs hws how (a := y1) (b := m) (k := k1) l1.2.1 hm (by omega) hsz (σ := σ.set w (.buf [.raw (.int .i64 k1)])) (by rw [zy (Ne.symm how)]; exact hj) (by simp [hw])
  have l2 := zel (zq c) d (k := k1) l1.2.1 hm
  obtain ⟨x2, y2, k2, h2⟩ : ∃ x y z, Sort.order2 (zq c) d y1 m k1 = (x, y, z) := ⟨_, _, _, rfl⟩
  rw [h2] at c2 l2
  simp only [zbP] at c2 l2
  have c3 := ze2 hcc hjs hws how (a := x1) (b := x2) (k := k2) l1.1 l2.1 (by omega) hsz (σ := σ.set w (.buf [.raw (.int .i64 k2)])) (by rw [zy (Ne.symm how)]; exact hj) (by simp [hw])
  obtain ⟨x3, y3, k3, h3⟩ : ∃ x y z, Sort.order2 (zq c) d x1 x2 k2 = (x, y, z) := ⟨_, _, _, rfl⟩
  rw [h3] at c3
  simp only [zbP] at c3
  have hmed : Sort.median (zq c) d a b m k = (y3, k3) := by simp only [Sort.median, h1, h2, h3]
  rw [hmed]
  refine zaR ?_
  refine c1.mono ?_
  rintro _ τ ⟨rfl, rfl⟩
  refine zaR ?_
  refine c2.mono ?_
  rintro _ τ ⟨rfl, rfl⟩
  refine zaR ?_
  refine c3.mono ?_
  rintro _ τ ⟨rfl, rfl⟩
  refine zaR ?_
  exact zT (x := .raw (.int .i64 y3)) (.inr rfl) (by simp) ⟨rfl, rfl⟩
theorem zdD {g : FuncId} {c : Rg → Rg → Int} (hcc : Cmp g c) {o w : Id} (hjs : o.sz = 2) (hws : w.sz = 1) (how : w ≠ o) {d : Array Rg} {a k : Nat} (ha0 : 0 < a) (ha : a + 1 < d.size) (hk : k < 2 ^ 39) (hsz : d.size < 2 ^ 43) {σ : St} (hj : σ.m o = some (zK d)) (hw : σ.m w = some (.buf [.raw (.int .i64 k)])) :
    ACalls Tryz.prog 141 [.rs o 0 d.size, .raw (.int .i64 a), .rp w 0 0, .fn (.func g) [] []] σ fun r τ =>
      r = .raw (.int .i64 (Sort.medianAdjacent (zq c) d a k).1) ∧ τ = σ.set w (.buf [.raw (.int .i64 (Sort.medianAdjacent (zq c) d a k).2)]) := by
  refine zaL Tryz.func141 rfl (N := 18) rfl rfl (by simp) ?_
  have w1 : IntKind.i64.wrap ((a : Int) + 1) = ((a + 1 : Nat) : Int) := by rw [zh (by omega) (by omega)]; omega
  have w2 : IntKind.i64.wrap ((a : Int) - 1) = ((a - 1 : Nat) : Int) := by rw [zh (by omega) (by omega)]; omega
  have cm := ze3 hcc hjs hws how (a := a - 1) (b := a) (m := a + 1) (by omega) (by omega) ha hk hsz hj hw
  obtain ⟨y, z, hm⟩ : ∃ y z, Sort.median (zq c) d (a - 1) a (a + 1) k = (y, z) := ⟨_, _, rfl⟩
  have hma : Sort.medianAdjacent (zq c) d a k = (y, z) := by rw [Sort.medianAdjacent, hm]
  rw [hm] at cm
  rw [hma]
  generalize a + 1 = a1 at *
  generalize a - 1 = a2 at *
  have FF := fI @w1 @w2; refine zx ?_; clear FF
  refine cm.mono ?_
  rintro _ τ ⟨rfl, rfl⟩
  refine zaR ?_
  exact zT (x := .raw (.int .i64 y)) (.inr rfl) (by simp) ⟨rfl, rfl⟩
theorem zg3 (lt : Rg → Rg → Bool) (d : Array Rg) {a b m k n : Nat} (ha : a < n) (hb : b < n) (hm : m < n) : (Sort.median lt d a b m k).1 < n ∧ (Sort.median lt d a b m k).2 ≤ k + 3 := by
  have l1 := zel lt d (k := k) ha hb
  obtain ⟨x1, y1, k1, h1⟩ : ∃ x y z, Sort.order2 lt d a b k = (x, y, z) := ⟨_, _, _, rfl⟩
  rw [h1] at l1
  have l2 := zel lt d (k := k1) l1.2.1 hm
  obtain ⟨x2, y2, k2, h2⟩ : ∃ x y z, Sort.order2 lt d y1 m k1 = (x, y, z) := ⟨_, _, _, rfl⟩
  rw [h2] at l2
  have l3 := zel lt d (k := k2) l1.1 l2.1
  simp only [Sort.median, h1, h2]
  simp only [] at l1 l2 l3
  omega
end Go.Proofs.YtpboabpapgimoaaGreat.Av.Zn
namespace Go.Proofs.YtpboabpapgimoaaGreat.Av.Zn
open Go
set_option linter.unusedSimpArgs false
set_option linter.unusedVariables false
set_option maxRecDepth 100000
set_option maxHeartbeats 4000000
set_option pp.maxSteps 150
def zc4 : Sort.Hint → Int
  | .unknown => 0
  | .increasing => 1
  | .decreasing => 2
theorem zg4 {P : Program} {A : zD} {σ τ : St} {fn : Func} {K : AV → St → Prop} {e : Exit} (he : e = .normal ∨ e = .ret) {x : AV} (h : zaH P τ.m A fn.results = some x) (hx : x.flat = true) (hE : Ext σ τ) (hK : ∀ ρ : St, ρ.m = σ.m → (∀ s, σ.nx s ≤ ρ.nx s) → K x ρ) : zgN P fn K e A τ :=
  ⟨he, x, h, ⟨σ.m, τ.nx, fun i hi => Nat.lt_of_lt_of_le (σ.wf i hi) (hE.nx _)⟩, fun i o hi => hE.m i o hi, fun _ => Nat.le_refl _, x, by rw [zeT hx]; exact Weaker.refl _, hK _ rfl hE.nx⟩
theorem zhu {g : FuncId} {c : Rg → Rg → Int} (hcc : Cmp g c) {o : Id} (hjs : o.sz = 2) {d : Array Rg} {a b : Nat} (hab : a < b) (hb : b ≤ d.size) (hsz : d.size < 2 ^ 43) {σ : St} (hj : σ.m o = some (zK d)) :
    ACalls Tryz.prog 123 [.rs o 0 d.size, .raw (.int .i64 a), .raw (.int .i64 b), .fn (.func g) [] []] σ fun r τ =>
      r = .tup [.raw (.int .i64 (Sort.choosePivot (zq c) d a b).1), .raw (.int .i64 (zc4 (Sort.choosePivot (zq c) d a b).2))] ∧ τ.m = σ.m ∧ ∀ s, σ.nx s ≤ τ.nx s := by
  refine zaL Tryz.func123 rfl (N := 63) rfl rfl (by simp) ?_
  obtain ⟨l, hl⟩ : ∃ l, b - a = l := ⟨_, rfl⟩
  obtain ⟨q, hq⟩ : ∃ q, l / 4 = q := ⟨_, rfl⟩
  obtain ⟨i, hi⟩ : ∃ i, a + q * 1 = i := ⟨_, rfl⟩
  obtain ⟨j, hjj⟩ : ∃ j, a + q * 2 = j := ⟨_, rfl⟩
  obtain ⟨k, hk⟩ : ∃ k, a + q * 3 = k := ⟨_, rfl⟩
  have w1 : IntKind.i64.wrap ((b : Int) - a) = l := by rw [zh (by omega) (by omega)]; omega
  have w2 : (l : Int).tdiv 4 = q := by rw [Int.tdiv_eq_ediv_of_nonneg (by omega)]; omega
  have w3 : IntKind.i64.wrap (q : Int) = q := zh (by omega) (by omega)
  have w4 : IntKind.i64.wrap ((q : Int) * 2) = ((q * 2 : Nat) : Int) := by rw [zh (by omega) (by omega)]; omega
  have w5 : IntKind.i64.wrap ((q : Int) * 3) = ((q * 3 : Nat) : Int) := by rw [zh (by omega) (by omega)]; omega
  have w6 : IntKind.i64.wrap ((a : Int) + q) = i := by rw [zh (by omega) (by omega)]; omega
  have w7 : IntKind.i64.wrap ((a : Int) + ((q * 2 : Nat) : Int)) = j := by rw [zh (by omega) (by omega)]; omega
  have w8 : IntKind.i64.wrap ((a : Int) + ((q * 3 : Nat) : Int)) = k := by rw [zh (by omega) (by omega)]; omega
  generalize ((q * 2 : Nat) : Int) = q2 at *
  generalize ((q * 3 : Nat) : Int) = q3 at *
  have FF := fI @w1 (fI @w2 (fI @w3 (fI @w4 (fI @w5 (fI @w6 (fI @w7 @w8)))))); refine goM ?_; clear FF
  obtain ⟨pj, sw, hps⟩ : ∃ pj sw, (if l ≥ 8 then if l ≥ 50 then Sort.median (zq c) d (Sort.medianAdjacent (zq c) d i 0).1 (Sort.medianAdjacent (zq c) d j (Sort.medianAdjacent (zq c) d i 0).2).1 (Sort.medianAdjacent (zq c) d k (Sort.medianAdjacent (zq c) d j (Sort.medianAdjacent (zq c) d i 0).2).2).1 (Sort.medianAdjacent (zq c) d k (Sort.medianAdjacent (zq c) d j (Sort.medianAdjacent (zq c) d i 0).2).2).2 else Sort.median (zq c) d i j k 0 else (j, 0)) = (pj, sw) := ⟨_, _, rfl⟩
  have hch : Sort.choosePivot (zq c) d a b = (pj, if sw = 0 then .increasing else if sw = 12 then .decreasing else .unknown) := by
    simp only [Sort.choosePivot, hl, hq, hi, hjj, hk, hps]
  rw [hch]
  have how : (⟨11, σ.nx 11, 1⟩ : Id) ≠ o := fun e => by rw [← e, zb] at hj; cases hj
  have hold : ∀ s : Int, (σ.new 11 1 (.buf [.raw (.int .i64 s)])).m o = some (zK d) := fun s => zat _ _ hj
  refine zeU (fun A τ => A 13 = .raw (.int .i64 pj) ∧ A 11 = .rp ⟨11, σ.nx 11, 1⟩ 0 0 ∧ τ = σ.new 11 1 (.buf [.raw (.int .i64 sw)])) ?_ ?_
  · by_cases h8 : l ≥ 8
    · rw [if_pos h8] at hps
      have h8' : (8 : Int) ≤ l := by omega
      by_cases h50 : l ≥ 50
      · rw [if_pos h50] at hps
        have h50' : (50 : Int) ≤ l := by omega
        have c1 := zdD hcc hjs rfl how (a := i) (k := 0) (by omega) (by omega) (by omega) (by omega) (hold 0) (by simp)
        have l1 := zg3 (zq c) d (a := i - 1) (b := i) (m := i + 1) (k := 0) (n := d.size) (by omega) (by omega) (by omega)
        rw [show Sort.median (zq c) d (i - 1) i (i + 1) 0 = Sort.medianAdjacent (zq c) d i 0 from rfl] at l1
        obtain ⟨x1, s1, e1⟩ : ∃ x y, Sort.medianAdjacent (zq c) d i 0 = (x, y) := ⟨_, _, rfl⟩
        rw [e1] at c1 l1 hps
        simp only [zde] at c1 l1 hps
        have c2 := zdD hcc hjs rfl how (a := j) (k := s1) (by omega) (by omega) (by omega) (by omega) (hold s1) (by simp)
        have l2 := zg3 (zq c) d (a := j - 1) (b := j) (m := j + 1) (k := s1) (n := d.size) (by omega) (by omega) (by omega)
        rw [show Sort.median (zq c) d (j - 1) j (j + 1) s1 = Sort.medianAdjacent (zq c) d j s1 from rfl] at l2
        obtain ⟨x2, s2, e2⟩ : ∃ x y, Sort.medianAdjacent (zq c) d j s1 = (x, y) := ⟨_, _, rfl⟩
        rw [e2] at c2 l2 hps
        simp only [zde] at c2 l2 hps
        have c3 := zdD hcc hjs rfl how (a := k) (k := s2) (by omega) (by omega) (by omega) (by omega) (hold s2) (by simp)
        have l3 := zg3 (zq c) d (a := k - 1) (b := k) (m := k + 1) (k := s2) (n := d.size) (by omega) (by omega) (by omega)
        rw [show Sort.median (zq c) d (k - 1) k (k + 1) s2 = Sort.medianAdjacent (zq c) d k s2 from rfl] at l3
        obtain ⟨x3, s3, e3⟩ : ∃ x y, Sort.medianAdjacent (zq c) d k s2 = (x, y) := ⟨_, _, rfl⟩
        rw [e3] at c3 l3 hps
        simp only [zde] at c3 l3 hps
        have c4 := ze3 hcc hjs rfl how (a := x1) (b := x2) (m := x3) (k := s3) l1.1 l2.1 l3.1 (by omega) (by omega) (hold s3) (by simp)
        rw [hps] at c4
        simp only [zde] at c4
        have FF := fI @h8' @h50'; refine zx ?_; clear FF
        refine c1.mono ?_
        rintro _ τ ⟨rfl, rfl⟩
        have FF := fI @h8' @h50'; refine zx ?_; clear FF
        refine c2.mono ?_
        rintro _ τ ⟨rfl, rfl⟩
        have FF := fI @h8' @h50'; refine zx ?_; clear FF
        refine c3.mono ?_
        rintro _ τ ⟨rfl, rfl⟩
        have FF := fI @h8' @h50'; refine zx ?_; clear FF
        refine c4.mono ?_
        rintro _ τ ⟨rfl, rfl⟩
        have FF := fI @h8' @h50'; exact goA
      · rw [if_neg h50] at hps
        have h50' : ¬ (50 : Int) ≤ l := by omega
        have c4 := ze3 hcc hjs rfl how (a := i) (b := j) (m := k) (k := 0) (by omega) (by omega) (by omega) (by omega) (by omega) (hold 0) (by simp)
        rw [hps] at c4
        simp only [zde] at c4
        have FF := fI @h8' @h50'; refine zx ?_; clear FF
        refine c4.mono ?_
        rintro _ τ ⟨rfl, rfl⟩
        have FF := fI @h8' @h50'; exact goA
    · rw [if_neg h8] at hps
      have h8' : ¬ (8 : Int) ≤ l := by omega
      injection hps with q1 q2
      subst q1 q2
      have FF := @h8'; exact goA
  · rintro A τ ⟨a13, a11, rfl⟩
    by_cases h0 : sw = 0
    · subst h0
      have FF := fI @a13 @a11; refine zx ?_; clear FF
      exact zg4 (σ := σ) (x := .tup [.raw (.int .i64 pj), .raw (.int .i64 1)]) (.inr rfl) (by simp) (by simp) (Ext.new _ _ _ _) fun ρ h1 h2 => ⟨by simp [zc4], h1, h2⟩
    · have h0' : ¬ ((sw : Int) = 0) := by omega
      by_cases h12 : sw = 12
      · subst h12
        have FF := fI @a13 @a11; refine zx ?_; clear FF
        exact zg4 (σ := σ) (x := .tup [.raw (.int .i64 pj), .raw (.int .i64 2)]) (.inr rfl) (by simp) (by simp) (Ext.new _ _ _ _) fun ρ h1 h2 => ⟨by simp [zc4], h1, h2⟩
      · have h12' : ¬ ((sw : Int) = 12) := by omega
        have FF := fI @a13 (fI @a11 (fI @h0' (fI @h0 (fI @h12' @h12)))); refine zx ?_; clear FF
        exact zg4 (σ := σ) (x := .tup [.raw (.int .i64 pj), .raw (.int .i64 0)]) (.inr rfl) (by simp) (by simp) (Ext.new _ _ _ _) fun ρ h1 h2 => ⟨by simp [h0, h12, zc4], h1, h2⟩
end Go.Proofs.YtpboabpapgimoaaGreat.Av.Zn
namespace Go.Proofs.YtpboabpapgimoaaGreat.Av.Zn
open Go
set_option linter.unusedSimpArgs false
set_option linter.unusedVariables false
set_option maxRecDepth 100000
set_option maxHeartbeats 4000000
set_option pp.maxSteps 150
def zlR : ByteArray := ⟨#[0, 1, 2, 2, 3, 3, 3, 3, 4, 4, 4, 4, 4, 4, 4, 4, 5, 5, 5, 5, 5, 5, 5, 5, 5, 5, 5, 5, 5, 5, 5, 5, 6, 6, 6, 6, 6, 6, 6, 6, 6, 6, 6, 6, 6, 6, 6, 6, 6, 6, 6, 6, 6, 6, 6, 6, 6, 6, 6, 6, 6, 6, 6, 6, 7, 7, 7, 7, 7, 7, 7, 7, 7, 7, 7, 7, 7, 7, 7, 7, 7, 7, 7, 7, 7, 7, 7, 7, 7, 7, 7, 7, 7, 7, 7, 7, 7, 7, 7, 7, 7, 7, 7, 7, 7, 7, 7, 7, 7, 7, 7, 7, 7, 7, 7, 7, 7, 7, 7, 7, 7, 7, 7, 7, 7, 7, 7, 7, 8, 8, 8, 8, 8, 8, 8, 8, 8, 8, 8, 8, 8, 8, 8, 8, 8, 8, 8, 8, 8, 8, 8, 8, 8, 8, 8, 8, 8, 8, 8, 8, 8, 8, 8, 8, 8, 8, 8, 8, 8, 8, 8, 8, 8, 8, 8, 8, 8, 8, 8, 8, 8, 8, 8, 8, 8, 8, 8, 8, 8, 8, 8, 8, 8, 8, 8, 8, 8, 8, 8, 8, 8, 8, 8, 8, 8, 8, 8, 8, 8, 8, 8, 8, 8, 8, 8, 8, 8, 8, 8, 8, 8, 8, 8, 8, 8, 8, 8, 8, 8, 8, 8, 8, 8, 8, 8, 8, 8, 8, 8, 8, 8, 8, 8, 8, 8, 8, 8, 8, 8, 8, 8, 8, 8, 8, 8, 8]⟩
theorem znI : ∀ x, x < 256 → ∃ b : UInt8, zlR[x]? = some b ∧ b.toNat = Sort.bitsLen x := by
  have h : ∀ x, x < 256 → (zlR[x]?).map (·.toNat) = some (Sort.bitsLen x) := by decide +kernel
  intro x hx
  obtain ⟨b, h1, h2⟩ := Option.map_eq_some_iff.1 (h x hx)
  exact ⟨b, h1, h2⟩
theorem zmB (x k : Nat) (h : 2 ^ k ≤ x) : Sort.bitsLen x = k + Sort.bitsLen (x / 2 ^ k) := by
  have key : ∀ m, Sort.bitsLen x ≤ m ↔ k + Sort.bitsLen (x / 2 ^ k) ≤ m := fun m => by
    rw [Sort.bitsLen_le_iff]
    by_cases hm : k ≤ m
    · have e : 2 ^ m = 2 ^ (m - k) * 2 ^ k := by rw [← Nat.pow_add]; congr 1; omega
      have : k + Sort.bitsLen (x / 2 ^ k) ≤ m ↔ Sort.bitsLen (x / 2 ^ k) ≤ m - k := by omega
      rw [this, Sort.bitsLen_le_iff, Nat.div_lt_iff_lt_mul (Nat.pow_pos (by omega)), e]
    · have : 2 ^ m ≤ 2 ^ k := Nat.pow_le_pow_right (by omega) (by omega)
      constructor <;> intro h' <;> omega
  have h1 := (key _).1 (Nat.le_refl _)
  have h2 := (key _).2 (Nat.le_refl _)
  omega
theorem znJ (x b : Nat) : Int.fdiv (x : Int) (b : Int) = ((x / b : Nat) : Int) := by
  rw [Int.fdiv_eq_ediv_of_nonneg _ (by omega)]; exact (Int.natCast_ediv x b).symm
theorem znK (x b k : Nat) (hb : b = 2 ^ k) : ∃ y n : Nat, Sort.bitsLen x = n + Sort.bitsLen y ∧ ((b ≤ x ∧ y = x / b ∧ n = k) ∨ (x < b ∧ y = x ∧ n = 0)) := by
  subst hb
  rcases Nat.lt_or_ge x (2 ^ k) with h | h
  · exact ⟨x, 0, by omega, .inr ⟨h, rfl, rfl⟩⟩
  · exact ⟨x / 2 ^ k, k, zmB x k h, .inl ⟨h, rfl, rfl⟩⟩
theorem zmC (x : Nat) (hx : x < 18446744073709551616) : PCalls Tryz.prog 129 [.raw (.int .u64 x)] (.raw (.int .i64 (Sort.bitsLen x))) := by
  refine zE Tryz.func129 rfl (N := 25) rfl rfl (by simp) (by simp [noIds]) fun σ => ?_
  obtain ⟨y1, n1, e1, c1⟩ := znK x 4294967296 32 (by decide)
  obtain ⟨y2, n2, e2, c2⟩ := znK y1 65536 16 (by decide)
  obtain ⟨y3, n3, e3, c3⟩ := znK y2 256 8 (by decide)
  have hl : Sort.bitsLen x = n1 + n2 + n3 + Sort.bitsLen y3 := by omega
  have b1 : y1 < 4294967296 := by rcases c1 with ⟨_, h, _⟩ | ⟨_, h, _⟩ <;> omega
  have b2 : y2 < 65536 := by rcases c2 with ⟨_, h, _⟩ | ⟨_, h, _⟩ <;> omega
  have b3 : y3 < 256 := by rcases c3 with ⟨_, h, _⟩ | ⟨_, h, _⟩ <;> omega
  have p1 : (2 : Int) ^ min 32 IntKind.u64.bits = (4294967296 : Nat) := by decide
  have p2 : (2 : Int) ^ min 16 IntKind.u64.bits = (65536 : Nat) := by decide
  have p3 : (2 : Int) ^ min 8 IntKind.u64.bits = (256 : Nat) := by decide
  have f1 : Int.fdiv x (2 ^ min 32 IntKind.u64.bits) = ((x / 4294967296 : Nat) : Int) := by rw [p1]; exact znJ x 4294967296
  have f2 : Int.fdiv y1 (2 ^ min 16 IntKind.u64.bits) = ((y1 / 65536 : Nat) : Int) := by rw [p2]; exact znJ y1 65536
  have f3 : Int.fdiv y2 (2 ^ min 8 IntKind.u64.bits) = ((y2 / 256 : Nat) : Int) := by rw [p3]; exact znJ y2 256
  clear p1 p2 p3
  have w1 : IntKind.u8.wrap (y3 : Int) = y3 := zqQ (by omega) (by omega)
  obtain ⟨b, hb, hb2⟩ := znI y3 b3
  unfold zlR at hb
  have hb3 : Sort.bitsLen y3 < 256 := by rw [← hb2]; exact UInt8.toNat_lt b
  have w2 : IntKind.i64.wrap ((b.toNat : Nat) : Int) = Sort.bitsLen y3 := by rw [hb2]; exact zh (by omega) (by omega)
  rw [hl]
  clear e1 e2 e3 hl
  generalize Sort.bitsLen y3 = L at *
  have v : ∀ n : Int, 0 ≤ n → n < 1000 → IntKind.i64.wrap n = n := fun n h1 h2 => zh (by omega) (by omega)
  have v0 := v L (by omega) (by omega)
  have v1 := v (32 + L) (by omega) (by omega)
  have v2 := v (16 + L) (by omega) (by omega)
  have v3 := v (8 + L) (by omega) (by omega)
  have v4 := v (48 + L) (by omega) (by omega)
  have v5 := v (40 + L) (by omega) (by omega)
  have v6 := v (24 + L) (by omega) (by omega)
  have v7 := v (56 + L) (by omega) (by omega)
  have u1 : IntKind.i64.wrap 48 = 48 := by decide
  have u2 : IntKind.i64.wrap 40 = 40 := by decide
  have u3 : IntKind.i64.wrap 24 = 24 := by decide
  have u4 : IntKind.i64.wrap 56 = 56 := by decide
  have u5 : IntKind.i64.wrap 16 = 16 := by decide
  have u6 : IntKind.i64.wrap 8 = 8 := by decide
  have C1 : (((4294967296 : Int) ≤ x) = True ∧ y1 = x / 4294967296 ∧ n1 = 32) ∨ (((4294967296 : Int) ≤ x) = False ∧ y1 = x ∧ n1 = 0) := by
    rcases c1 with ⟨h, r, q⟩ | ⟨h, r, q⟩
    · exact .inl ⟨eq_true (by omega), r, q⟩
    · exact .inr ⟨eq_false (by omega), r, q⟩
  have C2 : (((65536 : Int) ≤ y1) = True ∧ y2 = y1 / 65536 ∧ n2 = 16) ∨ (((65536 : Int) ≤ y1) = False ∧ y2 = y1 ∧ n2 = 0) := by
    rcases c2 with ⟨h, r, q⟩ | ⟨h, r, q⟩
    · exact .inl ⟨eq_true (by omega), r, q⟩
    · exact .inr ⟨eq_false (by omega), r, q⟩
  have C3 : (((256 : Int) ≤ y2) = True ∧ y3 = y2 / 256 ∧ n3 = 8) ∨ (((256 : Int) ≤ y2) = False ∧ y3 = y2 ∧ n3 = 0) := by
    rcases c3 with ⟨h, r, q⟩ | ⟨h, r, q⟩
    · exact .inl ⟨eq_true (by omega), r, q⟩
    · exact .inr ⟨eq_false (by omega), r, q⟩
  clear c1 c2 c3
  rcases C1 with ⟨h1, r1, rfl⟩ | ⟨h1, rfl, rfl⟩ <;> rcases C2 with ⟨h2, r2, rfl⟩ | ⟨h2, rfl, rfl⟩ <;> rcases C3 with ⟨h3, r3, rfl⟩ | ⟨h3, rfl, rfl⟩
  all_goals
    try rw [← r1] at f1
    try rw [← r2] at f2
    try rw [← r3] at f3
    have FF := fI @f1 (fI @f2 (fI @f3 (fI @h1 (fI @h2 (fI @h3 (fI @w1 (fI @hb (fI @w2 (fI @v0 (fI @v1 (fI @v2 (fI @v3 (fI @v4 (fI @v5 (fI @v6 (fI @v7 (fI @u1 (fI @u2 (fI @u3 (fI @u4 (fI @u5 @u6))))))))))))))))))))); exact gxA
theorem zg5 (x : Nat) (hx : x < 18446744073709551616) : PCalls Tryz.prog 110 [.raw (.int .u64 x)] (.raw (.int .i64 (Sort.bitsLen x))) := by
  have h := zmC x hx
  refine zE Tryz.func110 rfl (N := 8) rfl rfl (by simp) (by simp [noIds]) fun σ => ?_
  exact zlu
theorem zkJ (x : Nat) (hx : x < 4611686018427387904) : PCalls Tryz.prog 139 [.raw (.int .i64 x)] (.raw (.int .u64 ((1 <<< Sort.bitsLen x : Nat) : Int))) := by
  have h := zg5 x (by omega)
  refine zE Tryz.func139 rfl (N := 7) rfl rfl (by simp) (by simp [noIds]) fun σ => ?_
  have hL : Sort.bitsLen x ≤ 62 := (Sort.bitsLen_le_iff x 62).2 hx
  have w1 : IntKind.u64.wrap (x : Int) = x := zas (by omega) (by omega)
  have hv : IntKind.u64.wrap (1 * 2 ^ (min (Sort.bitsLen x) IntKind.u64.bits)) = ((1 <<< Sort.bitsLen x : Nat) : Int) := by
    generalize Sort.bitsLen x = L at *
    have : ∀ L, L ≤ 62 → IntKind.u64.wrap (1 * 2 ^ (min L IntKind.u64.bits)) = ((1 <<< L : Nat) : Int) := by decide +kernel
    exact this L hL
  simp only [Int.one_mul] at hv
  have FF := fI @w1 @hv; exact gxA
end Go.Proofs.YtpboabpapgimoaaGreat.Av.Zn
namespace Go.Proofs.YtpboabpapgimoaaGreat.Av.Zn
open Go
set_option linter.unusedSimpArgs false
set_option linter.unusedVariables false
set_option maxRecDepth 100000
set_option maxHeartbeats 4000000
set_option pp.maxSteps 1500
theorem zjL (a b : UInt64) : IntKind.u64.wrap (((((a.toNat : Int) % 2 ^ IntKind.u64.bits).toNat ^^^ (((b.toNat : Int)) % 2 ^ IntKind.u64.bits).toNat : Nat)) : Int) = ((a ^^^ b).toNat : Int) := by
  have h1 : (((a.toNat : Int) % 2 ^ IntKind.u64.bits).toNat) = a.toNat := by
    have := a.toNat_lt; simp only [IntKind.bits]; omega
  have h2 : (((b.toNat : Int) % 2 ^ IntKind.u64.bits).toNat) = b.toNat := by
    have := b.toNat_lt; simp only [IntKind.bits]; omega
  rw [h1, h2, ← UInt64.toNat_xor]
  have := (a ^^^ b).toNat_lt
  exact zas (by omega) (by omega)
theorem zoJ (r : UInt64) : IntKind.u64.wrap ((r.toNat : Int) * 2 ^ min 13 IntKind.u64.bits) = ((r <<< 13).toNat : Int) := by
  rw [UInt64.toNat_shiftLeft]
  simp only [IntKind.wrap, IntKind.bits, IntKind.signed, Bool.false_and, Bool.false_eq_true, if_false, Nat.shiftLeft_eq]
  have := r.toNat_lt
  show (r.toNat : Int) * 2 ^ 13 % 2 ^ 64 = ((r.toNat * 2 ^ 13 % 2 ^ 64 : Nat) : Int)
  omega
theorem zoK (r : UInt64) : IntKind.u64.wrap ((r.toNat : Int) * 2 ^ min 17 IntKind.u64.bits) = ((r <<< 17).toNat : Int) := by
  rw [UInt64.toNat_shiftLeft]
  simp only [IntKind.wrap, IntKind.bits, IntKind.signed, Bool.false_and, Bool.false_eq_true, if_false, Nat.shiftLeft_eq]
  have := r.toNat_lt
  show (r.toNat : Int) * 2 ^ 17 % 2 ^ 64 = ((r.toNat * 2 ^ 17 % 2 ^ 64 : Nat) : Int)
  omega
theorem zpz (r : UInt64) : ((r.toNat : Int)).fdiv (2 ^ min 7 IntKind.u64.bits) = ((r >>> 7).toNat : Int) := by
  rw [UInt64.toNat_shiftRight]
  show ((r.toNat : Int)).fdiv (2 ^ 7) = ((r.toNat >>> 7 : Nat) : Int)
  rw [Nat.shiftRight_eq_div_pow, Int.fdiv_eq_ediv_of_nonneg _ (by omega)]
  omega
theorem zoL {w : Id} (hws : w.sz = 1) (r : UInt64) {σ : St} (hw : σ.m w = some (.buf [.raw (.int .u64 r.toNat)])) :
    ACalls Tryz.prog 140 [.rp w 0 0] σ fun v τ => v = .raw (.int .u64 (Sort.xorNext r).toNat) ∧ τ = σ.set w (.buf [.raw (.int .u64 (Sort.xorNext r).toNat)]) := by
  refine zaL Tryz.func140 rfl (N := 33) rfl rfl (by simp) ?_
  obtain ⟨r1, h1⟩ : ∃ r1, r ^^^ (r <<< 13) = r1 := ⟨_, rfl⟩
  obtain ⟨r2, h2⟩ : ∃ r2, r1 ^^^ (r1 >>> 7) = r2 := ⟨_, rfl⟩
  obtain ⟨r3, h3⟩ : ∃ r3, r2 ^^^ (r2 <<< 17) = r3 := ⟨_, rfl⟩
  have hx : Sort.xorNext r = r3 := by simp only [Sort.xorNext, h1, h2, h3]
  rw [hx]
  have x1 := zjL r (r <<< 13)
  have x2 := zjL r1 (r1 >>> 7)
  have x3 := zjL r2 (r2 <<< 17)
  rw [h1] at x1
  rw [h2] at x2
  rw [h3] at x3
  have y1 := zoJ r
  have y2 := zpz r1
  have y3 := zoK r2
  generalize r <<< 13 = s1 at *
  generalize r1 >>> 7 = s2 at *
  generalize r2 <<< 17 = s3 at *
  have FF := fI @hw (fI @hws (fI @x1 (fI @x2 (fI @x3 (fI @y1 (fI @y2 @y3)))))); refine zx ?_; clear FF
  exact zT (x := .raw (.int .u64 r3.toNat)) (.inr rfl) (by simp) ⟨rfl, by simp⟩
end Go.Proofs.YtpboabpapgimoaaGreat.Av.Zn
namespace Go.Proofs.YtpboabpapgimoaaGreat.Av.Zn
open Go
set_option linter.unusedSimpArgs false
set_option linter.unusedVariables false
set_option maxRecDepth 100000
set_option maxHeartbeats 4000000
set_option pp.maxSteps 1500
theorem zqd (a b : UInt64) : IntKind.u64.wrap (((a.toNat % 2 ^ IntKind.u64.bits &&& (((b.toNat : Int)) % 2 ^ IntKind.u64.bits).toNat : Nat)) : Int) = ((a.toNat &&& b.toNat : Nat) : Int) := by
  have h1 : a.toNat % 2 ^ IntKind.u64.bits = a.toNat := by
    have := a.toNat_lt; simp only [IntKind.bits]; omega
  have h2 : (((b.toNat : Int) % 2 ^ IntKind.u64.bits).toNat) = b.toNat := by
    have := b.toNat_lt; simp only [IntKind.bits]; omega
  rw [h1, h2]
  have := a.toNat_lt
  have h3 : a.toNat &&& b.toNat ≤ a.toNat := Nat.and_le_left
  exact zas (by omega) (by omega)
theorem znL {P : Program} {A : zD} {ρ τ : St} {fn : Func} {K : AV → St → Prop} {e : Exit} (he : e = .normal ∨ e = .ret) {x : AV} (h : zaH P τ.m A fn.results = some x) (hx : x.flat = true) (hE : ∀ i o, ρ.m i = some o → τ.m i = some o) (hn : ∀ s, ρ.nx s ≤ τ.nx s)
    (hK : ∀ π : St, π.m = ρ.m → (∀ s, ρ.nx s ≤ π.nx s) → K x π) : zgN P fn K e A τ :=
  ⟨he, x, h, ⟨ρ.m, τ.nx, fun i hi => Nat.lt_of_lt_of_le (ρ.wf i hi) (hn _)⟩, hE, fun _ => Nat.le_refl _, x, by rw [zeT hx]; exact Weaker.refl _, hK _ rfl hn⟩
def brk (a l m i : Nat) (st : UInt64 × Array Rg) : Nat → UInt64 × Array Rg
  | 0 => st
  | k + 1 => Sort.breakStep a l m (brk a l m i st k) (i + k)
theorem zlS (a l m i : Nat) (st : UInt64 × Array Rg) : ∀ k, (brk a l m i st k).2.size = st.2.size
  | 0 => rfl
  | k + 1 => by
    simp only [brk, Sort.breakStep, zaD, zlS a l m i st k]
theorem zmD {g : FuncId} {o : Id} (hjs : o.sz = 2) {d : Array Rg} {a b : Nat} (hab : a < b) (hb : b ≤ d.size) (hsz : d.size < 2 ^ 43) {σ : St} (hj : σ.m o = some (zK d)) :
    ACalls Tryz.prog 122 [.rs o 0 d.size, .raw (.int .i64 a), .raw (.int .i64 b), .fn (.func g) [] []] σ fun r τ =>
      r = .tup [] ∧ τ.m = (σ.set o (zK (Sort.breakPatterns d a b))).m ∧ ∀ s, σ.nx s ≤ τ.nx s := by
  refine zaL Tryz.func122 rfl (N := 67) rfl rfl (by simp) ?_
  obtain ⟨l, hl⟩ : ∃ l, b - a = l := ⟨_, rfl⟩
  have w1 : IntKind.i64.wrap ((b : Int) - a) = l := by rw [zh (by omega) (by omega)]; omega
  by_cases h8 : l ≥ 8
  · have h8' : (8 : Int) ≤ l := by omega
    have w2 : IntKind.u64.wrap (l : Int) = l := zas (by omega) (by omega)
    obtain ⟨q, hq⟩ : ∃ q, l / 4 * 2 = q := ⟨_, rfl⟩
    obtain ⟨i0, hi0⟩ : ∃ i0, a + q - 1 = i0 := ⟨_, rfl⟩
    have w3 : (l : Int).tdiv 4 = ((l / 4 : Nat) : Int) := by rw [Int.tdiv_eq_ediv_of_nonneg (by omega)]; omega
    have w4 : IntKind.i64.wrap ((l / 4 : Nat) : Int) = ((l / 4 : Nat) : Int) := zh (by omega) (by omega)
    have w5 : IntKind.i64.wrap (((l / 4 : Nat) : Int) * 2) = q := by rw [zh (by omega) (by omega)]; omega
    have w6 : IntKind.i64.wrap ((a : Int) + q) = ((a + q : Nat) : Int) := by rw [zh (by omega) (by omega)]; omega
    have w7 : IntKind.i64.wrap (((a + q : Nat) : Int) - 1) = i0 := by rw [zh (by omega) (by omega)]; omega
    have w8 : IntKind.i64.wrap (((a + q : Nat) : Int) + 1) = ((i0 + 2 : Nat) : Int) := by rw [zh (by omega) (by omega)]; omega
    obtain ⟨M, hM⟩ : ∃ M, 1 <<< Sort.bitsLen l = M := ⟨_, rfl⟩
    have hM2 : 1 ≤ M ∧ M ≤ 2 * l := by
      rw [← hM, Nat.one_shiftLeft]; exact ⟨Nat.pow_pos (by omega), Sort.two_pow_bitsLen_le (by omega)⟩
    have hnp := zkJ l (by omega)
    rw [hM] at hnp
    have hbrk : Sort.breakPatterns d a b = (brk a l M i0 (UInt64.ofNat l, d) 3).2 := by
      simp only [Sort.breakPatterns, hl, hq, hi0, hM, brk]
      rw [if_pos h8]; rfl
    rw [hbrk]
    have hr0 : (UInt64.ofNat l).toNat = l := by rw [UInt64.toNat_ofNat']; omega
    have hd0 : (brk a l M i0 (UInt64.ofNat l, d) 0) = (UInt64.ofNat l, d) := rfl
    have hds := zlS a l M i0 (UInt64.ofNat l, d)
    have hB : ∀ k, brk a l M i0 (UInt64.ofNat l, d) (k + 1) = Sort.breakStep a l M (brk a l M i0 (UInt64.ofNat l, d) k) (i0 + k) := fun k => rfl
    generalize brk a l M i0 (UInt64.ofNat l, d) = B at *
    generalize hl4 : ((l / 4 : Nat) : Int) = l4 at *
    generalize haq : ((a + q : Nat) : Int) = aq at *
    generalize hi2 : ((i0 + 2 : Nat) : Int) = i2 at *
    have FF := fI @w1 (fI @h8' @w2); refine zx ?_; clear FF
    refine PCalls.use hnp ?_
    have FF := fI @w1 (fI @h8' (fI @w3 (fI @w4 (fI @w5 (fI @w6 @w7))))); refine zx ?_; clear FF
    have how : (⟨9, σ.nx 9, 1⟩ : Id) ≠ o := fun e => by rw [← e, zb] at hj; cases hj
    generalize hw : (⟨9, σ.nx 9, 1⟩ : Id) = w at *
    have hwm : ∀ x, (σ.new 9 1 x).m w = some x := fun x => by rw [← hw]; simp
    have hwn : σ.m w = none := by rw [← hw]; exact zb _ _ _
    have hold : ∀ x i, i ≠ w → (σ.new 9 1 x).m i = σ.m i := fun x i hi => by rw [← hw] at hi; exact zbM hi
    have hnx : ∀ x s, σ.nx s ≤ (σ.new 9 1 x).nx s := fun x s => St.new_le _ _ _ _ _
    have hws : w.sz = 1 := by rw [← hw]
    have hns : ∀ x y, (σ.new 9 1 x).set w y = σ.new 9 1 y := fun x y => by rw [← hw]; simp
    refine zav (fun n A τ => ∃ k, n = 3 - k ∧ k ≤ 3 ∧ A 0 = .rs o 0 d.size ∧ A 1 = .raw (.int .i64 a) ∧ A 8 = .raw (.int .i64 l) ∧ A 9 = .rp w 0 0 ∧ A 10 = .raw (.int .u64 M) ∧ A 11 = .raw (.int .i64 ((i0 + k : Nat) : Int)) ∧
      τ.m o = some (zK (B k).2) ∧ τ.m w = some (.buf [.raw (.int .u64 (B k).1.toNat)]) ∧ (∀ i, i ≠ o → i ≠ w → τ.m i = σ.m i) ∧ ∀ s, σ.nx s ≤ τ.nx s) 3 ?_ ?_
    · refine ⟨0, rfl, by omega, by simp, by simp, by simp, by simp, by simp, by simp, ?_, ?_, ?_, ?_⟩
      · rw [hns, hold _ _ (Ne.symm how), hd0]; exact hj
      · rw [hns, hwm, hd0, hr0]
      · intro i h1 h2; rw [hns]; exact hold _ _ h2
      · exact hnx (.buf [])
    rintro n A τ ⟨k, rfl, hk, a0, a1, a8, a9, a10, a11, ht, htw, hot, hnx'⟩
    by_cases hk3 : k < 3
    · have hle : ((i0 + k : Nat) : Int) ≤ i2 := by omega
      obtain ⟨ix, hix⟩ : ∃ ix, i0 + k = ix := ⟨_, rfl⟩
      rw [hix] at a11 hle
      have hx := zoL hws _ htw
      have hstep : B (k + 1) = Sort.breakStep a l M (B k) ix := by rw [hB, hix]
      have hsz' := hds k
      obtain ⟨r, hr⟩ : ∃ r, Sort.xorNext (B k).1 = r := ⟨_, rfl⟩
      rw [hr] at hx
      simp only [Sort.breakStep, hr] at hstep
      obtain ⟨e, he⟩ : ∃ e, (B k).2 = e := ⟨_, rfl⟩
      rw [he] at ht hsz' hstep
      simp only [] at hsz'
      obtain ⟨m1, hm1⟩ : ∃ m1 : UInt64, m1.toNat = M - 1 := ⟨UInt64.ofNat (M - 1), by rw [UInt64.toNat_ofNat']; omega⟩
      have v1 : IntKind.u64.wrap ((M : Int) - 1) = (m1.toNat : Int) := by rw [zas (by omega) (by omega)]; omega
      have v2 := zqd r m1
      rw [hm1] at v1 v2
      have hle2 : r.toNat &&& (M - 1) ≤ M - 1 := Nat.and_le_right
      obtain ⟨x, hx'⟩ : ∃ x, r.toNat &&& (M - 1) = x := ⟨_, rfl⟩
      rw [hx'] at v2 hle2 hstep
      have v3 : IntKind.i64.wrap (x : Int) = x := zh (by omega) (by omega)
      generalize ((M - 1 : Nat) : Int) = M1 at *
      obtain ⟨y, hy⟩ : ∃ y, (if x ≥ l then x - l else x) = y := ⟨_, rfl⟩
      rw [hy] at hstep
      have hyl : y < l := by rw [← hy]; split <;> omega
      have v4 : IntKind.i64.wrap ((x : Int) - l) = ((x - l : Nat) : Int) ∨ x < l := by
        by_cases h : x < l
        · exact .inr h
        · exact .inl (by rw [zh (by omega) (by omega)]; omega)
      obtain ⟨z, hz⟩ : ∃ z, a + y = z := ⟨_, rfl⟩
      have v5 : IntKind.i64.wrap ((a : Int) + y) = z := by rw [zh (by omega) (by omega)]; omega
      have v6 : IntKind.i64.wrap ((ix : Int) + 1) = ((i0 + (k + 1) : Nat) : Int) := by rw [zh (by omega) (by omega)]; omega
      rw [hz] at hstep
      have FF := fI @a0 (fI @a1 (fI @a8 (fI @a9 (fI @a10 (fI @a11 (fI @w3 (fI @w4 (fI @w5 (fI @w6 (fI @w8 @hle)))))))))); refine goM ?_; clear FF
      refine hx.mono ?_
      rintro _ τ1 ⟨rfl, rfl⟩
      have ht1 : (τ.set w (.buf [.raw (.int .u64 r.toNat)])).m o = some (.buf (e.toList.map zl)) := by rw [zy (Ne.symm how)]; exact ht
      have htw1 : (τ.set w (.buf [.raw (.int .u64 r.toNat)])).m w = some (.buf [.raw (.int .u64 r.toNat)]) := by simp [htw]
      have hot1 : ∀ i, i ≠ o → i ≠ w → (τ.set w (.buf [.raw (.int .u64 r.toNat)])).m i = σ.m i := fun i h1 h2 => by rw [zy h2]; exact hot i h1 h2
      have hnx1 : ∀ s, σ.nx s ≤ (τ.set w (.buf [.raw (.int .u64 r.toNat)])).nx s := hnx'
      generalize τ.set w (.buf [.raw (.int .u64 r.toNat)]) = τ1 at *
      have gx : e[z]? = some e[z]! := zM (by omega)
      have gy : e[ix]? = some e[ix]! := zM (by omega)
      have g1 : (z : Int) < d.size := by omega
      have g3 : (ix : Int) < d.size := by omega
      have hsw := zcn e (i := ix) (k := z) (by omega) (by omega)
      have f1 : Ob.buf ((Sort.swp e ix z).toList.map zl) = zK (B (k + 1)).2 := by simp [hstep, zK]
      have f2 : (τ1.set o (.buf ((Sort.swp e ix z).toList.map zl))).m w = some (.buf [.raw (.int .u64 (B (k + 1)).1.toNat)]) := by rw [zy how, htw1, hstep]
      have f3 : ∀ i, ¬ i = o → ¬ i = w → (τ1.set o (.buf ((Sort.swp e ix z).toList.map zl))).m i = σ.m i := by
        intro i h1 h2; rw [zy h1]; exact hot1 i h1 h2
      by_cases hxl : x < l
      · have hxl' : ¬ (l : Int) ≤ x := by omega
        rw [if_neg (by omega)] at hy
        subst hy
        have FF := fI @a0 (fI @a1 (fI @a8 (fI @a9 (fI @a10 (fI @a11 (fI @v1 (fI @v2 (fI @v3 (fI @v5 (fI @v6 (fI @hxl' (fI @ht1 (fI @gx (fI @gy (fI @g1 (fI @g3 (fI @hsw (fI @hjs (fI @rg_cells (fI @rg_fold (fI @zW (fI @zaq @hsz')))))))))))))))))))))); refine zx ?_; clear FF
        exact ⟨3 - (k + 1), by omega, k + 1, rfl, by omega, by simp, f1, f2, f3, hnx1⟩
      · have hxl' : (l : Int) ≤ x := by omega
        have v4 := v4.resolve_right hxl
        rw [if_pos (by omega)] at hy
        rw [hy] at v4
        have FF := fI @a0 (fI @a1 (fI @a8 (fI @a9 (fI @a10 (fI @a11 (fI @v1 (fI @v2 (fI @v3 (fI @v4 (fI @v5 (fI @v6 (fI @hxl' (fI @ht1 (fI @gx (fI @gy (fI @g1 (fI @g3 (fI @hsw (fI @hjs (fI @rg_cells (fI @rg_fold (fI @zW (fI @zaq @hsz'))))))))))))))))))))))); refine zx ?_; clear FF
        exact ⟨3 - (k + 1), by omega, k + 1, rfl, by omega, by simp, f1, f2, f3, hnx1⟩
    · have hk3' : k = 3 := by omega
      subst hk3'
      have hle : ¬ ((i0 + 3 : Nat) : Int) ≤ i2 := by omega
      obtain ⟨ix, hix⟩ : ∃ ix, i0 + 3 = ix := ⟨_, rfl⟩
      rw [hix] at a11 hle
      have FF := fI @a0 (fI @a1 (fI @a8 (fI @a9 (fI @a10 (fI @a11 (fI @w3 (fI @w4 (fI @w5 (fI @w6 (fI @w8 @hle)))))))))); refine zx ?_; clear FF
      refine znL (x := .tup []) (.inl rfl) (by simp) (by simp) (ρ := (σ.set o (zK (B 3).2))) ?_ hnx' ?_
      · intro i x hx
        by_cases hio : i = o
        · subst hio; rw [zcK, hj] at hx; rw [ht]; exact hx
        · rw [zy hio] at hx
          rw [hot i hio (fun e => by rw [e, hwn] at hx; cases hx)]; exact hx
      · exact fun ρ h1 h2 => ⟨rfl, h1, h2⟩
  · have h8' : ¬ (8 : Int) ≤ l := by omega
    have FF := fI @w1 @h8'; refine zx ?_; clear FF
    have : Sort.breakPatterns d a b = d := by simp only [Sort.breakPatterns, hl]; rw [if_neg h8]
    refine zT (x := .tup []) (.inl rfl) (by simp) ⟨rfl, by rw [this, zaS hj], fun _ => Nat.le_refl _⟩
end Go.Proofs.YtpboabpapgimoaaGreat.Av.Zn
namespace Go.Proofs.YtpboabpapgimoaaGreat.Av.Zn
open Go
set_option linter.unusedSimpArgs false
set_option linter.unusedVariables false
set_option maxRecDepth 100000
set_option maxHeartbeats 8000000
set_option pp.maxSteps 600
structure Fr (o : Id) (x : Ob) (σ τ : St) : Prop where
  m : τ.m = (σ.set o x).m
  nx : ∀ s, σ.nx s ≤ τ.nx s
theorem Fr.set (o : Id) (x : Ob) (σ : St) : Fr o x σ (σ.set o x) := ⟨rfl, fun _ => Nat.le_refl _⟩
theorem Fr.refl {o : Id} {x : Ob} {σ : St} (h : σ.m o = some x) : Fr o x σ σ := ⟨by rw [zaS h], fun _ => Nat.le_refl _⟩
theorem Fr.buf {o : Id} {x y : Ob} {σ τ : St} (h : Fr o x σ τ) (hy : σ.m o = some y) : τ.m o = some x := by rw [h.m, zcK, hy]; rfl
theorem Fr.trans {o : Id} {x y : Ob} {σ τ ρ : St} (h : Fr o x σ τ) (k : Fr o y τ ρ) : Fr o y σ ρ := by
  refine ⟨?_, fun s => Nat.le_trans (h.nx s) (k.nx s)⟩
  rw [k.m]
  funext i
  by_cases e : i = o
  · subst e
    rw [zcK, zcK, h.m, zcK]
    cases σ.m i <;> rfl
  · rw [zy e, h.m, zy e, zy e]
theorem Fr.andSet {o : Id} {x y : Ob} {σ τ : St} (h : Fr o x σ τ) : Fr o y σ (τ.set o y) := h.trans (Fr.set o y τ)
def zmY (lt : Rg → Rg → Bool) (o : Id) (d : Array Rg) (a b : Nat) (σ : St) (r : AV) (τ : St) : Prop :=
  r = .tup [] ∧ ∃ d', Sort.PermIn a b d d' ∧ Sort.SortedIn lt a b d' ∧ Fr o (zK d') σ τ
def PdI (o : Id) (n a b lim : Nat) (g : FuncId) (wb wp : Bool) (A : zD) : Prop :=
  A 0 = .rs o 0 n ∧ A 1 = .raw (.int .i64 a) ∧ A 2 = .raw (.int .i64 b) ∧ A 3 = .raw (.int .i64 lim) ∧ A 4 = .fn (.func g) [] [] ∧ A 10 = .raw (.bool wb) ∧ A 11 = .raw (.bool wp)
structure Rd (lt : Rg → Rg → Bool) (o : Id) (d : Array Rg) (a b : Nat) (σ : St) (a' b' : Nat) (e : Array Rg) (τ : St) : Prop where
  fr : Fr o (zK e) σ τ
  size : e.size = d.size
  below : Sort.Below lt a' b' e
  glue : ∀ R, Sort.PermIn a' b' e R → Sort.SortedIn lt a' b' R → Sort.PermIn a b d R ∧ Sort.SortedIn lt a b R
theorem Rd.perm {lt : Rg → Rg → Bool} {o : Id} {d : Array Rg} {a b : Nat} {σ : St} {a' b' : Nat} {e e1 : Array Rg} {τ τ1 : St} (h : Rd lt o d a b σ a' b' e τ) (hb : b' ≤ d.size) (hp : Sort.PermIn a' b' e e1) (hf : Fr o (zK e1) τ τ1) : Rd lt o d a b σ a' b' e1 τ1 :=
  ⟨h.fr.trans hf, by rw [hp.1, h.size], h.below.perm (by rw [h.size]; exact hb) hp, fun R h1 h2 => h.glue R (Sort.permIn_trans _ _ _ _ _ hp h1) h2⟩
theorem zoN {g : FuncId} {c : Rg → Rg → Int} (hcc : Cmp g c) (hS : Sort.SWO (zq c)) {o : Id} (hjs : o.sz = 2) : ∀ (n : Nat) (d : Array Rg) (a b limit : Nat) (σ : St), b - a ≤ n → a ≤ b → b ≤ d.size → d.size < 2 ^ 43 → limit < 2 ^ 40 →
    Sort.Below (zq c) a b d → σ.m o = some (zK d) → ACalls Tryz.prog 109 [.rs o 0 d.size, .raw (.int .i64 a), .raw (.int .i64 b), .raw (.int .i64 limit), .fn (.func g) [] []] σ (zmY (zq c) o d a b σ) := by
  intro n
  induction n using Nat.strongRecOn with
  | _ n ih =>
  intro d a b limit σ hn hab hb hsz hlim hB hj
  refine zaL Tryz.func109 rfl (N := 148) rfl rfl (by simp) ?_
  refine zaR ?_
  refine zU (fun m A τ => ∃ a' b' lim wb wp e, PdI o d.size a' b' lim g wb wp A ∧ m = b' - a' ∧ a ≤ a' ∧ a' ≤ b' ∧ b' ≤ b ∧ lim < 2 ^ 40 ∧ Rd (zq c) o d a b σ a' b' e τ) (b - a) ?_ ?_
  · exact ⟨a, b, limit, true, true, d, ⟨by simp, by simp, by simp, by simp, by simp, by simp, by simp⟩, rfl, Nat.le_refl _, hab, Nat.le_refl _, hlim, Fr.refl hj, rfl, hB, fun R h1 h2 => ⟨h1, h2⟩⟩
  rintro m A τ ⟨a', b', lim, wb, wp, e, ⟨a0, a1, a2, a3, a4, a10, a11⟩, rfl, haa, hab', hbb, hlim', hR⟩ I1 hI1
  obtain ⟨hF, hes, hB', hglue⟩ := id hR
  have hte := hF.buf hj
  obtain ⟨l, hl⟩ : ∃ l, b' - a' = l := ⟨_, rfl⟩
  have w1 : IntKind.i64.wrap ((b' : Int) - a') = l := by rw [zh (by omega) (by omega)]; omega
  by_cases h12 : l ≤ 12
  · have h12' : (l : Int) ≤ 12 := by omega
    have ci := zjb hcc hjs (d := e) (a := a') (b := b') hab' (by omega) (by omega) hte
    rw [hes] at ci
    have FF := fI @a0 (fI @a1 (fI @a2 (fI @a3 (fI @a4 (fI @a10 (fI @a11 (fI @w1 @h12'))))))); refine zx ?_; clear FF
    refine ci.mono ?_
    rintro _ τ2 ⟨rfl, rfl⟩
    refine zaR ?_
    obtain ⟨p1, p2⟩ := Sort.insertionSort_holds hS e a' b' hab' (by omega)
    obtain ⟨q1, q2⟩ := hglue _ p1 p2
    refine zT (x := .tup []) (.inr rfl) (by simp) ⟨rfl, _, q1, q2, hF.andSet⟩
  have h12' : ¬ (l : Int) ≤ 12 := by omega
  by_cases hl0 : lim = 0
  · subst hl0
    have ci := zjJ hcc hjs (d := e) (a := a') (b := b') hab' (by omega) (by omega) hte
    rw [hes] at ci
    have FF := fI @a0 (fI @a1 (fI @a2 (fI @a3 (fI @a4 (fI @a10 (fI @a11 (fI @w1 @h12'))))))); refine zx ?_; clear FF
    refine ci.mono ?_
    rintro _ τ2 ⟨rfl, rfl⟩
    refine zaR ?_
    obtain ⟨p1, p2⟩ := Sort.heapSort_holds hS e a' b' hab' (by omega)
    obtain ⟨q1, q2⟩ := hglue _ p1 p2
    refine zT (x := .tup []) (.inr rfl) (by simp) ⟨rfl, _, q1, q2, hF.andSet⟩
  have hl0' : ¬ (lim : Int) = 0 := by omega
  have FF := fI @a0 (fI @a1 (fI @a2 (fI @a3 (fI @a4 (fI @a10 (fI @a11 (fI @w1 (fI @h12' (fI @hl0' @hl0))))))))); refine goM ?_; clear FF
  refine zc3 (fun A τ => ∃ lim e, lim < 2 ^ 40 ∧ PdI o d.size a' b' lim g wb wp A ∧ A 12 = .raw (.int .i64 l) ∧ Rd (zq c) o d a b σ a' b' e τ) ?_ ?_
  · intro R1 hR1
    cases wb with
    | true =>
      have FF := fI @a0 (fI @a1 (fI @a2 (fI @a3 (fI @a4 (fI @a10 @a11))))); refine zx ?_; clear FF
      exact hR1 _ _ ⟨lim, e, hlim', ⟨by simp [a0], by simp [a1], by simp [a2], by simp [a3], by simp [a4], by simp [a10], by simp [a11]⟩, by simp, hR⟩
    | false =>
      have cb := zmD (g := g) hjs (d := e) (a := a') (b := b') (by omega) (by omega) (by omega) hte
      rw [hes] at cb
      have wl : IntKind.i64.wrap ((lim : Int) - 1) = ((lim - 1 : Nat) : Int) := by rw [zh (by omega) (by omega)]; omega
      generalize hlm : ((lim - 1 : Nat) : Int) = lm at *
      have FF := fI @a0 (fI @a1 (fI @a2 (fI @a3 (fI @a4 (fI @a10 @a11))))); refine zx ?_; clear FF
      refine cb.mono ?_
      rintro _ τ2 ⟨rfl, q1, q2⟩
      have FF := fI @a0 (fI @a1 (fI @a2 (fI @a3 (fI @a4 (fI @a10 (fI @a11 @wl)))))); refine zx ?_; clear FF
      exact hR1 _ _ ⟨lim - 1, _, by omega, ⟨by simp [a0], by simp [a1], by simp [a2], by simp [hlm], by simp [a4], by simp [a10], by simp [a11]⟩, by simp, hR.perm (by omega) (Sort.breakPatterns_holds e a' b' hab' (by omega)) ⟨q1, q2⟩⟩
  clear hF hte hes hB' hglue hR a0 a1 a2 a3 a4 a10 a11 hl0 hl0' hlim'
  rintro A τ ⟨lim, e, hlim', ⟨a0, a1, a2, a3, a4, a10, a11⟩, a12, hR⟩
  obtain ⟨hF, hes, hB', hglue⟩ := id hR
  have hte := hF.buf hj
  have cc := zhu hcc hjs (d := e) (a := a') (b := b') (by omega) (by omega) (by omega) hte
  have hpr := Sort.choosePivot_holds (zq c) e a' b' (by omega)
  obtain ⟨pv, hint, hcp⟩ : ∃ pv hint, Sort.choosePivot (zq c) e a' b' = (pv, hint) := ⟨_, _, rfl⟩
  rw [hcp, hes] at cc
  rw [hcp] at hpr
  simp only [] at cc hpr
  have FF := fI @a0 (fI @a1 (fI @a2 (fI @a3 (fI @a4 (fI @a10 (fI @a11 @a12)))))); refine goM ?_; clear FF
  refine cc.mono ?_
  rintro _ τ2 ⟨rfl, q1, q2⟩
  have hR := hR.perm (by omega) (Sort.permIn_refl e a' b') ⟨by rw [q1, zaS hte], q2⟩
  have hte := hR.fr.buf hj
  have FF := fI @a0 (fI @a1 (fI @a2 (fI @a3 (fI @a4 (fI @a10 (fI @a11 @a12)))))); refine goM ?_; clear FF
  refine zc3 (fun A τ => ∃ pv hi e, a' ≤ pv ∧ pv < b' ∧ PdI o d.size a' b' lim g wb wp A ∧ A 12 = .raw (.int .i64 l) ∧ A 13 = .raw (.int .i64 (pv : Nat)) ∧ A 14 = .raw (.int .i64 hi) ∧ Rd (zq c) o d a b σ a' b' e τ) ?_ ?_
  · intro R1 hR1
    by_cases hdec : hint = .decreasing
    · subst hdec
      have cr := zkH (g := g) hjs (d := e) (a := a') (b := b') (by omega) (by omega) (by omega) hte
      rw [hes] at cr
      have v1 : IntKind.i64.wrap ((b' : Int) - 1) = ((b' - 1 : Nat) : Int) := by rw [zh (by omega) (by omega)]; omega
      have v2 : IntKind.i64.wrap ((pv : Int) - a') = ((pv - a' : Nat) : Int) := by rw [zh (by omega) (by omega)]; omega
      have v3 : IntKind.i64.wrap (((b' - 1 : Nat) : Int) - ((pv - a' : Nat) : Int)) = ((b' - 1 - (pv - a') : Nat) : Int) := by rw [zh (by omega) (by omega)]; omega
      generalize ((b' - 1 : Nat) : Int) = y1 at *
      generalize ((pv - a' : Nat) : Int) = y2 at *
      generalize hy3 : ((b' - 1 - (pv - a') : Nat) : Int) = y3 at *
      (try ((first | with_reducible refine zo ?_ | with_reducible refine zt ?_ | with_reducible refine zu ?_); simp [a0, a1, a2, a3, a4, a10, a11, a12, zc4])); repeat' (first | ((first | refine zf ?_ | refine zg ?_ | refine dN (by decide +kernel) ?_ | (refine za ?_ ?_ <;> (intro hg; simp only [hg])) | fail) <;> simp [a0, a1, a2, a3, a4, a10, a11, a12, zc4]) | refine ze ?_ | refine zd ?_ | (refine zA ?_; simp only [zB]; try simp) | ((first | refine zm (by simp) ?_ | refine zv (by simp) (by simp) (by simp (maxDischargeDepth := 30) [a0, a1, a2, a3, a4, a10, a11, a12, zc4]) ?_ | fail); simp) | (refine zc (fun hc => ?_) (fun hc => ?_) <;> try simp at hc) | fail)
      refine cr.mono ?_
      rintro _ τ3 ⟨rfl, rfl⟩
      (try ((first | with_reducible refine zo ?_ | with_reducible refine zt ?_ | with_reducible refine zu ?_); simp [a0, a1, a2, a3, a4, a10, a11, a12, zc4, v1, v2, v3])); repeat' (first | ((first | refine zf ?_ | refine zg ?_ | refine dN (by decide +kernel) ?_ | (refine za ?_ ?_ <;> (intro hg; simp only [hg])) | fail) <;> simp [a0, a1, a2, a3, a4, a10, a11, a12, zc4, v1, v2, v3]) | refine ze ?_ | refine zd ?_ | (refine zA ?_; simp only [zB]; try simp) | ((first | refine zm (by simp) ?_ | refine zv (by simp) (by simp) (by simp (maxDischargeDepth := 30) [a0, a1, a2, a3, a4, a10, a11, a12, zc4, v1, v2, v3]) ?_ | fail); simp) | (refine zc (fun hc => ?_) (fun hc => ?_) <;> try simp at hc) | fail)
      exact hR1 _ _ ⟨b' - 1 - (pv - a'), _, _, by omega, by omega, ⟨by simp [a0], by simp [a1], by simp [a2], by simp [a3], by simp [a4], by simp [a10], by simp [a11]⟩, by simp [a12], by simp [hy3], by simp; rfl, hR.perm (by omega) (Sort.reverseRange_holds e a' b' hab' (by omega)) (Fr.set _ _ _)⟩
    · have hd' : ¬ zc4 hint = 2 := by cases hint <;> simp [zc4] at hdec ⊢
      have FF := fI @a0 (fI @a1 (fI @a2 (fI @a3 (fI @a4 (fI @a10 (fI @a11 (fI @a12 @hd'))))))); refine zx ?_; clear FF
      exact hR1 _ _ ⟨pv, _, _, hpr.1, hpr.2, ⟨by simp [a0], by simp [a1], by simp [a2], by simp [a3], by simp [a4], by simp [a10], by simp [a11]⟩, by simp [a12], by simp, by simp; rfl, hR⟩
  clear hF hte hes hB' hglue hR a0 a1 a2 a3 a4 a10 a11 a12 cc q1 q2 hcp hpr
  clear pv hint
  rintro A τ ⟨pv, hi, e, hap, hpb, ⟨a0, a1, a2, a3, a4, a10, a11⟩, a12, a13, a14, hR⟩
  obtain ⟨hF, hes, hB', hglue⟩ := id hR
  have hte := hF.buf hj
  have ci := zig hcc hjs (d := e) (a := a') (b := b') (by omega) (by omega) (by omega) hte
  rw [hes] at ci
  have hpi := Sort.partialInsertionSort_holds hS e a' b' (by omega) (by omega) hB'
  obtain ⟨e2, ok, hpe⟩ : ∃ e2 ok, Sort.partialInsertionSort (zq c) e a' b' = (e2, ok) := ⟨_, _, rfl⟩
  rw [hpe] at ci hpi
  simp only [] at ci hpi
  refine ze ?_
  refine zc3 (fun A τ => ∃ e, PdI o d.size a' b' lim g wb wp A ∧ A 12 = .raw (.int .i64 l) ∧ A 13 = .raw (.int .i64 (pv : Nat)) ∧ Rd (zq c) o d a b σ a' b' e τ) ?_ ?_
  · intro R1 hR1
    cases wb with
    | false =>
      have FF := fI @a0 (fI @a1 (fI @a2 (fI @a3 (fI @a4 (fI @a10 (fI @a11 (fI @a12 (fI @a13 @a14)))))))); refine zx ?_; clear FF
      exact hR1 _ _ ⟨e, ⟨by simp [a0], by simp [a1], by simp [a2], by simp [a3], by simp [a4], by simp [a10], by simp [a11]⟩, by simp [a12], by simp [a13], hR⟩
    | true =>
      cases wp with
      | false =>
        have FF := fI @a0 (fI @a1 (fI @a2 (fI @a3 (fI @a4 (fI @a10 (fI @a11 (fI @a12 (fI @a13 @a14)))))))); refine zx ?_; clear FF
        exact hR1 _ _ ⟨e, ⟨by simp [a0], by simp [a1], by simp [a2], by simp [a3], by simp [a4], by simp [a10], by simp [a11]⟩, by simp [a12], by simp [a13], hR⟩
      | true =>
        by_cases h1 : hi = 1
        · have FF := fI @a0 (fI @a1 (fI @a2 (fI @a3 (fI @a4 (fI @a10 (fI @a11 (fI @a12 (fI @a13 (fI @a14 @h1))))))))); refine zx ?_; clear FF
          refine ci.mono ?_
          rintro _ τ2 ⟨rfl, rfl⟩
          cases ok with
          | true =>
            have FF := fI @a0 (fI @a1 (fI @a2 (fI @a3 (fI @a4 (fI @a10 (fI @a11 (fI @a12 (fI @a13 (fI @a14 @h1))))))))); refine zx ?_; clear FF
            obtain ⟨q1, q2⟩ := hglue _ hpi.1 (hpi.2 rfl)
            refine zT (x := .tup []) (.inr rfl) (by simp) ⟨rfl, _, q1, q2, hF.andSet⟩
          | false =>
            have FF := fI @a0 (fI @a1 (fI @a2 (fI @a3 (fI @a4 (fI @a10 (fI @a11 (fI @a12 (fI @a13 (fI @a14 @h1))))))))); refine zx ?_; clear FF
            exact hR1 _ _ ⟨e2, ⟨by simp [a0], by simp [a1], by simp [a2], by simp [a3], by simp [a4], by simp [a10], by simp [a11]⟩, by simp [a12], by simp [a13], hR.perm (by omega) hpi.1 (Fr.set _ _ _)⟩
        · have FF := fI @a0 (fI @a1 (fI @a2 (fI @a3 (fI @a4 (fI @a10 (fI @a11 (fI @a12 (fI @a13 (fI @a14 @h1))))))))); refine zx ?_; clear FF
          exact hR1 _ _ ⟨e, ⟨by simp [a0], by simp [a1], by simp [a2], by simp [a3], by simp [a4], by simp [a10], by simp [a11]⟩, by simp [a12], by simp [a13], hR⟩
  clear a0 a1 a2 a3 a4 a10 a11 a12 a13 a14 hte hF hes hB' hglue hR ci hpi hpe
  rintro A τ ⟨e, ⟨a0, a1, a2, a3, a4, a10, a11⟩, a12, a13, hR⟩
  obtain ⟨hF, hes, hB', hglue⟩ := id hR
  have hte := hF.buf hj
  have ht' : τ.m o = some (.buf (e.toList.map zl)) := hte
  have ce := zgn hcc hjs (d := e) (a := a') (b := b') (pivot := pv) hap hpb (by omega) (by omega) hte
  obtain ⟨mid, d4, hx⟩ : ∃ mid d4, Sort.partitionEqual (zq c) e a' b' pv = (mid, d4) := ⟨_, _, rfl⟩
  rw [hx, hes] at ce
  simp only [] at ce
  have cp := zjc hcc hjs (d := e) (a := a') (b := b') (pivot := pv) hap hpb (by omega) (by omega) hte
  obtain ⟨mid2, ap, d5, hy⟩ : ∃ mid2 ap d5, Sort.partition (zq c) e a' b' pv = (mid2, ap, d5) := ⟨_, _, _, rfl⟩
  rw [hy, hes] at cp
  simp only [] at cp
  obtain ⟨g1, g2, hs5, hBa, hBr, hleft, hright⟩ := Sort.round_part hS (Sort.partition_holds (zq c)) hap hpb (by omega) hB' hy
  refine ze ?_
  refine zc3 (fun A' τ' => PdI o d.size a' b' lim g wb wp A' ∧ A' 12 = .raw (.int .i64 l) ∧ A' 13 = .raw (.int .i64 (pv : Nat)) ∧ τ = τ') ?_ ?_
  · intro R1 hR1
    by_cases ha0 : 0 < a'
    · have ha0' : (0 : Int) < a' := by omega
      have gx : e[a' - 1]? = some e[a' - 1]! := zM (by omega)
      have gy : e[pv]? = some e[pv]! := zM (by omega)
      have g3 : ((a' - 1 : Nat) : Int) < d.size := by omega
      have g4 : (pv : Int) < d.size := by omega
      have w2 : IntKind.i64.wrap ((a' : Int) - 1) = ((a' - 1 : Nat) : Int) := by rw [zh (by omega) (by omega)]; omega
      by_cases hlt : c e[a' - 1]! e[pv]! < 0
      · generalize hap1 : a' - 1 = ap1 at *
        have FF := fI @a0 (fI @a1 (fI @a2 (fI @a3 (fI @a4 (fI @a10 (fI @a11 (fI @a12 (fI @a13 (fI @ha0 (fI @gx (fI @gy (fI @g3 (fI @g4 (fI @w2 (fI @ht' (fI @hjs (fI @rg_cells (fI @rg_fold @hes)))))))))))))))))); refine zx ?_; clear FF
        refine PCalls.use (hcc.calls _ _) ?_
        have FF := fI @a0 (fI @a1 (fI @a2 (fI @a3 (fI @a4 (fI @a10 (fI @a11 (fI @a12 (fI @a13 (fI @ha0 (fI @gx (fI @gy (fI @g3 (fI @g4 (fI @w2 (fI @ht' (fI @hjs (fI @rg_cells (fI @rg_fold (fI @hes @hlt))))))))))))))))))); refine zx ?_; clear FF
        exact hR1 _ _ ⟨⟨by simp [a0], by simp [a1], by simp [a2], by simp [a3], by simp [a4], by simp [a10], by simp [a11]⟩, by simp [a12], by simp [a13], rfl⟩
      · obtain ⟨r1, r2, hs4, hB4, hfin⟩ := Sort.round_eq hS (Sort.partitionEqual_holds (zq c)) ha0 hap hpb (by omega) hB' (by simp [zq]; omega) hx
        generalize hap1 : a' - 1 = ap1 at *
        have FF := fI @a0 (fI @a1 (fI @a2 (fI @a3 (fI @a4 (fI @a10 (fI @a11 (fI @a12 (fI @a13 (fI @ha0 (fI @gx (fI @gy (fI @g3 (fI @g4 (fI @w2 (fI @ht' (fI @hjs (fI @rg_cells (fI @rg_fold @hes)))))))))))))))))); refine zx ?_; clear FF
        refine PCalls.use (hcc.calls _ _) ?_
        have FF := fI @a0 (fI @a1 (fI @a2 (fI @a3 (fI @a4 (fI @a10 (fI @a11 (fI @a12 (fI @a13 (fI @ha0 (fI @gx (fI @gy (fI @g3 (fI @g4 (fI @w2 (fI @ht' (fI @hjs (fI @rg_cells (fI @rg_fold (fI @hes @hlt))))))))))))))))))); refine zx ?_; clear FF
        refine ce.mono ?_
        rintro _ τ2 ⟨rfl, rfl⟩
        have FF := fI @a0 (fI @a1 (fI @a2 (fI @a3 (fI @a4 (fI @a10 (fI @a11 (fI @a12 @a13))))))); refine zx ?_; clear FF
        refine hI1 (b' - mid) _ _ (by omega) ⟨mid, b', lim, wb, wp, d4, ⟨by simp [a0], by simp, by simp [a2], by simp [a3], by simp [a4], by simp [a10], by simp [a11]⟩, rfl, by omega, by omega, by omega, hlim', hR.fr.andSet, by rw [hs4, hes], hB4, fun R q1 q2 => ?_⟩
        obtain ⟨q3, q4⟩ := hfin R q1 q2
        exact hglue R q3 q4
    · have ha0' : ¬ (0 : Int) < a' := by omega
      have ha00 : a' = 0 := by omega
      have FF := fI @a0 (fI @a1 (fI @a2 (fI @a3 (fI @a4 (fI @a10 (fI @a11 (fI @a12 (fI @a13 (fI @ha0' @ha00))))))))); refine zx ?_; clear FF
      exact hR1 _ _ ⟨⟨by simp [a0], by simp [a1], by simp [a2], by simp [a3], by simp [a4], by simp [a10], by simp [a11]⟩, by simp [a12], by simp [a13], rfl⟩
  clear a0 a1 a2 a3 a4 a10 a11 a12 a13
  rintro A _ ⟨⟨a0, a1, a2, a3, a4, a10, a11⟩, a12, a13, rfl⟩
  have v1 : IntKind.i64.wrap ((mid2 : Int) - a') = ((mid2 - a' : Nat) : Int) := by rw [zh (by omega) (by omega)]; omega
  have v2 : IntKind.i64.wrap ((b' : Int) - mid2) = ((b' - mid2 : Nat) : Int) := by rw [zh (by omega) (by omega)]; omega
  have v3 : (l : Int).tdiv 8 = ((l / 8 : Nat) : Int) := by rw [Int.tdiv_eq_ediv_of_nonneg (by omega)]; omega
  have v4 : IntKind.i64.wrap ((l / 8 : Nat) : Int) = ((l / 8 : Nat) : Int) := zh (by omega) (by omega)
  have v5 : IntKind.i64.wrap ((mid2 : Int) + 1) = ((mid2 + 1 : Nat) : Int) := by rw [zh (by omega) (by omega)]; omega
  obtain ⟨ll, hll⟩ : ∃ ll, mid2 - a' = ll := ⟨_, rfl⟩
  obtain ⟨rl, hrl⟩ : ∃ rl, b' - mid2 = rl := ⟨_, rfl⟩
  obtain ⟨m1, hm1⟩ : ∃ m1, mid2 + 1 = m1 := ⟨_, rfl⟩
  rw [hll] at v1
  rw [hrl] at v2
  rw [hm1] at v5
  generalize ((l / 8 : Nat) : Int) = l8 at *
  have hR5 := hR.fr.andSet (y := zK d5)
  have ht5 := hR5.buf hj
  by_cases hlr : ll < rl
  · have cl := ih (mid2 - a') (by omega) d5 a' mid2 lim (τ.set o (zK d5)) (by omega) g1 (by omega) (by omega) hlim' hBa ht5
    rw [hs5, hes] at cl
    have FF := fI @a0 (fI @a1 (fI @a2 (fI @a3 (fI @a4 (fI @a10 (fI @a11 (fI @a12 @a13))))))); refine zx ?_; clear FF
    refine cp.mono ?_
    rintro _ τ2 ⟨rfl, rfl⟩
    have FF := fI @a0 (fI @a1 (fI @a2 (fI @a3 (fI @a4 (fI @a10 (fI @a11 (fI @a12 (fI @a13 (fI @v1 (fI @v2 (fI @v3 (fI @v4 @hlr)))))))))))); refine zx ?_; clear FF
    refine cl.mono ?_
    rintro _ τ3 ⟨rfl, L, l1, l2, l3⟩
    have FF := fI @a0 (fI @a1 (fI @a2 (fI @a3 (fI @a4 (fI @a10 (fI @a11 (fI @a12 (fI @a13 @v5)))))))); refine zx ?_; clear FF
    obtain ⟨hBL, hfin⟩ := hleft L l1 l2
    refine hI1 (b' - m1) _ _ (by omega) ⟨m1, b', lim, _, ap, L, ⟨by simp [a0], by simp, by simp [a2], by simp [a3], by simp [a4], by simp; rfl, by simp⟩, rfl, by omega, by omega, by omega, hlim', hR5.trans l3, by rw [l1.1, hs5, hes], by rw [← hm1]; exact hBL, fun R q1 q2 => ?_⟩
    rw [← hm1] at q1 q2
    obtain ⟨q3, q4⟩ := hfin R q1 q2
    exact hglue R q3 q4
  · have cl := ih (b' - m1) (by omega) d5 m1 b' lim (τ.set o (zK d5)) (by omega) (by omega) (by omega) (by omega) hlim' (by rw [← hm1]; exact hBr) ht5
    rw [hs5, hes] at cl
    have FF := fI @a0 (fI @a1 (fI @a2 (fI @a3 (fI @a4 (fI @a10 (fI @a11 (fI @a12 @a13))))))); refine zx ?_; clear FF
    refine cp.mono ?_
    rintro _ τ2 ⟨rfl, rfl⟩
    have FF := fI @a0 (fI @a1 (fI @a2 (fI @a3 (fI @a4 (fI @a10 (fI @a11 (fI @a12 (fI @a13 (fI @v1 (fI @v2 (fI @v3 (fI @v4 (fI @hlr @v5))))))))))))); refine zx ?_; clear FF
    refine cl.mono ?_
    rintro _ τ3 ⟨rfl, L, l1, l2, l3⟩
    have FF := fI @a0 (fI @a1 (fI @a2 (fI @a3 (fI @a4 (fI @a10 (fI @a11 (fI @a12 (fI @a13 @v5)))))))); refine zx ?_; clear FF
    rw [← hm1] at l1 l2
    obtain ⟨hBL, hfin⟩ := hright L l1 l2
    refine hI1 (mid2 - a') _ _ (by omega) ⟨a', mid2, lim, _, ap, L, ⟨by simp [a0], by simp [a1], by simp, by simp [a3], by simp [a4], by simp; rfl, by simp⟩, rfl, by omega, by omega, by omega, hlim', hR5.trans l3, by rw [l1.1, hs5, hes], hBL, fun R q1 q2 => ?_⟩
    obtain ⟨q3, q4⟩ := hfin R q1 q2
    exact hglue R q3 q4
theorem zjM {g : FuncId} {c : Rg → Rg → Int} (hcc : Cmp g c) (hS : Sort.SWO (zq c)) {o : Id} (hjs : o.sz = 2) {d : Array Rg} (hsz : d.size < 2 ^ 43) {σ : St} (hj : σ.m o = some (zK d)) :
    ACalls Tryz.prog 89 [.rs o 0 d.size, .fn (.func g) [] []] σ (zmY (zq c) o d 0 d.size σ) := by
  refine zaL Tryz.func89 rfl (N := 14) rfl rfl (by simp) ?_
  have w1 : IntKind.u64.wrap (d.size : Int) = d.size := zas (by omega) (by omega)
  have hL : Sort.bitsLen d.size ≤ 43 := (Sort.bitsLen_le_iff _ 43).2 hsz
  have cl := zoN hcc hS hjs d.size d 0 d.size (Sort.bitsLen d.size) σ (by omega) (by omega) (by omega) hsz (by omega) (.inl rfl) hj
  have cn := zg5 d.size (by omega)
  generalize Sort.bitsLen d.size = L at *
  have FF := @w1; refine zx ?_; clear FF
  refine PCalls.use cn ?_
  have FF := @w1; refine zx ?_; clear FF
  refine cl.mono ?_
  rintro _ τ ⟨rfl, h⟩
  refine zaR ?_
  exact zT (x := .tup []) (.inl rfl) (by simp) ⟨rfl, h⟩
end Go.Proofs.YtpboabpapgimoaaGreat.Av.Zn
namespace Go.Proofs.YtpboabpapgimoaaGreat.Av.Zn
open Go
set_option linter.unusedSimpArgs false
set_option linter.unusedVariables false
set_option maxRecDepth 100000
set_option maxHeartbeats 4000000
set_option pp.maxSteps 300
theorem zjN {z : List Rg} {full : Bool} (i : Id) (hz : z.length < 2 ^ 60) : zju Tryz.prog 90 [.rp i 0 0] i (.buf [zAV z full]) (z.map zl) := by
  intro b I J h1 h2 h3 σ hi h0
  rw [List.length_map]
  refine (zlO (b := b) (i := i) (I := fun k σ => I k σ ∧ σ.m i = some (.buf [zAV z full])) (J := J) hz ?_ ?_ hi ⟨h0, hi⟩).mono ?_
  · rintro k σ τ ⟨q1, q2⟩ hE; exact ⟨h1 k σ τ q1 hE, hE.m _ _ q2⟩
  · rintro k σ h ⟨q1, q2⟩
    refine YK.mono ?_ (h3 k (zl z[k]) σ _ (by simp [h]) q1 q2)
    rintro r τ (⟨e, p1, p2⟩ | p)
    · exact .inl ⟨e, p1, p2⟩
    · exact .inr p
  · rintro r τ (⟨h, _⟩ | h)
    · exact .inl h
    · exact .inr h
theorem zlT (z : List Rg) (full : Bool) {σ : St} : ACalls Tryz.prog 63 [zAV z full] σ fun r τ => ∃ i, r = .fn (.func 90) [] [.rp i 0 0] ∧ σ.m i = none ∧ τ.m i = some (.buf [zAV z full]) ∧ Ext σ τ := by
  refine zaL Tryz.func63 rfl (N := 4) rfl rfl (by simp) ?_
  have FF := zAV.eq_1; refine zx ?_; clear FF
  refine zT (x := .fn (.func 90) [] [.rp ⟨1, σ.nx 1, 1⟩ 0 0]) (.inr rfl) (by simp) ⟨_, rfl, zb _ _ _, by simp [zAV], Ext.new _ _ _ _⟩
def zrc (i : Id) (z : List Rg) (σ : St) (r : AV) (τ : St) : Prop := But i σ τ ∧ ((z = [] ∧ r = .sl 0 [] true) ∨ (z ≠ [] ∧ ∃ j, r = .rs j 0 z.length ∧ j.sz = 2 ∧ τ.m j = some (.buf (z.map zl)) ∧ σ.m j = none))
theorem zkK {f : FuncId} {caps : List AV} {i : Id} {c0 : Ob} {z : List Rg} (hit : zju Tryz.prog f caps i c0 (z.map zl)) (hl : z.length < 2 ^ 40) {σ : St} (hi : σ.m i = some c0) :
    ACalls Tryz.prog 88 [.fn (.func f) [] caps] σ (zrc i z σ) := by
  refine zaL Tryz.func88 rfl (N := 5) rfl rfl (by simp) ?_
  have h := zi9 hit hl hi
  refine zaR ?_
  refine h.mono ?_
  rintro r τ ⟨hB, h⟩
  have hC : zrc i z σ r τ := ⟨hB, h⟩
  refine zaR ?_
  refine zT (x := r) (.inr rfl) (by simp) hC
theorem zkL {g : FuncId} : PCalls Tryz.prog 120 [.sl 0 [] true, .raw (.int .i64 0), .raw (.int .i64 0), .fn (.func g) [] []] (.tup []) := by
  refine zE Tryz.func120 rfl (N := 53) rfl rfl (by simp) (by simp [noIds]) fun σ => ?_
  have w0 : IntKind.i64.wrap 1 = 1 := zh (by omega) (by omega)
  have FF := @w0; refine zx ?_; clear FF
  refine zU (fun n A τ => τ = σ ∧ A 2 = .raw (.int .i64 0) ∧ A 8 = .raw (.int .i64 1)) 0 ⟨rfl, by simp, by simp [w0]⟩ ?_
  rintro n A τ ⟨rfl, a2, a8⟩ I1 hI1
  have FF := fI @a2 @a8; exact goA
theorem zqe {g : FuncId} : PCalls Tryz.prog 109 [.sl 0 [] true, .raw (.int .i64 0), .raw (.int .i64 0), .raw (.int .i64 0), .fn (.func g) [] []] (.tup []) := by
  refine zE Tryz.func109 rfl (N := 148) rfl rfl (by simp) (by simp [noIds]) fun σ => ?_
  have w0 : IntKind.i64.wrap 0 = 0 := zh (by omega) (by omega)
  refine zaR ?_
  refine zU (fun n A τ => τ = σ ∧ A 0 = .sl 0 [] true ∧ A 1 = .raw (.int .i64 0) ∧ A 2 = .raw (.int .i64 0) ∧ A 3 = .raw (.int .i64 0) ∧ A 4 = .fn (.func g) [] []) 0 ⟨rfl, by simp, by simp, by simp, by simp, by simp⟩ ?_
  rintro n A τ ⟨rfl, a0, a1, a2, a3, a4⟩ I1 hI1
  have FF := fI @a0 (fI @a1 (fI @a2 (fI @a3 (fI @a4 @w0)))); refine zx ?_; clear FF
  refine PCalls.use zkL ?_
  exact zga
theorem zlU {g : FuncId} : PCalls Tryz.prog 89 [.sl 0 [] true, .fn (.func g) [] []] (.tup []) := by
  refine zE Tryz.func89 rfl (N := 14) rfl rfl (by simp) (by simp [noIds]) fun σ => ?_
  have w1 : IntKind.u64.wrap 0 = 0 := zas (by omega) (by omega)
  have hn := zg5 0 (by omega)
  have FF := @w1; refine zx ?_; clear FF
  refine PCalls.use hn ?_
  have : Sort.bitsLen 0 = 0 := rfl
  have FF := fI @w1 @this; refine zx ?_; clear FF
  refine PCalls.use zqe ?_
  exact zga
def zdW (c : Rg → Rg → Int) (z : List Rg) : Prop := z.Pairwise fun x y => ¬ c y x < 0
theorem zhv {c : Rg → Rg → Int} {d : Array Rg} (h : Sort.SortedIn (zq c) 0 d.size d) : zdW c d.toList := by
  unfold zdW
  rw [List.pairwise_iff_getElem]
  intro i j hi hj hij
  have := h i j (by omega) hij (by simpa using hj)
  rw [getElem!_pos d i (by simpa using hi), getElem!_pos d j (by simpa using hj)] at this
  simpa [zq] using this
theorem zjO {d d' : Array Rg} (h : Sort.PermIn 0 d.size d d') : d'.toList.Perm d.toList := by
  obtain ⟨h1, _, h3⟩ := h
  have e1 : d'.extract 0 d.size = d' := by rw [← h1]; exact Array.extract_size
  rwa [e1, Array.extract_size] at h3
theorem But.frz {i j : Id} {σ τ ρ : St} {x : Ob} (h : But i σ τ) (hn : σ.m j = none) (k : Fr j x τ ρ) : But i σ ρ :=
  ⟨fun l o hl ho => by
    have := h.m l o hl ho
    have hlj : l ≠ j := fun e => by rw [e, hn] at ho; cases ho
    rw [k.m, zy hlj]; exact this, fun s => Nat.le_trans (h.nx s) (k.nx s)⟩
theorem zoO {P : Program} {A : zD} {σ : St} {fn : Func} {K : AV → St → Prop} {e : Exit} (j : Id) (he : e = .normal ∨ e = .ret) {x : AV} (h : zaH P σ.m A fn.results = some x) (hK : K (zZ (σ.del j).m σ.m x) (σ.del j)) : zgN P fn K e A σ :=
  ⟨he, x, h, σ.del j, fun i o hi => by
    by_cases e : i = j
    · simp [e] at hi
    · rwa [zL e] at hi, fun _ => Nat.le_refl _, _, Weaker.refl _, hK⟩
theorem znM : Weaker (.sl 0 [] true) (zAV [] false) := by
  intro S v h
  simp only [VRel, zAV] at h ⊢
  obtain ⟨base, cap, e, h1, h2, h3⟩ := h
  exact ⟨base, cap, e, h1, by simp, by simp⟩
theorem zoP {P : Program} {A : zD} {σ : St} {fn : Func} {K : AV → St → Prop} {e : Exit} (he : e = .normal ∨ e = .ret) {x y : AV} (h : zaH P σ.m A fn.results = some x) (hw : Weaker x y) (hK : K y σ) : zgN P fn K e A σ :=
  ⟨he, x, h, σ, fun _ _ h => h, fun _ => Nat.le_refl _, y, by rw [zdu]; exact hw, hK⟩
theorem zih {f g : FuncId} {caps : List AV} {i : Id} {c0 : Ob} {z : List Rg} {c : Rg → Rg → Int} (hcc : Cmp g c) (hS : Sort.SWO (zq c)) (hit : zju Tryz.prog f caps i c0 (z.map zl)) (hl : z.length < 2 ^ 38) {σ : St} (hi : σ.m i = some c0) :
    ACalls Tryz.prog 62 [.fn (.func f) [] caps, .fn (.func g) [] []] σ fun r τ => But i σ τ ∧ ∃ z', z'.Perm z ∧ zdW c z' ∧ r = zAV z' false := by
  refine zaL Tryz.func62 rfl (N := 12) rfl rfl (by simp) ?_
  have h := zkK hit (by omega) hi
  refine zaR ?_
  refine h.mono ?_
  rintro r τ ⟨hB, ⟨rfl, rfl⟩ | ⟨hne, j, rfl, hjs, hj, hjn⟩⟩
  · refine zaR ?_
    refine PCalls.use zlU ?_
    refine zaR ?_
    exact zoP (x := .sl 0 [] true) (y := zAV [] false) (.inr rfl) (by simp) znM ⟨hB, List.Pairwise.nil, rfl⟩
  · have hs := zjM (d := z.toArray) hcc hS hjs (by simp; omega) (σ := τ) (by simpa [zK] using hj)
    rw [List.size_toArray] at hs
    refine zaR ?_
    refine hs.mono ?_
    rintro _ τ2 ⟨rfl, d', h1, h2, h3⟩
    have hsz : d'.size = z.length := by rw [h1.1]; simp
    have hp := zjO (d := z.toArray) (d' := d') (by simpa using h1)
    have hso := zhv (c := c) (d := d') (by rw [hsz]; exact h2)
    have hB2 := hB.frz hjn h3
    have hj2 := h3.buf (y := .buf (z.map zl)) (by simpa [zK] using hj)
    refine zaR ?_
    refine zoO j (.inr rfl) (x := .rs j 0 z.length) (by simp) ?_
    have hgu : zZ (τ2.del j).m τ2.m (.rs j 0 z.length) = zAV d'.toList false := by
      simp only [zZ, zw, zpn, hj2, zK]
      rw [if_pos (by simp [hsz])]
      simp [zAV, hjs, hsz]
      rw [List.take_of_length_le (by simp [hsz])]
    rw [hgu]
    refine ⟨⟨fun l o hl ho => ?_, hB2.nx⟩, d'.toList, by simpa using hp, hso, rfl⟩
    rw [zL (fun e => by rw [e, hjn] at ho; cases ho)]
    exact hB2.m l o hl ho
end Go.Proofs.YtpboabpapgimoaaGreat.Av.Zn
namespace Go.Proofs.YtpboabpapgimoaaGreat.Av.Zn
open Go
set_option linter.unusedSimpArgs false
set_option linter.unusedVariables false
set_option maxRecDepth 100000
set_option maxHeartbeats 4000000
set_option pp.maxSteps 300
def idxOf (p : Rg → Bool) (z : List Rg) : Int := if z.any p then (z.findIdx p : Nat) else -1
theorem idxOf_here {p : Rg → Bool} {z : List Rg} {i : Nat} {x : Rg} (hx : z[i]? = some x) (hp : p x = true) (hn : ∀ j, j < i → ∀ y, z[j]? = some y → p y = false) : idxOf p z = i := by
  unfold idxOf
  obtain ⟨hi, he⟩ := List.getElem?_eq_some_iff.1 hx
  rw [if_pos (List.any_eq_true.2 ⟨x, List.mem_of_getElem? hx, hp⟩)]
  congr 1
  rw [List.findIdx_eq hi]
  refine ⟨by rw [he]; exact hp, fun j hj => ?_⟩
  exact hn j hj _ (List.getElem?_eq_getElem (by omega))
theorem idxOf_none {p : Rg → Bool} {z : List Rg} (hn : ∀ j, j < z.length → ∀ y, z[j]? = some y → p y = false) : idxOf p z = -1 ∧ z.any p = false := by
  have : z.any p = false := by
    rw [List.any_eq_false]
    intro x hx
    obtain ⟨j, hj⟩ := List.getElem?_of_mem hx
    simp [hn j (List.getElem?_eq_some_iff.1 hj).1 x hj]
  exact ⟨by unfold idxOf; rw [this]; rfl, this⟩
theorem idxOf_any (p : Rg → Bool) (z : List Rg) : decide (0 ≤ idxOf p z) = z.any p := by
  unfold idxOf
  cases z.any p <;> simp
theorem zjd {g : FuncId} {p : Rg → Bool} (z : List Rg) (fz : Bool) (hl : z.length < 2 ^ 60) (hg : ∀ r ∈ z, PCalls Tryz.prog g [zl r] (.raw (.bool (p r)))) :
    PCalls Tryz.prog 87 [zAV z fz, .fn (.func g) [] []] (.raw (.int .i64 (idxOf p z))) := by
  refine zE Tryz.func87 rfl (N := 19) rfl rfl (by simp) (by simp [noIds]) fun σ => ?_
  have FF := zAV.eq_1; refine zx ?_; clear FF
  refine zU (fun n A τ => τ = σ ∧ A 0 = zAV z fz ∧ A 1 = .fn (.func g) [] [] ∧ A 7 = .raw (.int .i64 z.length) ∧ ∃ i : Nat, A 8 = .raw (.int .i64 i) ∧ i ≤ z.length ∧ n = z.length - i ∧ ∀ j, j < i → ∀ y, z[j]? = some y → p y = false) z.length ?_ ?_
  · exact ⟨rfl, by simp [zAV], by simp, by simp, 0, by simp, by omega, by omega, fun j h => by omega⟩
  rintro n A τ ⟨rfl, a0, a1, a7, i, a8, hi, rfl, hn⟩ I1 hI1
  by_cases hlt : i < z.length
  · have hx : z[i]? = some z[i] := List.getElem?_eq_getElem hlt
    have w1 : IntKind.i64.wrap ((i : Int) + 1) = ((i + 1 : Nat) : Int) := by rw [zh (by omega) (by omega)]; omega
    have hr : AV.agg [.raw (.int .u32 z[i].lo), .raw (.int .u32 z[i].hi)] = zl z[i] := rfl
    (try ((first | with_reducible refine zo ?_ | with_reducible refine zt ?_ | with_reducible refine zu ?_); simp [zAV, a0, a1, a7, a8, hlt, hx, rg_cells, hr])); repeat' (first | ((first | refine zf ?_ | refine zg ?_ | refine dN (by decide +kernel) ?_ | (refine za ?_ ?_ <;> (intro hg; simp only [hg])) | fail) <;> simp [zAV, a0, a1, a7, a8, hlt, hx, rg_cells, hr]) | refine ze ?_ | refine zd ?_ | (refine zA ?_; simp only [zB]; try simp) | ((first | refine zm (by simp) ?_ | refine zv (by simp) (by simp) (by simp (maxDischargeDepth := 30) [zAV, a0, a1, a7, a8, hlt, hx, rg_cells, hr]) ?_ | fail); simp) | (refine zc (fun hc => ?_) (fun hc => ?_) <;> try simp at hc) | fail)
    refine PCalls.use (hg z[i] (List.getElem_mem _)) ?_
    cases hp : p z[i] with
    | true =>
      have FF := fI zAV.eq_1 (fI @a0 (fI @a1 (fI @a7 (fI @a8 (fI @hlt (fI @hx (fI @rg_cells @hr))))))); refine zx ?_; clear FF
      exact (idxOf_here hx hp hn).symm
    | false =>
      have FF := fI zAV.eq_1 (fI @a0 (fI @a1 (fI @a7 (fI @a8 (fI @hlt (fI @hx (fI @rg_cells @hr))))))); refine zx ?_; clear FF
      refine hI1 (z.length - (i + 1)) _ _ (by omega) ⟨rfl, by simp [a0], by simp [a1], by simp [a7], i + 1, by simp [w1], by omega, rfl, fun j hj y hy => ?_⟩
      by_cases e : j = i
      · subst e; rw [hx] at hy; injection hy with hy; subst hy; exact hp
      · exact hn j (by omega) y hy
  · have hi' : i = z.length := by omega
    subst hi'
    have w1 : IntKind.i64.wrap (-1) = -1 := zh (by omega) (by omega)
    have FF := fI zAV.eq_1 (fI @a0 (fI @a1 (fI @a7 (fI @a8 @w1)))); refine zx ?_; clear FF
    exact (idxOf_none hn).1.symm
theorem zem {g : FuncId} {p : Rg → Bool} (z : List Rg) (fz : Bool) (hl : z.length < 2 ^ 60) (hg : ∀ r ∈ z, PCalls Tryz.prog g [zl r] (.raw (.bool (p r)))) :
    PCalls Tryz.prog 60 [zAV z fz, .fn (.func g) [] []] (.raw (.bool (z.any p))) := by
  refine zE Tryz.func60 rfl (N := 9) rfl rfl (by simp) (by simp [noIds]) fun σ => ?_
  refine zaR ?_
  refine PCalls.use (zjd z fz hl hg) ?_
  have := idxOf_any p z
  refine zaR ?_
  simpa using this
theorem zkn (r : Rg) : PCalls Tryz.prog 61 [zl r] (.raw (.bool (decide (r.hi < r.lo)))) := by
  refine zE Tryz.func61 rfl (N := 8) rfl rfl (by simp) (by simp [noIds]) fun σ => ?_
  have FF := zl.eq_1; exact goA
theorem zoQ (r s : Rg) : PCalls Tryz.prog 64 [zl r, zl s] (.raw (.int .i64 (cmpI r.lo s.lo))) := by
  refine zE Tryz.func64 rfl (N := 10) rfl rfl (by simp) (by simp [noIds]) fun σ => ?_
  have FF := zl.eq_1; refine zx ?_; clear FF
  refine PCalls.use (compare_calls .u32 r.lo s.lo) ?_
  have FF := zl.eq_1; exact goA
end Go.Proofs.YtpboabpapgimoaaGreat.Av.Zn
namespace Go.Proofs.YtpboabpapgimoaaGreat.Av.Zn
open Go
set_option linter.unusedSimpArgs false
set_option linter.unusedVariables false
set_option maxRecDepth 100000
set_option maxHeartbeats 4000000
set_option pp.maxSteps 300
theorem zgx {σ : St} {slot sz : Nat} {x y : Ob} {i : Id} (h : i ≠ ⟨slot, σ.nx slot, sz⟩) : (σ.new slot sz x).set i y = (σ.set i y).new slot sz x := by
  apply St.ext'
  · funext j
    by_cases e : j = ⟨slot, σ.nx slot, sz⟩
    · subst e
      rw [zy (Ne.symm h), zc7]
      exact (zc7 (σ := σ.set i y)).symm
    · by_cases e2 : j = i
      · subst e2
        rw [zcK, zbM h]
        rw [zbM (σ := σ.set j y) h, zcK]
      · rw [zy e2, zbM e, zbM (σ := σ.set i y) e, zy e2]
  · rfl
theorem zrd {r : Rg} {l : List Rg} (h : ∀ x, l[0]? = some x → ¬ x.lo ≤ r.hi + 1) : mg r l = r :: zbh l := by
  cases l with
  | nil => rfl
  | cons x l => rw [mg, if_neg (h x rfl)]; rfl
theorem zjP {z : List Rg} {fz : Bool} (i : Id) (his : i.sz = 1) (hz : InZ z) (hl : z.length < 2 ^ 60) : zju Tryz.prog 92 [.rp i 0 0] i (.buf [zAV z fz]) ((zbh z).map zl) := by
  intro b I J h1 h2 h3 σ hi h0
  refine zaL Tryz.func92 rfl (N := 41) rfl rfl (by simp) ?_
  refine zd ?_
  refine zU (fun n A τ => ∃ k rest, A 0 = .fn (.yield b) [] [] ∧ A 1 = .rp i 0 0 ∧ τ.m i = some (.buf [zAV rest fz]) ∧ I k τ ∧ (zbh z).drop k = zbh rest ∧ k + (zbh rest).length = (zbh z).length ∧ InZ rest ∧ rest.length ≤ z.length ∧ n = rest.length) z.length ?_ ?_
  · exact ⟨0, z, by simp, by simp, hi, h0, rfl, by simp, hz, Nat.le_refl _, rfl⟩
  rintro n A τ ⟨k, rest, a0, a1, hti, hIk, hd, hkl, hin, hrl, rfl⟩ I1 hI1
  cases rest with
  | nil =>
    have FF := fI @a0 (fI @a1 (fI @hti (fI zAV.eq_1 @his))); refine zx ?_; clear FF
    refine zT (x := .tup []) (.inl rfl) (by simp) (.inl ?_)
    have hk : k = (zbh z).length := by simpa [zbh] using hkl
    rw [← hk]; exact hIk
  | cons r rest =>
    have hr := hin r (by simp)
    have hin0 : InZ rest := fun x hx => hin x (by simp [hx])
    simp only [List.length_cons] at hrl
    have c0 : ¬ (rest.length : Int) + 1 ≤ 0 := by omega
    have hiw : i ≠ ⟨3, τ.nx 3, 2⟩ := fun e => by have := zb τ 3 2; rw [← e, hti] at this; cases this
    have hB1 : ∀ l q, ((τ.set i (.buf [zAV l fz])).new 3 2 (.buf [zl q])).m ⟨3, τ.nx 3, 2⟩ = some (.buf [zl q]) := fun l q => zc7 (σ := τ.set i _)
    have hB2 : ∀ l q, ((τ.set i (.buf [zAV l fz])).new 3 2 (.buf [zl q])).m i = some (.buf [zAV l fz]) := fun l q => by rw [zbM (σ := τ.set i _) hiw, zcK, hti]; rfl
    have hB3 : ∀ l q q', ((τ.set i (.buf [zAV l fz])).new 3 2 (.buf [zl q])).set ⟨3, τ.nx 3, 2⟩ (.buf [zl q']) = (τ.set i (.buf [zAV l fz])).new 3 2 (.buf [zl q']) := fun l q q' => zde (σ := τ.set i _)
    have hB4 : ∀ l q l', ((τ.set i (.buf [zAV l fz])).new 3 2 (.buf [zl q])).set i (.buf [zAV l' fz]) = (τ.set i (.buf [zAV l' fz])).new 3 2 (.buf [zl q]) := fun l q l' => by
      rw [zgx (σ := τ.set i _) hiw, zbP]
    have hB5 : ∀ l q, I k ((τ.set i (.buf [zAV l fz])).new 3 2 (.buf [zl q])) := fun l q => h1 k _ _ (h2 k τ _ hIk (by rw [hti]; simp)) (Ext.new _ _ _ _)
    have hB0 : ((τ.new 3 2 (.buf [AV.agg [.raw (.int .u32 r.lo), .raw (.int .u32 r.hi)]])).set i (.buf [zAV rest fz])) = (τ.set i (.buf [zAV rest fz])).new 3 2 (.buf [zl r]) := by
      rw [zgx hiw]; rfl
    have hA1 : ∀ x, (τ.new 3 2 x).m ⟨3, τ.nx 3, 2⟩ = some x := fun x => zc7
    have hA2 : ∀ x y, (τ.new 3 2 x).set ⟨3, τ.nx 3, 2⟩ y = τ.new 3 2 y := fun x y => zde
    have hA3 : ∀ x, (τ.new 3 2 x).m i = some (.buf [zAV (r :: rest) fz]) := fun x => zat _ _ hti
    generalize hw : (⟨3, τ.nx 3, 2⟩ : Id) = w at *
    have hws : w.sz = 2 := by rw [← hw]
    have FF := fI @a0 (fI @a1 (fI @hti (fI zAV.eq_1 (fI zl.eq_1 (fI @his (fI @c0 (fI @hw (fI @hA1 (fI @hA2 @hA3))))))))); refine goM ?_; clear FF
    clear hw hA1 hA2 hA3
    refine za8 (fun A' τ' => ∃ r' rest', A' 0 = .fn (.yield b) [] [] ∧ A' 1 = .rp i 0 0 ∧ A' 3 = .rp w 0 0 ∧ τ' = (τ.set i (.buf [zAV rest' fz])).new 3 2 (.buf [zl r']) ∧ mg r' rest' = mg r rest ∧ InZ rest' ∧ rest'.length ≤ rest.length ∧ ∀ x, rest'[0]? = some x → ¬ x.lo ≤ r'.hi + 1) ?_ ?_
    · intro R1 hR1
      refine zU (fun n A' τ' => ∃ r' rest', A' 0 = .fn (.yield b) [] [] ∧ A' 1 = .rp i 0 0 ∧ A' 3 = .rp w 0 0 ∧ τ' = (τ.set i (.buf [zAV rest' fz])).new 3 2 (.buf [zl r']) ∧ mg r' rest' = mg r rest ∧ InZ rest' ∧ r'.In ∧ n = rest'.length ∧ n ≤ rest.length) rest.length ?_ ?_
      · exact ⟨r, rest, by simp [a0], by simp [a1], by simp, hB0, rfl, hin0, hr, rfl, Nat.le_refl _⟩
      clear a0 a1 hB0
      rintro n A τ' ⟨r', rest', a0, a1, a3, rfl, hmg, hin', hr', rfl, hle⟩ I2 hI2
      have g1 := hB1 rest' r'
      have g2 := hB2 rest' r'
      cases rest' with
      | nil =>
        generalize hs1 : (τ.set i (.buf [zAV [] fz])).new 3 2 (.buf [zl r']) = s1 at *
        simp only [zAV, zl, List.map_nil] at g1 g2
        have FF := fI @a0 (fI @a1 (fI @a3 (fI @g1 (fI @g2 (fI @his @hws))))); refine zx ?_; clear FF
        exact hR1 _ _ ⟨r', [], by simp [a0], by simp [a1], by simp [a3], hs1.symm, hmg, hin', Nat.zero_le _, by simp⟩
      | cons x l =>
        have hx := hin' x (by simp)
        obtain ⟨x1, x2, x3, x4⟩ := hx
        obtain ⟨r1, r2, r3, r4⟩ := hr'
        have w1 : IntKind.u64.wrap x.lo = x.lo := zas (by omega) (by omega)
        have w2 : IntKind.u64.wrap r'.hi = r'.hi := zas (by omega) (by omega)
        have w3 : IntKind.u64.wrap (r'.hi + 1) = r'.hi + 1 := zas (by omega) (by omega)
        have c1 : (0 : Int) < (l.length : Int) + 1 := by omega
        by_cases hc : x.lo ≤ r'.hi + 1
        · have g3 := hB3 (x :: l) r' ⟨r'.lo, max r'.hi x.hi⟩
          have g4 := hB4 (x :: l) ⟨r'.lo, max r'.hi x.hi⟩ l
          have g5 := hB2 (x :: l) ⟨r'.lo, max r'.hi x.hi⟩
          have hmax : (if r'.hi < x.hi then x.hi else r'.hi) = max r'.hi x.hi := by rw [Int.max_def]; split <;> split <;> omega
          have fin := hI2 l.length
          generalize hs1 : (τ.set i (.buf [zAV (x :: l) fz])).new 3 2 (.buf [zl r']) = s1 at *
          generalize hs2 : (τ.set i (.buf [zAV (x :: l) fz])).new 3 2 (.buf [zl ⟨r'.lo, max r'.hi x.hi⟩]) = s2 at *
          generalize hs3 : (τ.set i (.buf [zAV l fz])).new 3 2 (.buf [zl ⟨r'.lo, max r'.hi x.hi⟩]) = s3 at *
          simp only [zAV, zl, List.map_cons] at g1 g2 g3 g4 g5
          have FF := fI @a0 (fI @a1 (fI @a3 (fI @g1 (fI @g2 (fI @g3 (fI @g4 (fI @g5 (fI @his (fI @hws (fI @w1 (fI @w2 (fI @w3 (fI @c1 (fI @hc @hmax)))))))))))))); refine zx ?_; clear FF
          refine fin _ _ (by simp) ⟨⟨r'.lo, max r'.hi x.hi⟩, l, by simp [a0], by simp [a1], by simp [a3], hs3.symm, ?_, fun y hy => hin' y (by simp [hy]), ⟨r1, r2, by simp only []; omega, by simp only []; omega⟩, rfl, by simp at hle; omega⟩
          rw [← hmg]
          conv => rhs; rw [mg, if_pos hc]
        · have fin := hR1
          generalize hs1 : (τ.set i (.buf [zAV (x :: l) fz])).new 3 2 (.buf [zl r']) = s1 at *
          simp only [zAV, zl, List.map_cons] at g1 g2
          have FF := fI @a0 (fI @a1 (fI @a3 (fI @g1 (fI @g2 (fI @his (fI @hws (fI @w1 (fI @w2 (fI @w3 (fI @c1 @hc)))))))))); refine zx ?_; clear FF
          exact fin _ _ ⟨r', x :: l, by simp [a0], by simp [a1], by simp [a3], hs1.symm, hmg, hin', by simpa using hle, by simpa using hc⟩
    clear a0 a1 hB0
    rintro A' _ ⟨r', rest', a0, a1, a3, rfl, hmg, hin', hle, hend⟩
    have g1 := hB1 rest' r'
    have g2 := hB2 rest' r'
    have g5 := hB5 rest' r'
    rw [show zbh (r :: rest) = mg r rest from rfl, ← hmg, zrd hend] at hd hkl
    have hk : ((zbh z).map zl)[k]? = some (zl r') := by
      rw [List.getElem?_map]
      have : (zbh z)[k]? = some r' := by
        have h := congrArg (fun l => l[0]?) hd
        simpa using h
      rw [this]; rfl
    have hy := h3 k _ _ _ hk g5 g2
    generalize hs1 : (τ.set i (.buf [zAV rest' fz])).new 3 2 (.buf [zl r']) = s1 at *
    simp only [zl] at g1
    have FF := fI @a0 (fI @a1 (fI @a3 (fI @g1 (fI @his @hws)))); refine zx ?_; clear FF
    refine YK.mono ?_ hy
    rintro _ τ2 (⟨rfl, q1, q2⟩ | ⟨rfl, q⟩)
    · have FF := fI @a0 (fI @a1 @a3); refine zx ?_; clear FF
      refine hI1 rest'.length _ _ (by simp; omega) ⟨k + 1, rest', by simp [a0], by simp [a1], q2, q1, ?_, by simp at hkl; omega, hin', by omega, rfl⟩
      have h := congrArg (fun l => l.drop 1) hd
      simpa [List.drop_drop, Nat.add_comm] using h
    · have FF := fI @a0 (fI @a1 @a3); refine zx ?_; clear FF
      exact zT (x := .tup []) (.inr rfl) (by simp) (.inr q)
end Go.Proofs.YtpboabpapgimoaaGreat.Av.Zn
namespace Go.Proofs.YtpboabpapgimoaaGreat.Av.Zn
open Go
set_option linter.unusedSimpArgs false
set_option linter.unusedVariables false
set_option maxRecDepth 100000
set_option maxHeartbeats 4000000
set_option pp.maxSteps 300
theorem weaker_tup {a b : AV} {l : List AV} (h : Weaker a b) : Weaker (.tup (a :: l)) (.tup (b :: l)) := by
  intro S v hv
  simp only [VRel, LRel] at hv ⊢
  obtain ⟨m, e, u, us, h1, h2, h3⟩ := hv
  exact ⟨m, e, u, us, h1, h _ _ h2, h3⟩
theorem zoR {P : Program} {A : zD} {σ σ0 : St} {fn : Func} {e : Exit} {n : Nat} {v : AV} {es : List AV} {u : Value} (he : e = .normal ∨ e = .ret) (h : zaH P σ.m A fn.results = some (.tup [v, .raw u])) (hO : OwnL σ0 σ n v es) (hE : Ext σ0 σ) : RetP P fn σ0 (.tup [.sl n es false, .raw u]) e A σ := by
  have hm : ∀ i, σ0.m i ≠ none → σ.m i = σ0.m i := fun i hi => by
    obtain ⟨o, ho⟩ := Option.ne_none_iff_exists'.1 hi
    rw [ho]; exact hE.m i o ho
  rcases hO with ⟨rfl, rfl⟩ | ⟨j, rfl, hj, hmj, hn⟩
  · exact ⟨he, hE.nx, hm, _, h, weaker_tup za7⟩
  · refine ⟨he, hE.nx, hm, _, h, ?_⟩
    have e1 : zZ σ0.m σ.m (.tup [.rs j 0 es.length, .raw u]) = .tup [.sl n es false, .raw u] := by
      simp only [zZ, zw, hn, hmj, List.map_cons, List.map_nil]
      rw [if_pos (by simp), hj]; simp
    rw [e1]; exact Weaker.refl _
theorem zkM (z : List Rg) (full : Bool) {σ : St} : ACalls Tryz.prog 66 [zAV z full] σ fun r τ => ∃ i, r = .fn (.func 92) [] [.rp i 0 0] ∧ i.sz = 1 ∧ σ.m i = none ∧ τ.m i = some (.buf [zAV z full]) ∧ Ext σ τ := by
  refine zaL Tryz.func66 rfl (N := 4) rfl rfl (by simp) ?_
  have FF := zAV.eq_1; refine zx ?_; clear FF
  refine zT (x := .fn (.func 92) [] [.rp ⟨1, σ.nx 1, 1⟩ 0 0]) (.inr rfl) (by simp) ⟨_, rfl, rfl, zb _ _ _, by simp [zAV], Ext.new _ _ _ _⟩
theorem zsM : Cmp 64 fun r s => cmpI r.lo s.lo := ⟨zoQ⟩
theorem zsN : Sort.SWO (zq fun r s => cmpI r.lo s.lo) where
  irrefl := fun x => by simp [zq, cmpI]
  trans := fun x y z => by simp only [zq, decide_eq_true_eq, cmpI_neg]; omega
  ntrans := fun x y z => by simp only [zq, decide_eq_false_iff_not, cmpI_neg]; omega
theorem zfe (z : List Rg) (b : Bool) : noIds (zAV z b) := by
  simp only [noIds, zAV, AV.ids]
  induction z with
  | nil => simp [zV]
  | cons r z ih => simp only [List.map_cons, zV]; exact ⟨by simp [zl], ih⟩
theorem zpA (z : List Rg) (fz : Bool) (hz : InZ z) (hl : z.length < 2 ^ 38) (w : List Rg) (hw : ∀ z', z'.Perm z → zdW (fun r s => cmpI r.lo s.lo) z' → zbh z' = w) (ho : ∀ r ∈ z, r.lo ≤ r.hi) :
    PCalls Tryz.prog 32 [zAV z fz] (.tup [zAV w false, .raw (.int .i64 0)]) := by
  refine zE Tryz.func32 rfl (N := 19) rfl rfl (by simp) (by have := zfe w false; simpa [noIds] using this) fun σ => ?_
  have hany : z.any (fun r => decide (r.hi < r.lo)) = false := by
    rw [List.any_eq_false]
    intro r hr
    have := ho r hr
    simp; omega
  have hc := zem (g := 61) (p := fun r => decide (r.hi < r.lo)) z fz (by omega) fun r _ => zkn r
  rw [hany] at hc
  refine zaR ?_
  refine PCalls.use hc ?_
  refine zaR ?_
  refine (zlT z fz).mono ?_
  rintro _ τ1 ⟨i1, rfl, hi1n, hi1, hE1⟩
  refine zaR ?_
  refine (zih zsM zsN (zjN i1 (full := fz) (z := z) (by omega)) (by omega) hi1).mono ?_
  rintro _ τ2 ⟨hB2, z', hp, hs, rfl⟩
  have hE2 : Ext σ τ2 := ⟨fun l o h => hB2.m l o (fun e => by rw [e, hi1n] at h; cases h) (hE1.m l o h), fun s => Nat.le_trans (hE1.nx s) (hB2.nx s)⟩
  have hmz := hw z' hp hs
  have hz' : InZ z' := fun r hr => hz r (hp.mem_iff.1 hr)
  have hl' : z'.length < 2 ^ 38 := by rw [hp.length_eq]; exact hl
  have hwl : w.length < 2 ^ 38 := by
    rw [← hmz]
    cases z' with
    | nil => simp [zbh]
    | cons r l => have := zja l r; simp [zbh] at hl' ⊢; omega
  have hw0 : σ.m ⟨4, τ2.nx 4, 1⟩ = none := zN hE2
  have hwm : (τ2.new 4 1 (.buf [.sl 0 [] true])).m ⟨4, τ2.nx 4, 1⟩ = some (.buf [.sl 0 [] true]) := by simp
  refine zaR ?_
  refine (zkM z' false).mono ?_
  rintro _ τ3 ⟨i, rfl, his, hi0, hi, hE3⟩
  have hE : Ext σ τ3 := (hE2.trans (Ext.new _ _ _ _)).trans hE3
  have hi0' : σ.m i = none := by
    cases h : σ.m i with
    | none => rfl
    | some o => have := (hE2.trans (Ext.new τ2 4 1 (.buf [.sl 0 [] true]))).m i o h; rw [hi0] at this; cases this
  have hwi : (⟨4, τ2.nx 4, 1⟩ : Id) ≠ i := fun e => by rw [← e, hwm] at hi0; cases hi0
  have hwm := hE3.m _ _ hwm
  generalize (⟨4, τ2.nx 4, 1⟩ : Id) = wv at *
  refine zaR ?_
  refine zni (f := 92) (w := wv) (es0 := []) (n := 2) (by simp) (zjP i his (fz := false) hz' (by omega)) hE hi hi0' hwm hw0 hwi OwnL.nil ⟨by simp, by simp⟩ ?_ ?_
  · intro b lo L k x τ c hlo hL0 hLi hwL hx hG hc
    rw [hmz] at hx hG ⊢
    obtain ⟨r, hr, rfl⟩ : ∃ r, w[k]? = some r ∧ x = zl r := by
      rw [List.getElem?_map] at hx
      cases h : w[k]? with
      | none => rw [h] at hx; cases hx
      | some r => rw [h] at hx; injection hx with hx; exact ⟨r, rfl, hx.symm⟩
    have hk := (List.getElem?_eq_some_iff.1 hr).1
    refine YK.of hG.lp hlo rfl ?_
    clear hlo
    have h2 := hG.lp
    obtain ⟨g1, g2, g3, g4, v, g5, g6, g7⟩ := hG.start (slot := 5) (sz := 2) (x := .buf [zl r]) (lo2 := lo .busy none) hc hL0 hwL hLi
    (try ((first | with_reducible refine zo ?_ | with_reducible refine zt ?_ | with_reducible refine zu ?_); simp [-zC, h2, rg_cells, rg_fold])); repeat' (first | ((first | refine zf ?_ | refine zg ?_ | refine dN (by decide +kernel) ?_ | (refine za ?_ ?_ <;> (intro hg; simp only [hg])) | fail) <;> simp [-zC, h2, rg_cells, rg_fold]) | refine ze ?_ | refine zd ?_ | (refine zA ?_; simp only [zB]; try simp) | ((first | refine zm (by simp) ?_ | refine zv (by simp) (by simp) (by simp (maxDischargeDepth := 30) [-zC, h2, rg_cells, rg_fold]) ?_ | fail); simp) | (refine zc (fun hc => ?_) (fun hc => ?_) <;> try simp at hc) | fail)
    generalize (τ.new 5 2 (.buf [zl r])).set L (lo .busy none) = s at *
    generalize (⟨5, τ.nx 5, 2⟩ : Id) = r5 at *
    have hvc := g6.cells
    (try ((first | with_reducible refine zo ?_ | with_reducible refine zt ?_ | with_reducible refine zu ?_); simp [-zC, g1, g5, rg_cells, rg_fold, hvc])); repeat' (first | ((first | refine zg ?_ | refine dN (by decide +kernel) ?_ | (refine za ?_ ?_ <;> (intro hg; simp only [hg])) | fail) <;> simp [-zC, g1, g5, rg_cells, rg_fold, hvc]) | refine ze ?_ | refine zd ?_ | (refine zA ?_; simp only [zB]; try simp) | ((first | refine zm (by simp) ?_ | refine zv (by simp) (by simp) (by simp (maxDischargeDepth := 30) [-zC, g1, g5, rg_cells, rg_fold, hvc]) ?_ | fail); simp) | (apply zds; focus (simp [-zC, g1, g5, rg_cells, rg_fold, hvc]; done)) | (apply zdt; focus (simp [-zC, g1, g5, rg_cells, rg_fold, hvc]; done)) | fail)
    have hEs := Ext.new s 16 2 (.buf [zl r])
    refine za2 zf9 (g6.ext hEs) (g4.trans hEs) (ys := [zl r]) (by simp) (.inr rfl) (by simp [zl]) (by simp; omega) ?_
    intro v' τ2 hO2 hE2 hkeep hnx
    obtain ⟨k1, k2⟩ := hkeep _ _ (hEs.m _ _ g5) g7.1
    obtain ⟨k3, k4⟩ := hkeep _ _ (hEs.m _ _ g2) g7.2.1
    obtain ⟨k5, k6⟩ := hkeep _ _ (hEs.m _ _ g3) g7.2.2
    obtain ⟨f1, f2, f3⟩ := Gath.fin (lo2 := lo .ready none) hE2 k3 k1 k5 hO2 ⟨k2, k4, k6⟩ hw0 hL0 hwL hwi hLi
    have f2 : Gath σ wv L i 2 (lo .ready none) (List.take k (w.map zl) ++ [zl r]) ((τ2.set wv (.buf [v'])).set L (lo .ready none)) := f2
    have hvc2 := hO2.cells
    have hvo2 := hO2.cellOK
    simp only [cellOK] at hvo2
    have hsp := g6.setPart (x := v')
    have FF := fI @k1 (fI @hvc (fI @hvc2 (fI @hvo2 @hsp))); refine zx ?_; clear FF
    exact ⟨f1, by simpa using f2, f3⟩
  · rintro τ' hE' ⟨v, hv, hO⟩
    rw [hmz] at hO
    have hvc := hO.cells
    have FF := fI @hv @hvc; refine zx ?_; clear FF
    refine zoR (.inr rfl) (by simp) hO hE'
end Go.Proofs.YtpboabpapgimoaaGreat.Av.Zn
namespace Go.Proofs.YtpboabpapgimoaaGreat.Av.Zn
open Go
set_option linter.unusedSimpArgs false
set_option linter.unusedVariables false
set_option maxRecDepth 100000
set_option maxHeartbeats 4000000
set_option pp.maxSteps 300
end Go.Proofs.YtpboabpapgimoaaGreat.Av.Zn
namespace Go.Proofs.YtpboabpapgimoaaGreat.Av.Zn
open Go
set_option linter.unusedSimpArgs false
set_option linter.unusedVariables false
set_option maxRecDepth 100000
set_option maxHeartbeats 4000000
set_option pp.maxSteps 300
def allZ : List Rg := [⟨0, 4294967295⟩]
def zt5 : List (List Rg × Bool) → List Rg
  | [] => []
  | p :: l => p.1 ++ zt5 l
def pAV (p : List Rg × Bool) : AV := zAV p.1 p.2
theorem znN {n : Nat} {l : List AV} {f : Bool} (h : ∀ a ∈ l, noIds a) : noIds (.sl n l f) := by
  simp only [noIds, AV.ids]
  induction l with
  | nil => simp [zV]
  | cons a l ih => simp only [zV]; exact ⟨h a (by simp), ih fun b hb => h b (by simp [hb])⟩
end Go.Proofs.YtpboabpapgimoaaGreat.Av.Zn
namespace Go.Proofs.YtpboabpapgimoaaGreat.Av.Zn
open Go
set_option linter.unusedSimpArgs false
set_option linter.unusedVariables false
set_option maxRecDepth 100000
set_option maxHeartbeats 4000000
set_option pp.maxSteps 300
def iAV (n : Int) : AV := .raw (.int .i64 n)
def inAV (l : List Int) (b : Bool) : AV := .sl 1 (l.map iAV) b
theorem znO (z : List Int) (b : Bool) : noIds (inAV z b) := znN fun a ha => by
  obtain ⟨x, _, rfl⟩ := List.mem_map.1 ha
  simp [noIds, iAV]
def zaF (l : List Rg) : List Int := 0 :: l.flatMap fun r => [r.lo, r.hi + 1]
def zak (all : List Int) (last : Int) : Int := all.foldl (fun next a => if last < a ∧ a < next then a else next) 4294967296
def zar (all : List Int) : Nat → Int → List Int
  | 0, _ => []
  | n + 1, last => if zak all last ≤ 4294967295 then zak all last :: zar all n (zak all last) else []
theorem zlV {l : List Rg} {i : Nat} {r : Rg} (h : l[i]? = some r) : zaF (l.take (i + 1)) = zaF (l.take i) ++ [r.lo, r.hi + 1] := by
  unfold zaF
  rw [List.take_add_one, h]; simp
theorem zd9 (l : List Rg) : (zaF l).length = 1 + 2 * l.length := by
  unfold zaF
  induction l with
  | nil => rfl
  | cons r l ih => simp at ih ⊢; omega
def zbn (all : List Int) (last : Int) : Nat := (all.filter fun a => decide (last < a) && decide (a < 4294967296)).length
theorem ze4 (all : List Int) (last : Int) : ∀ (l : List Int) (x : Int), (∀ a ∈ l, a ∈ all) → (x = 4294967296 ∨ (x ∈ all ∧ last < x ∧ x < 4294967296)) → x ≤ 4294967296 →
    let y := l.foldl (fun next a => if last < a ∧ a < next then a else next) x
    (y = 4294967296 ∨ (y ∈ all ∧ last < y ∧ y < 4294967296)) ∧ y ≤ x ∧ ∀ a ∈ l, last < a → y ≤ a
  | [], x, _, h, hx => ⟨h, Int.le_refl _, fun a h => by cases h⟩
  | b :: l, x, hl, h, hx => by
    simp only [List.foldl_cons]
    by_cases hb : last < b ∧ b < x
    · rw [if_pos hb]
      obtain ⟨h1, h2, h3⟩ := ze4 all last l b (fun a ha => hl a (by simp [ha])) (.inr ⟨hl b (by simp), hb.1, by omega⟩) (by omega)
      refine ⟨h1, by omega, fun a ha h => ?_⟩
      rcases List.mem_cons.1 ha with rfl | ha
      · exact h2
      · exact h3 a ha h
    · rw [if_neg hb]
      obtain ⟨h1, h2, h3⟩ := ze4 all last l x (fun a ha => hl a (by simp [ha])) h hx
      refine ⟨h1, h2, fun a ha h => ?_⟩
      rcases List.mem_cons.1 ha with rfl | ha
      · omega
      · exact h3 a ha h
theorem zje (all : List Int) (last : Int) : (zak all last = 4294967296 ∨ (zak all last ∈ all ∧ last < zak all last ∧ zak all last < 4294967296)) ∧ zak all last ≤ 4294967296 ∧ ∀ a ∈ all, last < a → zak all last ≤ a :=
  ze4 all last all 4294967296 (fun _ h => h) (.inl rfl) (Int.le_refl _)
theorem zdX {all : List Int} {last : Int} (h : zak all last ≤ 4294967295) : zbn all (zak all last) < zbn all last := by
  obtain ⟨h1, h2, h3⟩ := zje all last
  have h1 := h1.resolve_left (by omega)
  unfold zbn
  generalize zak all last = x at *
  have hsub : ∀ l : List Int, (l.filter fun a => decide (x < a) && decide (a < 4294967296)).length ≤ (l.filter fun a => decide (last < a) && decide (a < 4294967296)).length := by
    intro l
    induction l with
    | nil => simp
    | cons a l ih =>
      simp only [List.filter_cons]
      by_cases ha : x < a ∧ a < 4294967296
      · have : last < a := by omega
        simp [ha.1, ha.2, this, ih]
      · have hn : (decide (x < a) && decide (a < 4294967296)) = false := by
          simp only [Bool.and_eq_false_iff, decide_eq_false_iff_not]; omega
        rw [hn]
        simp only [Bool.false_eq_true, if_false]
        split
        · simp; omega
        · exact ih
  obtain ⟨s, t, rfl⟩ := List.append_of_mem h1.1
  rw [List.filter_append, List.filter_append, List.length_append, List.length_append]
  have e1 := hsub s
  have e2 := hsub t
  simp only [List.filter_cons]
  have hn : (decide (x < x) && decide (x < 4294967296)) = false := by simp
  have hy : (decide (last < x) && decide (x < 4294967296)) = true := by simp [h1.2.1, h1.2.2]
  rw [hn, hy]
  simp
  omega
theorem zgy (all : List Int) : ∀ (n m : Nat) (last : Int), zbn all last ≤ n → zbn all last ≤ m → zar all n last = zar all m last
  | 0, 0, _, _, _ => rfl
  | 0, m + 1, last, h, _ => by
    unfold zar
    split
    · rename_i hc; have := zdX hc; omega
    · rfl
  | n + 1, 0, last, _, h => by
    unfold zar
    split
    · rename_i hc; have := zdX hc; omega
    · rfl
  | n + 1, m + 1, last, h1, h2 => by
    unfold zar
    split
    · rename_i hc
      have := zdX hc
      rw [zgy all n m _ (by omega) (by omega)]
    · rfl
def zbC (l : List Rg) : List Int := zar (zaF l) (zbn (zaF l) (-1)) (-1)
theorem zlW (all : List Int) (last : Int) : zbn all last ≤ all.length := List.length_filter_le _ _
theorem ze5 (all : List Int) : ∀ (n : Nat) (last : Int), (zar all n last).length ≤ n
  | 0, _ => by simp [zar]
  | n + 1, last => by
    unfold zar
    split
    · have := ze5 all n (zak all last); simp; omega
    · simp
theorem zlX {all : List Int} {last : Int} {i : Nat} {a : Int} (h : all[i]? = some a) : zak (all.take (i + 1)) last = if last < a ∧ a < zak (all.take i) last then a else zak (all.take i) last := by
  unfold zak
  rw [List.take_add_one, h, List.foldl_append]
  rfl
end Go.Proofs.YtpboabpapgimoaaGreat.Av.Zn
namespace Go.Proofs.YtpboabpapgimoaaGreat.Av.Zn
open Go
set_option linter.unusedSimpArgs false
set_option linter.unusedVariables false
set_option maxRecDepth 100000
set_option maxHeartbeats 4000000
set_option pp.maxSteps 300
theorem zkN {all : List Int} {last : Int} (h : zak all last ≤ 4294967295) : zar all (zbn all last) last = zak all last :: zar all (zbn all (zak all last)) (zak all last) := by
  have hlt := zdX h
  obtain ⟨n, hn⟩ : ∃ n, zbn all last = n + 1 := ⟨zbn all last - 1, by omega⟩
  rw [hn, zar, if_pos h, zgy all n (zbn all (zak all last)) _ (by omega) (Nat.le_refl _)]
theorem zkO {all : List Int} {last : Int} (h : ¬ zak all last ≤ 4294967295) : zar all (zbn all last) last = [] := by
  cases zbn all last with
  | zero => rfl
  | succ n => rw [zar, if_neg h]
theorem znP (l : List Rg) (f : Bool) (hz : InZ l) (hl : l.length < 2 ^ 30) : PCalls Tryz.prog 53 [zAV l f] (inAV (zbC l) false) := by
  refine zE Tryz.func53 rfl (N := 67) rfl rfl (by simp) (znO _ _) fun σ => ?_
  refine zaR ?_
  refine za8 (fun A τ => OwnL σ τ 1 (A 3) ((zaF l).map iAV) ∧ Ext σ τ) ?_ ?_
  · intro R1 hR1
    refine zU (fun n A τ => ∃ (i : Nat) (v : AV), A 0 = zAV l f ∧ A 4 = .raw (.int .i64 i) ∧ A 3 = v ∧ OwnL σ τ 1 v ((zaF (l.take i)).map iAV) ∧ Ext σ τ ∧ i ≤ l.length ∧ n = l.length - i) l.length ?_ ?_
    · exact ⟨0, .rs ⟨10, σ.nx 10, 1⟩ 0 1, by simp, by simp, by simp, OwnL.of rfl (by simp [zaF, iAV]) (zb _ _ _) (by simp [zaF]), Ext.new _ _ _ _, by omega, by omega⟩
    rintro n A τ ⟨i, v, a0, a4, a3, hO, hE, hi, rfl⟩ I1 hI1
    by_cases hlt : i < l.length
    · have hx : l[i]? = some l[i] := List.getElem?_eq_getElem hlt
      obtain ⟨x1, x2, x3, x4⟩ := hz l[i] (List.getElem_mem _)
      have ht := zlV hx
      have hlen := zd9 (l.take i)
      rw [List.length_take, Nat.min_eq_left hi] at hlen
      have w1 : IntKind.i64.wrap ((i : Int) + 1) = ((i + 1 : Nat) : Int) := by rw [zh (by omega) (by omega)]; omega
      have w2 : IntKind.i64.wrap l[i].lo = l[i].lo := zh (by omega) (by omega)
      have w3 : IntKind.i64.wrap l[i].hi = l[i].hi := zh (by omega) (by omega)
      have w4 : IntKind.i64.wrap (l[i].hi + 1) = l[i].hi + 1 := zh (by omega) (by omega)
      (try ((first | with_reducible refine zo ?_ | with_reducible refine zt ?_ | with_reducible refine zu ?_); simp [-zC, a0, a4, a3, zAV, zl, hlt, hx, w2, w3, w4])); repeat' (first | ((first | refine zg ?_ | refine dN (by decide +kernel) ?_ | (refine za ?_ ?_ <;> (intro hg; simp only [hg])) | fail) <;> simp [-zC, a0, a4, a3, zAV, zl, hlt, hx, w2, w3, w4]) | refine ze ?_ | refine zd ?_ | (refine zA ?_; simp only [zB]; try simp) | ((first | refine zm (by simp) ?_ | refine zv (by simp) (by simp) (by simp (maxDischargeDepth := 30) [-zC, a0, a4, a3, zAV, zl, hlt, hx, w2, w3, w4]) ?_ | fail); simp) | (apply zds; focus (simp [-zC, a0, a4, a3, zAV, zl, hlt, hx, w2, w3, w4]; done)) | (apply zdt; focus (simp [-zC, a0, a4, a3, zAV, zl, hlt, hx, w2, w3, w4]; done)) | fail)
      have hE31 := Ext.new τ 31 1 (.buf [.raw (.int .i64 l[i].lo), .raw (.int .i64 (l[i].hi + 1))])
      refine za2 znl (hO.ext hE31) (hE.trans hE31) (ys := [iAV l[i].lo, iAV (l[i].hi + 1)]) (by simp [iAV]) (.inr rfl) (by simp [iAV]) (by simp; omega) ?_
      intro v' τ2 hO2 hE2 hkeep hnx
      have hO3 : OwnL σ τ2 1 v' ((zaF (l.take (i + 1))).map iAV) := by rw [ht]; simpa using hO2
      clear hkeep
      have FF := fI @a0 (fI @a4 @w1); refine zx ?_; clear FF
      exact hI1 (l.length - (i + 1)) _ _ (by omega) ⟨i + 1, v', by simp [a0, zAV, zl], by simp, by simp, hO3, hE2, by omega, rfl⟩
    · have : i = l.length := by omega
      subst this
      rw [List.take_length] at hO
      have FF := fI @a0 (fI @a4 zAV.eq_1); refine zx ?_; clear FF
      exact hR1 _ _ ⟨by simp [a3]; exact hO, hE⟩
  · rintro A τ ⟨hO, hE⟩
    refine ziV 3 hO hE ?_
    rintro A τ hE a3 - - - - -
    have a3 : A 3 = inAV (zaF l) false := a3
    have hcut : zar (zaF l) (zbn (zaF l) (-1)) (-1) = zbC l := rfl
    have hcl : (zbC l).length ≤ 1 + 2 * l.length := Nat.le_trans (ze5 _ _ _) (by have := zlW (zaF l) (-1); rw [zd9] at this; exact this)
    have hall : (zaF l).length ≤ 2 ^ 32 := by rw [zd9]; omega
    generalize zbC l = C at *
    generalize zaF l = all at *
    clear hO
    have w0 : IntKind.i64.wrap (-1) = -1 := zh (by omega) (by omega)
    have FF := fI @a3 @w0; refine zx ?_; clear FF
    refine za8 (fun A τ => OwnL σ τ 1 (A 5) (C.map iAV) ∧ Ext σ τ) ?_ ?_
    · intro R1 hR1
      refine zU (fun n A τ => ∃ (last : Int) (v : AV) (out : List Int), A 3 = inAV all false ∧ A 5 = v ∧ A 6 = .raw (.int .i64 last) ∧ OwnL σ τ 1 v (out.map iAV) ∧ Ext σ τ ∧ out.length ≤ C.length ∧
        ((A 7 = .raw (.bool true) ∧ out ++ zar all (zbn all last) last = C ∧ n = zbn all last + 1) ∨ (A 7 = .raw (.bool false) ∧ out = C ∧ n = 0))) (zbn all (-1) + 1) ?_ ?_
      · exact ⟨-1, .sl 0 [] true, [], by simp [a3], by simp, by simp, OwnL.nil, hE, by simp, .inl ⟨by simp, hcut, rfl⟩⟩
      clear a3 hE
      rintro n A τ ⟨last, v, out, a3, a5, a6, hO, hE, hol, ⟨a7, hc, rfl⟩ | ⟨a7, rfl, rfl⟩⟩ I1 hI1
      · have FF := fI @a3 (fI @a5 (fI @a6 @a7)); refine zx ?_; clear FF
        refine za8 (fun A' τ' => A' 3 = inAV all false ∧ A' 5 = v ∧ A' 6 = .raw (.int .i64 last) ∧ A' 8 = .raw (.int .i64 (zak all last)) ∧ τ' = τ) ?_ ?_
        · intro R2 hR2
          refine zU (fun n A' τ' => ∃ i : Nat, A' 3 = inAV all false ∧ A' 5 = v ∧ A' 6 = .raw (.int .i64 last) ∧ A' 9 = .raw (.int .i64 i) ∧ A' 8 = .raw (.int .i64 (zak (all.take i) last)) ∧ τ' = τ ∧ i ≤ all.length ∧ n = all.length - i) all.length ?_ ?_
          · exact ⟨0, by simp [a3], by simp [a5], by simp [a6], by simp, by simp [zak], rfl, by omega, by omega⟩
          clear a3 a5 a6 a7
          rintro n A' τ' ⟨i, a3, a5, a6, a9, a8, rfl, hi, rfl⟩ I2 hI2
          by_cases hlt : i < all.length
          · have hx : all[i]? = some all[i] := List.getElem?_eq_getElem hlt
            have ht := zlX (last := last) hx
            have w1 : IntKind.i64.wrap ((i : Int) + 1) = ((i + 1 : Nat) : Int) := by rw [zh (by omega) (by omega)]; omega
            generalize zak (all.take i) last = x at *
            have hic : ∀ n, (iAV n).cells = [iAV n] := fun n => rfl
            by_cases c1 : last < all[i]
            · by_cases c2 : all[i] < x
              · rw [if_pos ⟨c1, c2⟩] at ht
                (try ((first | with_reducible refine zo ?_ | with_reducible refine zt ?_ | with_reducible refine zu ?_); simp [a3, a5, a6, a9, a8, inAV, iAV, hlt, c1, c2, w1])); repeat' (first | ((first | refine zf ?_ | refine zg ?_ | refine dN (by decide +kernel) ?_ | (refine za ?_ ?_ <;> (intro hg; simp only [hg])) | fail) <;> simp [a3, a5, a6, a9, a8, inAV, iAV, hlt, c1, c2, w1]) | refine ze ?_ | refine zd ?_ | (refine zA ?_; simp only [zB]; try simp) | ((first | refine zm (by simp) ?_ | refine zv (by simp) (by simp) (by simp (maxDischargeDepth := 30) [a3, a5, a6, a9, a8, inAV, iAV, hlt, c1, c2, w1]) ?_ | fail); simp) | (refine zc (fun hc => ?_) (fun hc => ?_) <;> try simp at hc) | fail)
                exact hI2 (all.length - (i + 1)) _ _ (by omega) ⟨i + 1, by simp [a3, inAV, iAV], by simp [a5], by simp [a6], by simp, by simp [ht], rfl, by omega, rfl⟩
              · rw [if_neg (fun h => c2 h.2)] at ht
                (try ((first | with_reducible refine zo ?_ | with_reducible refine zt ?_ | with_reducible refine zu ?_); simp [a3, a5, a6, a9, a8, inAV, iAV, hlt, c1, c2, w1])); repeat' (first | ((first | refine zf ?_ | refine zg ?_ | refine dN (by decide +kernel) ?_ | (refine za ?_ ?_ <;> (intro hg; simp only [hg])) | fail) <;> simp [a3, a5, a6, a9, a8, inAV, iAV, hlt, c1, c2, w1]) | refine ze ?_ | refine zd ?_ | (refine zA ?_; simp only [zB]; try simp) | ((first | refine zm (by simp) ?_ | refine zv (by simp) (by simp) (by simp (maxDischargeDepth := 30) [a3, a5, a6, a9, a8, inAV, iAV, hlt, c1, c2, w1]) ?_ | fail); simp) | (refine zc (fun hc => ?_) (fun hc => ?_) <;> try simp at hc) | fail)
                exact hI2 (all.length - (i + 1)) _ _ (by omega) ⟨i + 1, by simp [a3, inAV, iAV], by simp [a5], by simp [a6], by simp, by simp [a8, ht], rfl, by omega, rfl⟩
            · rw [if_neg (fun h => c1 h.1)] at ht
              (try ((first | with_reducible refine zo ?_ | with_reducible refine zt ?_ | with_reducible refine zu ?_); simp [a3, a5, a6, a9, a8, inAV, iAV, hlt, c1, w1])); repeat' (first | ((first | refine zf ?_ | refine zg ?_ | refine dN (by decide +kernel) ?_ | (refine za ?_ ?_ <;> (intro hg; simp only [hg])) | fail) <;> simp [a3, a5, a6, a9, a8, inAV, iAV, hlt, c1, w1]) | refine ze ?_ | refine zd ?_ | (refine zA ?_; simp only [zB]; try simp) | ((first | refine zm (by simp) ?_ | refine zv (by simp) (by simp) (by simp (maxDischargeDepth := 30) [a3, a5, a6, a9, a8, inAV, iAV, hlt, c1, w1]) ?_ | fail); simp) | (refine zc (fun hc => ?_) (fun hc => ?_) <;> try simp at hc) | fail)
              exact hI2 (all.length - (i + 1)) _ _ (by omega) ⟨i + 1, by simp [a3, inAV, iAV], by simp [a5], by simp [a6], by simp, by simp [a8, ht], rfl, by omega, rfl⟩
          · have : i = all.length := by omega
            subst this
            rw [List.take_length] at a8
            have FF := fI @a3 (fI @a5 (fI @a6 (fI @a9 (fI @a8 inAV.eq_1)))); refine zx ?_; clear FF
            exact hR2 _ _ ⟨by simp [a3, inAV], by simp [a5], by simp [a6], by simp [a8], rfl⟩
        · clear a3 a5 a6 a7
          rintro A τ' ⟨a3, a5, a6, a8, rfl⟩
          by_cases hn : zak all last ≤ 4294967295
          · have hlt := zdX hn
            rw [zkN hn] at hc
            generalize zak all last = x at *
            have hlc := congrArg List.length hc
            simp only [List.length_append, List.length_cons] at hlc
            (try ((first | with_reducible refine zo ?_ | with_reducible refine zt ?_ | with_reducible refine zu ?_); simp [-zC, a3, a5, a6, a8, hn])); repeat' (first | ((first | refine zg ?_ | refine dN (by decide +kernel) ?_ | (refine za ?_ ?_ <;> (intro hg; simp only [hg])) | fail) <;> simp [-zC, a3, a5, a6, a8, hn]) | refine ze ?_ | refine zd ?_ | (refine zA ?_; simp only [zB]; try simp) | ((first | refine zm (by simp) ?_ | refine zv (by simp) (by simp) (by simp (maxDischargeDepth := 30) [-zC, a3, a5, a6, a8, hn]) ?_ | fail); simp) | (apply zds; focus (simp [-zC, a3, a5, a6, a8, hn]; done)) | (apply zdt; focus (simp [-zC, a3, a5, a6, a8, hn]; done)) | fail)
            have hE63 := Ext.new τ' 63 1 (.buf [.raw (.int .i64 x)])
            refine za2 znl (hO.ext hE63) (hE.trans hE63) (ys := [iAV x]) (by simp [iAV]) (.inr rfl) (by simp [iAV]) (by simp; omega) ?_
            intro v' τ2 hO2 hE2 hkeep hnx
            have hO3 : OwnL σ τ2 1 v' ((out ++ [x]).map iAV) := by simpa using hO2
            clear hkeep
            have FF := fI @a3 @a8; refine zx ?_; clear FF
            exact hI1 (zbn all x + 1) _ _ (by omega) ⟨x, v', out ++ [x], by simp [a3], by simp, by simp, hO3, hE2, by simp; omega, .inl ⟨by simp, by simpa using hc, rfl⟩⟩
          · rw [zkO hn, List.append_nil] at hc
            subst hc
            generalize zak all last = x at *
            have FF := fI @a3 (fI @a5 (fI @a6 (fI @a8 @hn))); refine zx ?_; clear FF
            exact hI1 0 _ _ (by omega) ⟨last, v, out, by simp [a3], by simp [a5], by simp [a6], hO, hE, Nat.le_refl _, .inr ⟨by simp, rfl, rfl⟩⟩
      · have FF := fI @a3 (fI @a5 (fI @a6 @a7)); refine zx ?_; clear FF
        exact hR1 _ _ ⟨by simp [a5]; exact hO, hE⟩
    · rintro A τ ⟨hO, hE⟩
      generalize ha5 : A 5 = v at *
      have FF := @ha5; refine goC ?_; clear FF
      exact zh3 (.inr rfl) (by simp) hO hE
end Go.Proofs.YtpboabpapgimoaaGreat.Av.Zn
namespace Go.Proofs.YtpboabpapgimoaaGreat.Av.Zn
open Go
set_option linter.unusedSimpArgs false
set_option linter.unusedVariables false
set_option maxRecDepth 100000
set_option maxHeartbeats 4000000
set_option pp.maxSteps 300
def zcd (C : List Int) (i : Nat) : Int := match C[i + 1]? with | some x => x - 1 | none => 4294967295
theorem zoS (C : List Int) (f : Bool) (i : Nat) (hl : C.length < 2 ^ 60) (hi : i < 2 ^ 60) (hC : ∀ x ∈ C, 0 ≤ x ∧ x ≤ 4294967296) : PCalls Tryz.prog 54 [inAV C f, .raw (.int .i64 i)] (.raw (.int .i64 (zcd C i))) := by
  refine zE Tryz.func54 rfl (N := 16) rfl rfl (by simp) (by simp [noIds]) fun σ => ?_
  have w1 : IntKind.i64.wrap ((i : Int) + 1) = ((i + 1 : Nat) : Int) := by rw [zh (by omega) (by omega)]; omega
  obtain ⟨k, hk⟩ : ∃ k, i + 1 = k := ⟨_, rfl⟩
  rw [hk] at w1
  unfold zcd
  rw [hk]
  by_cases hlt : k < C.length
  · have hx : C[k]? = some C[k] := List.getElem?_eq_getElem hlt
    obtain ⟨x1, x2⟩ := hC C[k] (List.getElem_mem _)
    have w2 : IntKind.i64.wrap (C[k] - 1) = C[k] - 1 := zh (by omega) (by omega)
    (try ((first | with_reducible refine zo ?_ | with_reducible refine zt ?_ | with_reducible refine zu ?_); simp [inAV, iAV, w1, hlt, w2])); repeat' (first | ((first | refine zf ?_ | refine zg ?_ | refine dN (by decide +kernel) ?_ | (refine za ?_ ?_ <;> (intro hg; simp only [hg])) | fail) <;> simp [inAV, iAV, w1, hlt, w2]) | refine ze ?_ | refine zd ?_ | (refine zA ?_; simp only [zB]; try simp) | ((first | refine zm (by simp) ?_ | refine zv (by simp) (by simp) (by simp (maxDischargeDepth := 30) [inAV, iAV, w1, hlt, w2]) ?_ | fail); simp) | (refine zc (fun hc => ?_) (fun hc => ?_) <;> try simp at hc) | fail)
  · have hx : C[k]? = none := List.getElem?_eq_none (by omega)
    rw [hx]
    have FF := fI inAV.eq_1 (fI iAV.eq_1 (fI @w1 @hlt)); exact goA
def joinZ (z : List Rg) (f t : Int) : List Rg :=
  match z[z.length - 1]? with
  | some r => if r.hi + 1 = f then z.set (z.length - 1) ⟨r.lo, t⟩ else z ++ [⟨f, t⟩]
  | none => z ++ [⟨f, t⟩]
theorem joinZ_len (z : List Rg) (f t : Int) : (joinZ z f t).length ≤ z.length + 1 := by
  unfold joinZ
  split
  · split <;> simp
  · simp
theorem zpB {z : List Rg} {f t : Int} (hz : InZ z) (hf : 0 ≤ f ∧ f < 4294967296) (ht : 0 ≤ t ∧ t < 4294967296) : InZ (joinZ z f t) := by
  unfold joinZ
  have hn : InZ (z ++ [⟨f, t⟩]) := fun s hs => by
    rcases List.mem_append.1 hs with hs | hs
    · exact hz s hs
    · simp only [List.mem_singleton] at hs; subst hs; exact ⟨hf.1, hf.2, ht.1, ht.2⟩
  split
  · rename_i r hr
    have hrz := hz r (List.mem_of_getElem? hr)
    split
    · intro s hs
      rcases List.mem_or_eq_of_mem_set hs with h | h
      · exact hz s h
      · subst h; exact ⟨hrz.1, hrz.2.1, ht.1, ht.2⟩
    · exact hn
  · exact hn
theorem znQ {σ0 σ : St} {v : AV} {z : List Rg} {f t : Int} (hE : Ext σ0 σ) (hO : OwnL σ0 σ 2 v (z.map zl)) (hz : InZ z) (hf : 0 ≤ f ∧ f < 4294967296) (ht : 0 ≤ t ∧ t < 4294967296) (hl : z.length < 2 ^ 36) :
    ACalls Tryz.prog 36 [v, .raw (.int .i64 f), .raw (.int .i64 t)] σ fun v' τ => OwnL σ0 τ 2 v' ((joinZ z f t).map zl) ∧ Ext σ0 τ := by
  refine zaL Tryz.func36 rfl (N := 40) rfl rfl (by simp) ?_
  have wf : IntKind.u32.wrap f = f := zeD (by omega) (by omega)
  have wt : IntKind.u32.wrap t = t := zeD (by omega) (by omega)
  have app : ∀ τ : St, τ = σ.new 38 2 (.buf [zl ⟨f, t⟩]) → ∀ k : AV → St → Prop, (∀ v' τ', OwnL σ0 τ' 2 v' ((z ++ [(⟨f, t⟩ : Rg)]).map zl) → Ext σ0 τ' → k v' τ') →
      OKr (zC Tryz.prog τ.m 31 v (.rs ⟨38, σ.nx 38, 2⟩ 0 1)) (Res.go 39 τ k) := by
    rintro τ rfl k hk
    have hE38 := Ext.new σ 38 2 (.buf [zl ⟨f, t⟩])
    refine za2 zf9 (hO.ext hE38) (hE.trans hE38) (ys := [zl ⟨f, t⟩]) (by simp) (.inr rfl) (by simp [zl]) (by simp; omega) ?_
    intro v' τ' h1 h2 _ _
    exact hk v' τ' (by simpa using h1) h2
  rcases Nat.eq_zero_or_pos z.length with h0 | hpos
  · have hz0 : z = [] := List.eq_nil_of_length_eq_zero h0
    subst hz0
    have hj : joinZ [] f t = [] ++ [⟨f, t⟩] := rfl
    rw [hj]
    rcases hO with ⟨_, rfl⟩ | ⟨j, rfl, hjs, hm, hn⟩
    · (try ((first | with_reducible refine zo ?_ | with_reducible refine zt ?_ | with_reducible refine zu ?_); simp [-zC, wf, wt])); repeat' (first | ((first | refine zf ?_ | refine zg ?_ | refine dN (by decide +kernel) ?_ | (refine za ?_ ?_ <;> (intro hg; simp only [hg])) | fail) <;> simp [-zC, wf, wt]) | refine ze ?_ | refine zd ?_ | (refine zA ?_; simp only [zB]; try simp) | (refine zc (fun hc => ?_) (fun hc => ?_) <;> try simp at hc) | fail)
      refine app _ rfl _ fun v' τ' h1 h2 => ?_
      refine znn ?_
      exact zT (x := v') (.inr rfl) (by simp) ⟨h1, h2⟩
    · (try ((first | with_reducible refine zo ?_ | with_reducible refine zt ?_ | with_reducible refine zu ?_); simp [-zC, wf, wt])); repeat' (first | ((first | refine zf ?_ | refine zg ?_ | refine dN (by decide +kernel) ?_ | (refine za ?_ ?_ <;> (intro hg; simp only [hg])) | fail) <;> simp [-zC, wf, wt]) | refine ze ?_ | refine zd ?_ | (refine zA ?_; simp only [zB]; try simp) | (refine zc (fun hc => ?_) (fun hc => ?_) <;> try simp at hc) | fail)
      refine app _ rfl _ fun v' τ' h1 h2 => ?_
      refine znn ?_
      exact zT (x := v') (.inr rfl) (by simp) ⟨h1, h2⟩
  · obtain ⟨k, hk⟩ : ∃ k, z.length = k + 1 := ⟨z.length - 1, by omega⟩
    have hx : z[k]? = some (z[k]'(by omega)) := List.getElem?_eq_getElem (by omega)
    obtain ⟨x1, x2, x3, x4⟩ := hz (z[k]'(by omega)) (List.getElem_mem _)
    have hj : joinZ z f t = if (z[k]'(by omega)).hi + 1 = f then z.set k ⟨(z[k]'(by omega)).lo, t⟩ else z ++ [⟨f, t⟩] := by
      unfold joinZ
      rw [show z.length - 1 = k by omega, hx]
    rw [hj]
    generalize z[k]'(by omega) = r at *
    rcases hO with ⟨hz0, rfl⟩ | ⟨j, rfl, hjs, hm, hn⟩
    · simp at hz0; subst hz0; simp at hk
    · rw [List.length_map, hk] at app ⊢
      have w1 : IntKind.i64.wrap (k : Int) = (k : Int) := zh (by omega) (by omega)
      have w2 : IntKind.i64.wrap r.hi = r.hi := zh (by omega) (by omega)
      have w3 : IntKind.i64.wrap (r.hi + 1) = r.hi + 1 := zh (by omega) (by omega)
      have w4 : IntKind.i64.wrap f = f := zh (by omega) (by omega)
      have c1 : (0 : Int) < (k : Int) + 1 := by omega
      have c2 : (k : Int) < (k : Int) + 1 := by omega
      have hsp : setPart (zl r) 1 [AV.raw (.int .u32 t)] = zl ⟨r.lo, t⟩ := rfl
      have hm' : σ.m j = some (.buf (z.map zl)) := hm
      by_cases hc : r.hi + 1 = f
      · rw [if_pos hc]
        (try ((first | with_reducible refine zo ?_ | with_reducible refine zt ?_ | with_reducible refine zu ?_); simp [-zC, wf, wt, w1, w2, w3, w4, c1, c2, hm', hx, hjs, rg_cells, hc])); repeat' (first | ((first | refine zf ?_ | refine zg ?_ | refine dN (by decide +kernel) ?_ | (refine za ?_ ?_ <;> (intro hg; simp only [hg])) | fail) <;> simp [-zC, wf, wt, w1, w2, w3, w4, c1, c2, hm', hx, hjs, rg_cells, hc]) | refine ze ?_ | refine zd ?_ | (refine zA ?_; simp only [zB]; try simp) | (refine zc (fun hc => ?_) (fun hc => ?_) <;> try simp at hc) | fail)
        refine zT (x := .rs j 0 (k + 1)) (.inr rfl) (by simp) ⟨OwnL.of hjs (by simp [hm', hsp]) hn (by simp [hk]), ⟨fun i o h => ?_, hE.nx⟩⟩
        rw [zy (fun e => by rw [e, hn] at h; cases h)]; exact hE.m i o h
      · rw [if_neg hc]
        (try ((first | with_reducible refine zo ?_ | with_reducible refine zt ?_ | with_reducible refine zu ?_); simp [-zC, wf, wt, w1, w2, w3, w4, c1, c2, hm', hx, hjs, rg_cells, hc])); repeat' (first | ((first | refine zf ?_ | refine zg ?_ | refine dN (by decide +kernel) ?_ | (refine za ?_ ?_ <;> (intro hg; simp only [hg])) | fail) <;> simp [-zC, wf, wt, w1, w2, w3, w4, c1, c2, hm', hx, hjs, rg_cells, hc]) | refine ze ?_ | refine zd ?_ | (refine zA ?_; simp only [zB]; try simp) | (refine zc (fun hc => ?_) (fun hc => ?_) <;> try simp at hc) | fail)
        refine app _ rfl _ fun v' τ' h1 h2 => ?_
        refine znn ?_
        exact zT (x := v') (.inr rfl) (by simp) ⟨by simpa using h1, h2⟩
def za4 (p : Int → Bool) (C : List Int) : Nat → List Rg
  | 0 => []
  | i + 1 => match C[i]? with
    | some c => if p c then joinZ (za4 p C i) c (zcd C i) else za4 p C i
    | none => za4 p C i
theorem zko (p : Int → Bool) (C : List Int) : ∀ i, (za4 p C i).length ≤ i
  | 0 => by simp [za4]
  | i + 1 => by
    have := zko p C i
    unfold za4
    split
    · split
      · rename_i c _ _; have := joinZ_len (za4 p C i) c (zcd C i); omega
      · omega
    · omega
theorem zlY {C : List Int} (hC : ∀ x ∈ C, 0 ≤ x ∧ x < 4294967296) (hp : ∀ i x, C[i + 1]? = some x → 0 < x) (i : Nat) : 0 ≤ zcd C i ∧ zcd C i < 4294967296 := by
  unfold zcd
  split
  · rename_i x hx
    have h1 := hC x (List.mem_of_getElem? hx)
    have h2 := hp i x hx
    omega
  · omega
theorem zgo {p : Int → Bool} {C : List Int} (hC : ∀ x ∈ C, 0 ≤ x ∧ x < 4294967296) (hp : ∀ i x, C[i + 1]? = some x → 0 < x) : ∀ i, InZ (za4 p C i)
  | 0 => by intro r h; simp [za4] at h
  | i + 1 => by
    have ih := zgo (p := p) hC hp i
    unfold za4
    split
    · rename_i c hc
      split
      · exact zpB ih (hC c (List.mem_of_getElem? hc)) (zlY hC hp i)
      · exact ih
    · exact ih
theorem zjf {P : Program} {f : FuncId} {as_ bs : List AV} {σ : St} {K : AV → St → Prop} (hw : ∀ S vs, LRel S as_ vs → LRel S bs vs) (h : ACalls P f bs σ K) : ACalls P f as_ σ K :=
  ⟨h.1, fun S vs hS hl => h.2 S vs hS (hw S vs hl)⟩
theorem zpC {a b : AV} (h : Weaker a b) : ∀ S vs, LRel S [a] vs → LRel S [b] vs := fun S vs hl => by
  simp only [LRel] at hl ⊢
  obtain ⟨v, us, e, h1, h2⟩ := hl
  exact ⟨v, us, e, h _ _ h1, h2⟩
theorem _root_.Go.Proofs.YtpboabpapgimoaaGreat.Av.PCalls.useOwn {P : Program} {f : FuncId} {σ0 σ : St} {n : Nat} {v r : AV} {es : List AV} {K : AV → St → Prop} (h : PCalls P f [.sl n es false] r) (hO : OwnL σ0 σ n v es) (hE : Ext σ0 σ) (k : ∀ τ', Ext σ0 τ' → K r τ') : ACalls P f [v] σ K := by
  rcases hO with ⟨rfl, rfl⟩ | ⟨j, rfl, hj, hm, hn⟩
  · exact zjf (zpC za7) (h.use (k _ hE))
  · refine ACalls.freeze j ?_
    have e1 : [AV.rs j 0 es.length].map (zw (σ.del j).m σ.m) = [.sl n es false] := by
      simp only [List.map_cons, List.map_nil]
      rw [zeo hm (by simp), hj]; simp
    rw [e1]
    refine h.use (k _ ⟨fun i o hi => ?_, hE.nx⟩)
    rw [zL (fun e => by rw [e, hn] at hi; cases hi)]; exact hE.m i o hi
def zcD (how : Int) (p q : Bool) : Bool := (how == 1 && p && q) || (how == 2 && (p || q)) || (how == 3 && p && !q)
theorem znR (x y : List Rg) (fx fy : Bool) (how : Int) (hhow : how = 1 ∨ how = 2 ∨ how = 3) (hx : InZ x) (hy : InZ y) (hl : x.length + y.length < 2 ^ 30) (hC : ∀ c ∈ zbC (x ++ y), 0 ≤ c ∧ c < 4294967296) (hp : ∀ i c, (zbC (x ++ y))[i + 1]? = some c → 0 < c) :
    PCalls Tryz.prog 42 [zAV x fx, zAV y fy, .raw (.int .i64 how)] (zAV (za4 (fun a => zcD how (hasB x a) (hasB y a)) (zbC (x ++ y)) (zbC (x ++ y)).length) false) := by
  refine zE Tryz.func42 rfl (N := 80) rfl rfl (by simp) (zfe _ _) fun σ => ?_
  have ok : ∀ z : List Rg, zae (zG (z.map zl)) = true := fun z => by
    induction z with
    | nil => rfl
    | cons r z ih => simp [zG, zl, zae, cellOK] at ih ⊢; try exact ih
  (try ((first | with_reducible refine zo ?_ | with_reducible refine zt ?_ | with_reducible refine zu ?_); simp [-zC])); repeat' (first | ((first | refine zf ?_ | refine zg ?_ | refine dN (by decide +kernel) ?_ | (refine za ?_ ?_ <;> (intro hg; simp only [hg])) | fail) <;> simp [-zC]) | refine ze ?_ | refine zd ?_ | (refine zA ?_; simp only [zB]; try simp) | (refine zc (fun hc => ?_) (fun hc => ?_) <;> try simp at hc) | fail)
  refine za2 zf9 (σ0 := σ) (es := []) (OwnL.of rfl (by simp) (zb _ _ _) rfl) (Ext.new _ _ _ _) (ys := x.map zl) (by simp [zAV]) (.inr rfl) (ok x) (by simp; omega) ?_
  intro v1 τ1 hO1 hE1 _ _
  rw [List.nil_append] at hO1
  (try ((first | with_reducible refine zo ?_ | with_reducible refine zt ?_ | with_reducible refine zu ?_); simp [-zC])); repeat' (first | ((first | refine zf ?_ | refine zg ?_ | refine dN (by decide +kernel) ?_ | (refine za ?_ ?_ <;> (intro hg; simp only [hg])) | fail) <;> simp [-zC]) | refine ze ?_ | refine zd ?_ | (refine zA ?_; simp only [zB]; try simp) | (refine zc (fun hc => ?_) (fun hc => ?_) <;> try simp at hc) | fail)
  refine za2 zf9 hO1 hE1 (ys := y.map zl) (by simp [zAV]) (.inr rfl) (ok y) (by simp; omega) ?_
  intro v2 τ2 hO2 hE2 _ _
  rw [← List.map_append] at hO2
  (try ((first | with_reducible refine zo ?_ | with_reducible refine zt ?_ | with_reducible refine zu ?_); simp [-zC])); repeat' (first | ((first | refine zf ?_ | refine zg ?_ | refine dN (by decide +kernel) ?_ | (refine za ?_ ?_ <;> (intro hg; simp only [hg])) | fail) <;> simp [-zC]) | refine ze ?_ | refine zd ?_ | (refine zA ?_; simp only [zB]; try simp) | (refine zc (fun hc => ?_) (fun hc => ?_) <;> try simp at hc) | fail)
  have hcc := znP (x ++ y) false (fun r hr => (List.mem_append.1 hr).elim (hx r) (hy r)) (by simp; omega)
  refine hcc.useOwn hO2 hE2 fun τ hE => ?_
  have hcl : (zbC (x ++ y)).length ≤ 1 + 2 * (x ++ y).length := Nat.le_trans (ze5 _ _ _) (by have := zlW (zaF (x ++ y)) (-1); rw [zd9] at this; exact this)
  rw [List.length_append] at hcl
  generalize zbC (x ++ y) = C at *
  clear hO1 hO2 hE1 hE2
  refine zaR ?_
  refine za8 (fun A τ' => OwnL σ τ' 2 (A 9) ((za4 (fun a => zcD how (hasB x a) (hasB y a)) C C.length).map zl) ∧ Ext σ τ') ?_ ?_
  · intro R1 hR1
    refine zU (fun n A τ' => ∃ (i : Nat) (v : AV), A 0 = zAV x fx ∧ A 1 = zAV y fy ∧ A 2 = .raw (.int .i64 how) ∧ A 8 = inAV C false ∧ A 9 = v ∧ A 10 = .raw (.int .i64 i) ∧ OwnL σ τ' 2 v ((za4 (fun a => zcD how (hasB x a) (hasB y a)) C i).map zl) ∧ Ext σ τ' ∧ i ≤ C.length ∧ n = C.length - i) C.length ?_ ?_
    · exact ⟨0, .sl 0 [] true, by simp, by simp, by simp, by simp, by simp, by simp, OwnL.nil, hE, by omega, by omega⟩
    clear hE
    rintro n A τ' ⟨i, v, a0, a1, a2, a8, a9, a10, hO, hE, hi, rfl⟩ I1 hI1
    by_cases hlt : i < C.length
    · have hci : C[i]? = some C[i] := List.getElem?_eq_getElem hlt
      have hCi := hC C[i] (List.getElem_mem _)
      have w1 : IntKind.i64.wrap ((i : Int) + 1) = ((i + 1 : Nat) : Int) := by rw [zh (by omega) (by omega)]; omega
      have w2 : IntKind.u32.wrap C[i] = C[i] := zeD (by omega) (by omega)
      have hh := refHas_calls x fx C[i] (by omega)
      have hg := refHas_calls y fy C[i] (by omega)
      have he := zoS C false i (by omega) (by omega) (fun x hx => by have := hC x hx; omega)
      have hei := zlY hC hp i
      have hjl := zko (fun a => zcD how (hasB x a) (hasB y a)) C i
      have hji := zgo (p := fun a => zcD how (hasB x a) (hasB y a)) hC hp i
      have hj := znQ (f := C[i]) (t := zcd C i) hE hO hji hCi hei (by omega)
      have hstep : za4 (fun a => zcD how (hasB x a) (hasB y a)) C (i + 1) = if zcD how (hasB x C[i]) (hasB y C[i]) then joinZ (za4 (fun a => zcD how (hasB x a) (hasB y a)) C i) C[i] (zcd C i) else za4 (fun a => zcD how (hasB x a) (hasB y a)) C i := by
        conv => lhs; rw [za4]
        rw [hci]
      generalize hJ0 : za4 (fun a => zcD how (hasB x a) (hasB y a)) C i = J0 at *
      generalize hJ1 : za4 (fun a => zcD how (hasB x a) (hasB y a)) C (i + 1) = J1 at *
      generalize hasB x C[i] = p at *
      generalize hasB y C[i] = q at *
      have yes : zcD how p q = true → ∀ A' : zD, A' 0 = zAV x fx → A' 1 = zAV y fy → A' 2 = .raw (.int .i64 how) → A' 8 = inAV C false → A' 10 = .raw (.int .i64 ((i + 1 : Nat) : Int)) → ∀ v' τ2, OwnL σ τ2 2 v' ((joinZ J0 C[i] (zcd C i)).map zl) → Ext σ τ2 → A' 9 = v' → I1 A' τ2 := by
        intro hh A' b0 b1 b2 b8 b10 v' τ2 hO2 hE2 b9
        rw [if_pos hh] at hstep
        rw [← hstep] at hO2
        exact hI1 (C.length - (i + 1)) _ _ (by omega) ⟨i + 1, v', b0, b1, b2, b8, b9, b10, by rw [hJ1]; exact hO2, hE2, by omega, rfl⟩
      have no : zcD how p q = false → ∀ A' : zD, A' 0 = zAV x fx → A' 1 = zAV y fy → A' 2 = .raw (.int .i64 how) → A' 8 = inAV C false → A' 10 = .raw (.int .i64 ((i + 1 : Nat) : Int)) → A' 9 = v → I1 A' τ' := by
        intro hh A' b0 b1 b2 b8 b10 b9
        rw [if_neg (by rw [hh]; simp)] at hstep
        exact hI1 (C.length - (i + 1)) _ _ (by omega) ⟨i + 1, v, b0, b1, b2, b8, b9, b10, by rw [hJ1, hstep]; exact hO, hE, by omega, rfl⟩
      clear hI1 hJ0 hJ1 hstep
      (try ((first | with_reducible refine zo ?_ | with_reducible refine zt ?_ | with_reducible refine zu ?_); simp [a0, a1, a2, a8, a9, a10, inAV, iAV, hlt, w2])); repeat' (first | ((first | refine zf ?_ | refine zg ?_ | refine dN (by decide +kernel) ?_ | (refine za ?_ ?_ <;> (intro hg; simp only [hg])) | fail) <;> simp [a0, a1, a2, a8, a9, a10, inAV, iAV, hlt, w2]) | refine ze ?_ | refine zd ?_ | (refine zA ?_; simp only [zB]; try simp) | ((first | refine zm (by simp) ?_ | refine zv (by simp) (by simp) (by simp (maxDischargeDepth := 30) [a0, a1, a2, a8, a9, a10, inAV, iAV, hlt, w2]) ?_ | fail); simp) | (refine zc (fun hc => ?_) (fun hc => ?_) <;> try simp at hc) | fail)
      refine PCalls.use hh ?_
      (try ((first | with_reducible refine zo ?_ | with_reducible refine zt ?_ | with_reducible refine zu ?_); simp [a0, a1, a2, a8, a9, a10, inAV, iAV, hlt, w2])); repeat' (first | ((first | refine zf ?_ | refine zg ?_ | refine dN (by decide +kernel) ?_ | (refine za ?_ ?_ <;> (intro hg; simp only [hg])) | fail) <;> simp [a0, a1, a2, a8, a9, a10, inAV, iAV, hlt, w2]) | refine ze ?_ | refine zd ?_ | (refine zA ?_; simp only [zB]; try simp) | ((first | refine zm (by simp) ?_ | refine zv (by simp) (by simp) (by simp (maxDischargeDepth := 30) [a0, a1, a2, a8, a9, a10, inAV, iAV, hlt, w2]) ?_ | fail); simp) | (refine zc (fun hc => ?_) (fun hc => ?_) <;> try simp at hc) | fail)
      refine PCalls.use hg ?_
      rcases hhow with rfl | rfl | rfl <;> cases p <;> cases q
      all_goals (try ((first | with_reducible refine zo ?_ | with_reducible refine zt ?_ | with_reducible refine zu ?_); simp [a0, a1, a2, a8, a9, a10, inAV, iAV, hlt, w2, w1])); repeat' (first | ((first | refine zf ?_ | refine zg ?_ | refine dN (by decide +kernel) ?_ | (refine za ?_ ?_ <;> (intro hg; simp only [hg])) | fail) <;> simp [a0, a1, a2, a8, a9, a10, inAV, iAV, hlt, w2, w1]) | refine ze ?_ | refine zd ?_ | (refine zA ?_; simp only [zB]; try simp) | ((first | refine zm (by simp) ?_ | refine zv (by simp) (by simp) (by simp (maxDischargeDepth := 30) [a0, a1, a2, a8, a9, a10, inAV, iAV, hlt, w2, w1]) ?_ | fail); simp) | (refine zc (fun hc => ?_) (fun hc => ?_) <;> try simp at hc) | fail)
      all_goals first
        | exact no rfl _ (by simp [a0]) (by simp [a1]) (by simp [a2]) (by simp [a8, inAV, iAV]) (by simp) (by simp [a9])
        | (refine zbL (fun o => o.dst == some 77) zdw (by decide +kernel) ?_
           (try ((first | with_reducible refine zo ?_ | with_reducible refine zt ?_ | with_reducible refine zu ?_); simp [a0, a1, a2, a8, a9, a10, inAV, iAV, hlt, w2])); repeat' (first | ((first | refine zf ?_ | refine zg ?_ | refine dN (by decide +kernel) ?_ | (refine za ?_ ?_ <;> (intro hg; simp only [hg])) | fail) <;> simp [a0, a1, a2, a8, a9, a10, inAV, iAV, hlt, w2]) | refine ze ?_ | refine zd ?_ | (refine zA ?_; simp only [zB]; try simp) | ((first | refine zm (by simp) ?_ | refine zv (by simp) (by simp) (by simp (maxDischargeDepth := 30) [a0, a1, a2, a8, a9, a10, inAV, iAV, hlt, w2]) ?_ | fail); simp) | (refine zc (fun hc => ?_) (fun hc => ?_) <;> try simp at hc) | fail)
           refine .inl ⟨_, .inl he, hj.mono ?_⟩
           rintro v' τ2 ⟨hO2, hE2⟩
           have FF := fI @a0 (fI @a1 (fI @a2 (fI @a8 (fI @a9 (fI @a10 @w1))))); refine zx ?_; clear FF
           exact yes rfl _ (by simp [a0]) (by simp [a1]) (by simp [a2]) (by simp [a8, inAV, iAV]) (by simp) v' τ2 hO2 hE2 (by simp))
    · have : i = C.length := by omega
      subst this
      have FF := fI @a0 (fI @a1 (fI @a8 (fI @a9 (fI @a10 inAV.eq_1)))); refine zx ?_; clear FF
      exact hR1 _ _ ⟨by simp [a9]; exact hO, hE⟩
  · rintro A τ' ⟨hO, hE⟩
    generalize ha9 : A 9 = v at *
    have FF := @ha9; refine goC ?_; clear FF
    exact zh3 (.inr rfl) (by simp) hO hE
end Go.Proofs.YtpboabpapgimoaaGreat.Av.Zn
namespace Go.Proofs.YtpboabpapgimoaaGreat.Av.Zn
set_option linter.unusedSimpArgs false
set_option linter.unusedVariables false
theorem joinZ_nil (f t : Int) : joinZ [] f t = [⟨f, t⟩] := rfl
theorem joinZ_one (r : Rg) (f t : Int) : joinZ [r] f t = if r.hi + 1 = f then [⟨r.lo, t⟩] else [r, ⟨f, t⟩] := rfl
theorem joinZ_cons (r s : Rg) (z : List Rg) (f t : Int) : joinZ (r :: s :: z) f t = r :: joinZ (s :: z) f t := by
  unfold joinZ
  have e1 : (r :: s :: z)[(r :: s :: z).length - 1]? = (s :: z)[(s :: z).length - 1]? := by simp
  rw [e1]
  have e2 : ∀ q, (r :: s :: z).set ((r :: s :: z).length - 1) q = r :: (s :: z).set ((s :: z).length - 1) q := fun q => by simp
  split
  · split
    · rw [e2]
    · rfl
  · rfl
theorem joinZ_spec : ∀ (z : List Rg) (b f t : Int), RZ b z → (∀ r ∈ z, r.hi < f) → b < f → f ≤ t → RZ b (joinZ z f t) ∧ (∀ a, MZ (joinZ z f t) a ↔ MZ z a ∨ (f ≤ a ∧ a ≤ t)) ∧ ∀ r ∈ joinZ z f t, r.hi ≤ t
  | [], b, f, t, _, _, h1, h2 => by
    rw [joinZ_nil]
    refine ⟨⟨h1, h2, trivial⟩, fun a => ?_, fun r hr => by simp at hr; subst hr; exact Int.le_refl _⟩
    rw [mz_cons]
    constructor
    · rintro (h | h); exact .inr h; exact .inl h
    · rintro (h | h); exact .inr h; exact .inl h
  | [r], b, f, t, h, h0, h1, h2 => by
    obtain ⟨k1, k2, _⟩ := h
    have hr := h0 r (by simp)
    rw [joinZ_one]
    split
    · rename_i e
      refine ⟨⟨k1, by simp only []; omega, trivial⟩, fun a => ?_, fun s hs => by simp at hs; subst hs; exact Int.le_refl _⟩
      rw [mz_cons, mz_cons]
      simp only []
      constructor
      · rintro (h | h)
        · by_cases a ≤ r.hi
          · exact .inl (.inl ⟨h.1, by assumption⟩)
          · exact .inr ⟨by omega, h.2⟩
        · exact absurd h mz_nil
      · rintro ((h | h) | h)
        · exact .inl ⟨h.1, by omega⟩
        · exact absurd h mz_nil
        · exact .inl ⟨by omega, h.2⟩
    · rename_i e
      refine ⟨⟨k1, k2, by simp only []; omega, h2, trivial⟩, fun a => ?_, fun s hs => ?_⟩
      · rw [mz_cons, mz_cons, mz_cons]
        constructor
        · rintro (h | h | h)
          · exact .inl (.inl h)
          · exact .inr h
          · exact absurd h mz_nil
        · rintro ((h | h) | h)
          · exact .inl h
          · exact absurd h mz_nil
          · exact .inr (.inl h)
      · simp at hs
        rcases hs with rfl | rfl
        · omega
        · exact Int.le_refl _
  | r :: s :: z, b, f, t, h, h0, h1, h2 => by
    obtain ⟨k1, k2, k3⟩ := h
    have hr := h0 s (by simp)
    have k3' := k3
    obtain ⟨l1, l2, _⟩ := k3
    obtain ⟨q1, q2, q3⟩ := joinZ_spec (s :: z) (r.hi + 1) f t k3' (fun x hx => h0 x (by simp [hx])) (by omega) h2
    rw [joinZ_cons]
    refine ⟨⟨k1, k2, q1⟩, fun a => ?_, fun x hx => ?_⟩
    · rw [mz_cons, q2, mz_cons (r := r), or_assoc]
    · rcases List.mem_cons.1 hx with rfl | hx
      · have := h0 x (by simp); omega
      · exact q3 x hx
theorem zmZ (all : List Int) : ∀ (n : Nat) (last : Int), zbn all last ≤ n →
    (∀ c ∈ zar all n last, c ∈ all ∧ last < c ∧ c < 4294967296) ∧
    (∀ a ∈ all, last < a → a < 4294967296 → ∃ d, (zar all n last)[0]? = some d ∧ d ≤ a) ∧
    (∀ (i : Nat) (c : Int), (zar all n last)[i]? = some c → ∀ a ∈ all, c < a → a < 4294967296 → ∃ d, (zar all n last)[i + 1]? = some d ∧ d ≤ a) ∧
    (∀ (i : Nat) (c d : Int), (zar all n last)[i]? = some c → (zar all n last)[i + 1]? = some d → c < d)
  | 0, last, h => by
    refine ⟨(fun c hc => by simp [zar] at hc), fun a ha h1 h2 => ?_, (fun i c hc => by simp [zar] at hc), (fun i c d hc => by simp [zar] at hc)⟩
    have : 0 < zbn all last := by
      unfold zbn
      exact List.length_pos_of_mem (List.mem_filter.2 ⟨ha, by simp [h1, h2]⟩)
    omega
  | n + 1, last, h => by
    obtain ⟨n1, n2, n3⟩ := zje all last
    unfold zar
    by_cases hx : zak all last ≤ 4294967295
    · rw [if_pos hx]
      have hlt := zdX hx
      have n1 := n1.resolve_left (by omega)
      obtain ⟨h1, h2, h3, h4⟩ := zmZ all n (zak all last) (by omega)
      generalize zak all last = x at *
      refine ⟨fun c hc => ?_, fun a ha q1 q2 => ⟨x, rfl, n3 a ha q1⟩, fun i c hc a ha q1 q2 => ?_, fun i c d hc hd => ?_⟩
      · rcases List.mem_cons.1 hc with rfl | hc
        · exact n1
        · have := h1 c hc; exact ⟨this.1, by omega, this.2.2⟩
      · cases i with
        | zero => simp at hc; subst hc; simpa using h2 a ha q1 q2
        | succ i => simpa using h3 i c (by simpa using hc) a ha q1 q2
      · cases i with
        | zero =>
          simp at hc; subst hc
          have := h1 d (List.mem_of_getElem? (by simpa using hd))
          exact this.2.1
        | succ i => exact h4 i c d (by simpa using hc) (by simpa using hd)
    · rw [if_neg hx]
      refine ⟨(fun c hc => by cases hc), fun a ha q1 q2 => ?_, (fun i c hc => by simp at hc), (fun i c d hc => by simp at hc)⟩
      have := n3 a ha q1; omega
theorem zfs {l : List Rg} {a : Int} : a ∈ zaF l ↔ a = 0 ∨ ∃ r ∈ l, a = r.lo ∨ a = r.hi + 1 := by
  unfold zaF; simp
structure Cuts (l : List Rg) (C : List Int) : Prop where
  rng : ∀ c ∈ C, 0 ≤ c ∧ c < 4294967296
  zero : C[0]? = some 0
  up : ∀ (i : Nat) (c d : Int), C[i]? = some c → C[i + 1]? = some d → c < d
  full : ∀ (i : Nat) (c : Int), C[i]? = some c → ∀ a ∈ zaF l, c < a → a < 4294967296 → ∃ d, C[i + 1]? = some d ∧ d ≤ a
theorem zjQ (l : List Rg) (hz : InZ l) : Cuts l (zbC l) := by
  obtain ⟨h1, h2, h3, h4⟩ := zmZ (zaF l) (zbn (zaF l) (-1)) (-1) (Nat.le_refl _)
  have hr : ∀ c ∈ zbC l, 0 ≤ c ∧ c < 4294967296 := fun c hc => by have := h1 c hc; omega
  refine ⟨hr, ?_, h4, h3⟩
  obtain ⟨d, hd, hle⟩ := h2 0 (zfs.2 (.inl rfl)) (by omega) (by omega)
  have := hr d (List.mem_of_getElem? hd)
  rw [show (zbC l)[0]? = some d from hd, show d = 0 by omega]
theorem Cuts.pos {l : List Rg} {C : List Int} (h : Cuts l C) : ∀ i c, C[i + 1]? = some c → 0 < c := fun i c hc => by
  have hi := (List.getElem?_eq_some_iff.1 hc).1
  have hx : C[i]? = some C[i] := List.getElem?_eq_getElem (by omega)
  have := h.up i _ _ hx hc
  have := h.rng C[i] (List.getElem_mem _)
  omega
def zbT (C : List Int) (i : Nat) : Int := match C[i]? with | some c => c | none => 4294967296
theorem zgp (C : List Int) (i : Nat) : zcd C i = zbT C (i + 1) - 1 := by
  unfold zcd zbT
  cases C[i + 1]? <;> simp
theorem Cuts.hasB {l m : List Rg} {C : List Int} (h : Cuts l C) (hm : ∀ r ∈ m, r ∈ l) (hz : InZ m) {i : Nat} {c a : Int} (hc : C[i]? = some c) (h1 : c ≤ a) (h2 : a ≤ zcd C i) : hasB m a = hasB m c := by
  have no : ∀ x ∈ zaF l, ¬ (c < x ∧ x ≤ a) := fun x hx k => by
    have ha : a < 4294967296 := by
      rw [zgp] at h2
      have : zbT C (i + 1) ≤ 4294967296 := by
        unfold zbT; split
        · rename_i d hd; have := h.rng d (List.mem_of_getElem? hd); omega
        · omega
      omega
    obtain ⟨d, hd, hle⟩ := h.full i c hc x hx k.1 (by omega)
    rw [zgp] at h2
    unfold zbT at h2
    rw [hd] at h2
    simp only [] at h2
    omega
  unfold Zn.hasB
  rw [Bool.eq_iff_iff, List.any_eq_true, List.any_eq_true]
  have hc0 := h.rng c (List.mem_of_getElem? hc)
  constructor
  · rintro ⟨r, hr, k⟩
    refine ⟨r, hr, ?_⟩
    simp only [Bool.and_eq_true, decide_eq_true_eq] at k ⊢
    have n1 := no r.lo (zfs.2 (.inr ⟨r, hm r hr, .inl rfl⟩))
    omega
  · rintro ⟨r, hr, k⟩
    refine ⟨r, hr, ?_⟩
    simp only [Bool.and_eq_true, decide_eq_true_eq] at k ⊢
    have n1 := no (r.hi + 1) (zfs.2 (.inr ⟨r, hm r hr, .inr rfl⟩))
    omega
theorem zjg {l : List Rg} {C : List Int} (h : Cuts l C) (p : Int → Bool) (hp : ∀ (i : Nat) (c a : Int), C[i]? = some c → c ≤ a → a ≤ zcd C i → p a = p c) : ∀ i, i ≤ C.length →
    RZ (-1) (za4 p C i) ∧ (∀ r ∈ za4 p C i, r.hi < zbT C i) ∧ ∀ a, MZ (za4 p C i) a ↔ 0 ≤ a ∧ a < zbT C i ∧ p a = true
  | 0, _ => by
    have : zbT C 0 = 0 := by unfold zbT; rw [h.zero]
    rw [this]
    exact ⟨trivial, fun r hr => by simp [za4] at hr, fun a => ⟨fun k => absurd k mz_nil, fun k => by omega⟩⟩
  | i + 1, hi => by
    obtain ⟨h1, h2, h3⟩ := zjg h p hp i (by omega)
    have hx : C[i]? = some C[i] := List.getElem?_eq_getElem (by omega)
    have hn : zbT C i = C[i] := by unfold zbT; rw [hx]
    have hCi := h.rng C[i] (List.getElem_mem _)
    have he := zgp C i
    have hup : C[i] < zbT C (i + 1) := by
      unfold zbT
      split
      · rename_i d hd; exact h.up i _ _ hx hd
      · omega
    rw [hn] at h2 h3
    rw [za4, hx]
    simp only []
    by_cases hpc : p C[i] = true
    · rw [if_pos hpc]
      obtain ⟨q1, q2, q3⟩ := joinZ_spec _ (-1) C[i] (zcd C i) h1 h2 (by omega) (by omega)
      refine ⟨q1, fun r hr => by have := q3 r hr; omega, fun a => ?_⟩
      rw [q2, h3]
      constructor
      · rintro (k | k)
        · exact ⟨k.1, by omega, k.2.2⟩
        · exact ⟨by omega, by omega, by rw [hp i _ a hx k.1 k.2]; exact hpc⟩
      · rintro ⟨k1, k2, k3⟩
        by_cases hlt : a < C[i]
        · exact .inl ⟨k1, hlt, k3⟩
        · exact .inr ⟨by omega, by omega⟩
    · rw [if_neg hpc]
      refine ⟨h1, fun r hr => by have := h2 r hr; omega, fun a => ?_⟩
      rw [h3]
      constructor
      · exact fun k => ⟨k.1, by omega, k.2.2⟩
      · rintro ⟨k1, k2, k3⟩
        refine ⟨k1, ?_, k3⟩
        apply Int.lt_of_not_ge
        intro hge
        exact hpc ((hp i _ a hx hge (by omega)) ▸ k3)
theorem zkp {l : List Rg} {C : List Int} (h : Cuts l C) (p : Int → Bool) (hp : ∀ (i : Nat) (c a : Int), C[i]? = some c → c ≤ a → a ≤ zcd C i → p a = p c) :
    RZ (-1) (za4 p C C.length) ∧ ∀ a, MZ (za4 p C C.length) a ↔ 0 ≤ a ∧ a < 4294967296 ∧ p a = true := by
  obtain ⟨h1, _, h3⟩ := zjg h p hp C.length (Nat.le_refl _)
  have : zbT C C.length = 4294967296 := by unfold zbT; rw [List.getElem?_eq_none (by omega)]
  rw [this] at h3
  exact ⟨h1, h3⟩
theorem mz_rng {z : List Rg} (hz : InZ z) {a : Int} (h : MZ z a) : 0 ≤ a ∧ a < 4294967296 := by
  obtain ⟨r, hr, k⟩ := h
  obtain ⟨a, b, c, d⟩ := hz r hr
  omega
def refOfZ (l : List Rg) : List Rg := za4 (hasB l) (zbC l) (zbC l).length
theorem refOfZ_spec {l : List Rg} (hz : InZ l) : RZ (-1) (refOfZ l) ∧ (∀ a, MZ (refOfZ l) a ↔ MZ l a) ∧ InZ (refOfZ l) := by
  have hC := zjQ l hz
  obtain ⟨h1, h2⟩ := zkp hC (hasB l) (fun i c a hc k1 k2 => hC.hasB (fun r h => h) hz hc k1 k2)
  refine ⟨h1, fun a => ?_, zgo hC.rng hC.pos _⟩
  rw [refOfZ, h2, hasB_iff]
  exact ⟨fun k => k.2.2, fun k => ⟨(mz_rng hz k).1, (mz_rng hz k).2, k⟩⟩
def zdY (how : Int) (x y : List Rg) : List Rg := za4 (fun a => zcD how (hasB x a) (hasB y a)) (zbC (x ++ y)) (zbC (x ++ y)).length
theorem zgz {x y : List Rg} (how : Int) (hx : InZ x) (hy : InZ y) : RZ (-1) (zdY how x y) ∧ (∀ a, MZ (zdY how x y) a ↔ 0 ≤ a ∧ a < 4294967296 ∧ zcD how (hasB x a) (hasB y a) = true) ∧ InZ (zdY how x y) := by
  have hz : InZ (x ++ y) := fun r hr => (List.mem_append.1 hr).elim (hx r) (hy r)
  have hC := zjQ (x ++ y) hz
  obtain ⟨h1, h2⟩ := zkp hC (fun a => zcD how (hasB x a) (hasB y a)) (fun i c a hc k1 k2 => by
    rw [hC.hasB (m := x) (fun r h => by simp [h]) hx hc k1 k2, hC.hasB (m := y) (fun r h => by simp [h]) hy hc k1 k2])
  exact ⟨h1, h2, zgo hC.rng hC.pos _⟩
theorem zone_eq {x y : List Rg} (h : RZ (-1) x) (k : RZ (-1) y) (e : ∀ a, MZ x a ↔ MZ y a) : x = y := h.ext k e
theorem zpW {z : List Rg} (hz : InZ z) (ho : ∀ r ∈ z, r.lo ≤ r.hi) : ∀ z', z'.Perm z → zdW (fun r s => cmpI r.lo s.lo) z' → zbh z' = refOfZ z := by
  intro z' hp hs
  obtain ⟨h1, h2, h3⟩ := refOfZ_spec hz
  have hs' : z'.Pairwise fun x y => x.lo ≤ y.lo := hs.imp fun h => by rw [cmpI_neg] at h; omega
  obtain ⟨k1, k2, _⟩ := zhM (fun r hr => hz r (hp.mem_iff.1 hr)) (fun r hr => ho r (hp.mem_iff.1 hr)) hs'
  refine zone_eq k1 h1 fun a => ?_
  rw [k2, h2]
  unfold MZ
  constructor
  · rintro ⟨r, hr, k⟩; exact ⟨r, hp.mem_iff.1 hr, k⟩
  · rintro ⟨r, hr, k⟩; exact ⟨r, hp.mem_iff.2 hr, k⟩
theorem zsO {x y : List Rg} (hx : InZ x) (hy : InZ y) : refOfZ (x ++ y) = zdY 2 x y := by
  obtain ⟨h1, h2, h3⟩ := zgz 2 hx hy
  obtain ⟨k1, k2, k3⟩ := refOfZ_spec (l := x ++ y) fun r hr => (List.mem_append.1 hr).elim (hx r) (hy r)
  refine zone_eq k1 h1 fun a => ?_
  rw [k2, h2, mz_append, ← hasB_iff, ← hasB_iff]
  cases hp : hasB x a <;> cases hq : hasB y a <;> simp [zcD]
  · have := mz_rng hy (hasB_iff.1 hq); omega
  · have := mz_rng hx (hasB_iff.1 hp); omega
  · have := mz_rng hx (hasB_iff.1 hp); omega
theorem zpD {x y : List Rg} (hx : InZ x) (hy : InZ y) (rx : RZ (-1) x) (ry : RZ (-1) y) : andZ x (notZ 0 y) = zdY 3 x y := by
  obtain ⟨h1, h2, h3⟩ := zgz 3 hx hy
  obtain ⟨n1, n2, n3, _⟩ := notZ_spec y 0 (by simpa using ry) hy (Int.le_refl _)
  obtain ⟨k1, k2, k3, _⟩ := andZ_spec _ x (notZ 0 y) (-1) (-1) (Nat.le_refl _) rx (by simpa using n1)
  refine zone_eq (k1.weaken (by omega)) h1 fun a => ?_
  rw [k2, n2, h2, ← hasB_iff, ← hasB_iff]
  cases hp : hasB x a <;> cases hq : hasB y a <;> simp [zcD]
end Go.Proofs.YtpboabpapgimoaaGreat.Av.Zn
namespace Go.Proofs.YtpboabpapgimoaaGreat.Av.Zn
open Go
set_option linter.unusedSimpArgs false
set_option linter.unusedVariables false
set_option maxRecDepth 100000
set_option maxHeartbeats 4000000
set_option pp.maxSteps 300
def zlZ (l : List Rg) : AV := if l.any (fun r => decide (r.hi < r.lo)) then .tup [.sl 0 [] true, .raw (.int .i64 31)] else .tup [zAV (refOfZ l) false, .raw (.int .i64 0)]
theorem ofAV_ok {l : List Rg} (ho : ∀ r ∈ l, r.lo ≤ r.hi) : zlZ l = .tup [zAV (refOfZ l) false, .raw (.int .i64 0)] := by
  unfold zlZ
  rw [if_neg]
  rw [List.any_eq_true]
  rintro ⟨r, hr, k⟩
  have := ho r hr
  simp at k; omega
theorem zpE {l : List Rg} (ho : l.any (fun r => decide (r.hi < r.lo)) = true) : zlZ l = .tup [.sl 0 [] true, .raw (.int .i64 31)] := by
  unfold zlZ; rw [if_pos ho]
theorem zqf (l : List Rg) : l.any (fun r => decide (r.hi < r.lo)) = true ∨ ∀ r ∈ l, r.lo ≤ r.hi := by
  cases h : l.any (fun r => decide (r.hi < r.lo)) with
  | true => exact .inl rfl
  | false =>
    refine .inr fun r hr => ?_
    have := List.any_eq_false.1 h r hr
    simp at this; exact this
theorem zoneOf_calls (z : List Rg) (fz : Bool) (hz : InZ z) (hl : z.length < 2 ^ 38) : PCalls Tryz.prog 32 [zAV z fz] (zlZ z) := by
  rcases zqf z with h | h
  · rw [zpE h]
    refine zE Tryz.func32 rfl (N := 19) rfl rfl (by simp) (by simp [noIds]) fun σ => ?_
    have hc := zem (g := 61) (p := fun r => decide (r.hi < r.lo)) z fz (by omega) fun r _ => zkn r
    rw [h] at hc
    refine zaR ?_
    refine PCalls.use hc ?_
    exact zga
  · rw [ofAV_ok h]
    exact zpA z fz hz hl _ (zpW hz h) h
structure Good (n : Nat) (z : List Rg) : Prop where
  inz : InZ z
  rz : RZ (-1) z
  len : z.length ≤ n
theorem RZ.ord : ∀ {z : List Rg} {b : Int}, RZ b z → ∀ r ∈ z, r.lo ≤ r.hi
  | [], _, _, r, h => by cases h
  | s :: z, b, h, r, hr => by
    rcases List.mem_cons.1 hr with rfl | hr
    · exact h.2.1
    · exact h.2.2.ord r hr
theorem Good.mono {n m : Nat} {z : List Rg} (h : Good n z) (hm : n ≤ m) : Good m z := ⟨h.inz, h.rz, Nat.le_trans h.len hm⟩
theorem good_all : Good 1 allZ := ⟨fun r hr => by simp [allZ] at hr; subst hr; exact ⟨by decide, by decide, by decide, by decide⟩, ⟨by decide, by decide, trivial⟩, by decide⟩
theorem zsP {z : List Rg} (hz : InZ z) (ho : ∀ r ∈ z, r.lo ≤ r.hi) : (refOfZ z).length ≤ z.length := by
  let le : Rg → Rg → Bool := fun r s => decide (r.lo ≤ s.lo)
  have hp := List.mergeSort_perm z le
  have hs : zdW (fun r s => cmpI r.lo s.lo) (z.mergeSort le) := by
    have := List.pairwise_mergeSort (le := le) (fun a b c h1 h2 => by simp [le] at *; omega) (fun a b => by simp [le]; omega) z
    exact this.imp fun h => by rw [cmpI_neg]; simp [le] at h; omega
  rw [← zpW hz ho _ hp hs]
  have hz' : InZ (z.mergeSort le) := fun r hr => hz r (hp.mem_iff.1 hr)
  obtain ⟨_, _, _, k⟩ := zhM hz' (fun r hr => ho r (hp.mem_iff.1 hr)) (hs.imp fun h => by rw [cmpI_neg] at h; omega)
  rw [hp.length_eq] at k
  exact k
theorem good_or {n m : Nat} {x y : List Rg} (h : Good n x) (k : Good m y) : Good (n + m) (refOfZ (x ++ y)) := by
  have hz : InZ (x ++ y) := fun r hr => (List.mem_append.1 hr).elim (h.inz r) (k.inz r)
  have ho : ∀ r ∈ x ++ y, r.lo ≤ r.hi := fun r hr => (List.mem_append.1 hr).elim (h.rz.ord r) (k.rz.ord r)
  obtain ⟨k1, k2, k3⟩ := refOfZ_spec hz
  have := zsP hz ho
  rw [List.length_append] at this
  exact ⟨k3, k1, Nat.le_trans this (Nat.add_le_add h.len k.len)⟩
theorem _root_.Go.Proofs.YtpboabpapgimoaaGreat.Av.PCalls.useLent {P : Program} {f : FuncId} {σ0 σ : St} {n : Nat} {a v r : AV} {es : List AV} {K : AV → St → Prop} (h : PCalls P f [a, .sl n es false] r) (hr : r.plain = true) (hO : OwnL σ0 σ n v es) (k : K r σ) : ACalls P f [a, v] σ K := by
  rcases hO with ⟨rfl, rfl⟩ | ⟨j, rfl, hj, hm, hn⟩
  · refine zjf (bs := [a, .sl n [] false]) (fun S vs hl => ?_) (h.use k)
    simp only [LRel] at hl ⊢
    obtain ⟨v, us, e, h1, w, ws, e2, h2, h3⟩ := hl
    exact ⟨v, us, e, h1, w, ws, e2, za7 _ _ h2, h3⟩
  · refine RCalls.use (.inr ⟨[a, .sl n es false], ?_, h, hr⟩) k
    simp only [zcS]
    exact ⟨a, _, rfl, .inl rfl, _, _, rfl, .inr ⟨es, hm, by simp, by simp [hj]⟩, rfl⟩
instance (r : Rg) : Decidable r.In := by unfold Rg.In; infer_instance
instance (z : List Rg) : Decidable (InZ z) := by unfold InZ; infer_instance
end Go.Proofs.YtpboabpapgimoaaGreat.Av.Zn
namespace Go.Proofs.YtpboabpapgimoaaGreat.Av
open Go
set_option linter.unusedSimpArgs false
set_option linter.unusedVariables false
set_option maxRecDepth 100000
set_option maxHeartbeats 4000000
set_option pp.maxSteps 600
theorem zjh (n : Nw) (f : Fl) (l : List Int) (fl : Bool) (hl : l.length < 2 ^ 60) : PCalls Tryz.prog 30 [zau n f, zp l fl] (.raw (.bool (!l.any (zaC n)))) := by
  have hc := zhs (g := 59) (caps := [.pp (zau n f).cells 0]) (p := zaC n) l fl hl (fun d _ => zlM n f d)
  refine zE Tryz.func30 rfl (N := 9) rfl rfl (by simp) (by simp [noIds]) fun σ => ?_
  repeat (refine ze ?_)
  refine zg ?_
  simp [-cellOK, zs]
  generalize hA0 : put 9 _ _ _ = A0
  have d1 : A0 1 = zp l fl := by rw [← hA0]; simp [zk]
  have d2 : A0 2 = .rp ⟨2, σ.nx 2, 3⟩ 0 0 := by rw [← hA0]; simp [zk]
  clear hA0
  refine zai ⟨2, σ.nx 2, 3⟩ ?_
  generalize hτ : St.del _ _ = τ
  generalize hA : (fun t => zw _ _ _) = A
  have a1 : A 1 = zp l fl := by rw [← hA, ← hτ]; simp [zw, d1, zp]
  have a2 : A 2 = .pp (zau n f).cells 0 := by rw [← hA, ← hτ]; simp [zw, St.new, St.del, zs, d2]
  have hE : Ext σ τ := by
    rw [← hτ]
    exact ⟨fun i o h => by rw [zL (fun e => by rw [e, zb] at h; cases h)]; exact zat _ _ h, fun s => St.new_le σ 2 3 (.buf [zau n f]) s⟩
  clear hτ hA d1 d2
  generalize l.any (zaC n) = bb at hc
  have FF := fI @a1 @a2; exact gxA
theorem zkP {g : FuncId} {caps : List AV} {p : Rg → Bool} (z : List Rg) (fz : Bool) (hl : z.length < 2 ^ 60) (hg : ∀ r ∈ z, PCalls Tryz.prog g (zl r :: caps) (.raw (.bool (p r)))) :
    PCalls Tryz.prog 87 [zbl z fz, .fn (.func g) [] caps] (.raw (.int .i64 (idxOf p z))) := by
  refine zE Tryz.func87 rfl (N := 19) rfl rfl (by simp) (by simp [noIds]) fun σ => ?_
  (try ((first | with_reducible refine zo ?_ | with_reducible refine zt ?_ | with_reducible refine zu ?_); simp [zbl])); repeat' (first | ((first | refine zf ?_ | refine zg ?_ | refine dN (by decide +kernel) ?_ | (refine za ?_ ?_ <;> (intro hg; simp only [hg])) | fail) <;> simp [zbl]) | refine ze ?_ | refine zd ?_ | (refine zA ?_; simp only [zB]; try simp) | ((first | refine zm (by simp) ?_ | refine zv (by simp) (by simp) (by simp (maxDischargeDepth := 30) [zbl]) ?_ | fail); simp) | (refine zc (fun hc => ?_) (fun hc => ?_) <;> try simp at hc) | fail)
  refine zU (fun n A τ => τ = σ ∧ A 0 = zbl z fz ∧ A 1 = .fn (.func g) [] caps ∧ A 7 = .raw (.int .i64 z.length) ∧ ∃ i : Nat, A 8 = .raw (.int .i64 i) ∧ i ≤ z.length ∧ n = z.length - i ∧ ∀ j, j < i → ∀ y, z[j]? = some y → p y = false) z.length ?_ ?_
  · exact ⟨rfl, by simp [zbl], by simp, by simp, 0, by simp, by omega, by omega, fun j h => by omega⟩
  rintro n A τ ⟨rfl, a0, a1, a7, i, a8, hi, rfl, hn⟩ I1 hI1
  by_cases hlt : i < z.length
  · have hx : z[i]? = some z[i] := List.getElem?_eq_getElem hlt
    have w1 : IntKind.i64.wrap ((i : Int) + 1) = ((i + 1 : Nat) : Int) := by rw [zh (by omega) (by omega)]; omega
    have hr : AV.agg [.raw (.int .u32 z[i].lo), .raw (.int .u32 z[i].hi)] = zl z[i] := rfl
    (try ((first | with_reducible refine zo ?_ | with_reducible refine zt ?_ | with_reducible refine zu ?_); simp [zbl, a0, a1, a7, a8, hlt, hx, rg_cells, hr])); repeat' (first | ((first | refine zf ?_ | refine zg ?_ | refine dN (by decide +kernel) ?_ | (refine za ?_ ?_ <;> (intro hg; simp only [hg])) | fail) <;> simp [zbl, a0, a1, a7, a8, hlt, hx, rg_cells, hr]) | refine ze ?_ | refine zd ?_ | (refine zA ?_; simp only [zB]; try simp) | ((first | refine zm (by simp) ?_ | refine zv (by simp) (by simp) (by simp (maxDischargeDepth := 30) [zbl, a0, a1, a7, a8, hlt, hx, rg_cells, hr]) ?_ | fail); simp) | (refine zc (fun hc => ?_) (fun hc => ?_) <;> try simp at hc) | fail)
    refine PCalls.use (hg z[i] (List.getElem_mem _)) ?_
    cases hp : p z[i] with
    | true =>
      have FF := fI zbl.eq_1 (fI @a0 (fI @a1 (fI @a7 (fI @a8 (fI @hlt (fI @hx (fI @rg_cells @hr))))))); refine zx ?_; clear FF
      exact (idxOf_here hx hp hn).symm
    | false =>
      have FF := fI zbl.eq_1 (fI @a0 (fI @a1 (fI @a7 (fI @a8 (fI @hlt (fI @hx (fI @rg_cells @hr))))))); refine zx ?_; clear FF
      refine hI1 (z.length - (i + 1)) _ _ (by omega) ⟨rfl, by simp [a0], by simp [a1], by simp [a7], i + 1, by simp [w1], by omega, rfl, fun j hj y hy => ?_⟩
      by_cases e : j = i
      · subst e; rw [hx] at hy; injection hy with hy; subst hy; exact hp
      · exact hn j (by omega) y hy
  · have hi' : i = z.length := by omega
    subst hi'
    have w1 : IntKind.i64.wrap (-1) = -1 := zh (by omega) (by omega)
    have FF := fI zbl.eq_1 (fI @a0 (fI @a1 (fI @a7 (fI @a8 @w1)))); refine zx ?_; clear FF
    exact (idxOf_none hn).1.symm
theorem zjR {g : FuncId} {caps : List AV} {p : Rg → Bool} (l : List Rg) {σ0 σ : St} {v : AV} {K : AV → St → Prop} (hO : OwnL σ0 σ 2 v (l.map zl)) (hE : Ext σ0 σ) (hl : l.length < 2 ^ 40)
    (hg : ∀ r ∈ l, PCalls Tryz.prog g (zl r :: caps) (.raw (.bool (p r)))) (h : ∀ v' τ, OwnP σ0 τ 2 v' ((l.filter fun r => !p r).map zl) → Ext σ0 τ → K v' τ) : ACalls Tryz.prog 81 [v, .fn (.func g) [] caps] σ K := by
  refine zaL Tryz.func81 rfl (N := 42) rfl rfl (by simp) ?_
  refine zaR ?_
  refine PCalls.useP (zkP l false (by omega) hg) rfl hO.toP ?_
  cases ha : l.any p with
  | false =>
    have hi : idxOf p l = -1 := by unfold idxOf; rw [ha]; rfl
    have hfl : (l.filter fun r => !p r) = l := by
      rw [List.filter_eq_self]
      intro r hr
      rw [List.any_eq_false] at ha
      simpa using ha r hr
    have w1 : IntKind.i64.wrap (-1) = -1 := zh (by omega) (by omega)
    rw [hfl] at h
    have FF := fI @hi @w1; refine goC ?_; clear FF
    exact zT (.inr rfl) (by simp) (h _ _ hO.toP hE)
  | true =>
    have hi : idxOf p l = (l.findIdx p : Nat) := by unfold idxOf; rw [ha]; rfl
    have hlt0 : l.findIdx p < l.length := List.findIdx_lt_length.2 (by simpa using ha)
    obtain ⟨i0, hi0⟩ : ∃ i0, l.findIdx p = i0 := ⟨_, rfl⟩
    rw [hi0] at hi hlt0
    have hne : ¬ ((i0 : Int) = -1) := by omega
    have w0 : IntKind.i64.wrap ((i0 : Int) + 1) = ((i0 + 1 : Nat) : Int) := by rw [zh (by omega) (by omega)]; omega
    have w1 : IntKind.i64.wrap (-1) = -1 := zh (by omega) (by omega)
    rcases hO with ⟨he, _⟩ | ⟨j, hv, hj, hm, hn⟩
    · have : l = [] := by simpa using he
      subst this
      simp at ha
    rw [List.length_map] at hv
    subst hv
    have FF := fI @hi (fI @w1 (fI @hne @w0)); refine zx ?_; clear FF
    have hfirst : ∀ r ∈ l.take i0, p r = false := fun r hr => by
      obtain ⟨q, hq⟩ := List.getElem?_of_mem hr
      obtain ⟨hq1, hq2⟩ := List.getElem?_eq_some_iff.1 hq
      rw [List.length_take] at hq1
      rw [List.getElem_take] at hq2
      have := List.not_of_lt_findIdx (p := p) (xs := l) (i := q) (by omega)
      rw [hq2] at this
      simpa using this
    have hp0 : p l[i0] = true := by
      have := List.findIdx_getElem (p := p) (xs := l) (w := by omega)
      simpa only [hi0] using this
    have htk : ∀ k, (hk : k < l.length) → (l.take (k + 1)).filter (fun r => !p r) = (l.take k).filter (fun r => !p r) ++ if p l[k] = true then [] else [l[k]] := fun k hk => by
      rw [List.take_add_one, List.getElem?_eq_getElem hk, List.filter_append]
      congr 1
      cases hb : p l[k] <;> simp [hb]
    refine zU (fun n A τ => A 0 = .rs j 0 l.length ∧ A 1 = .fn (.func g) [] caps ∧ Ext σ0 τ ∧ ∃ (k : Nat) (q : List Rg), A 6 = .raw (.int .i64 k) ∧ A 5 = .raw (.int .i64 (((l.take k).filter fun r => !p r).length : Nat)) ∧ k ≤ l.length ∧
      ((l.take k).filter fun r => !p r).length < k ∧ q.length = l.length ∧ q.take ((l.take k).filter fun r => !p r).length = (l.take k).filter (fun r => !p r) ∧ q.drop k = l.drop k ∧ τ.m j = some (.buf (q.map zl)) ∧ n = l.length - k) (l.length - (i0 + 1)) ?_ ?_
    · have e1 : (l.take (i0 + 1)).filter (fun r => !p r) = l.take i0 := by
        rw [htk i0 hlt0, if_pos hp0, List.append_nil, List.filter_eq_self]
        intro r hr; simp [hfirst r hr]
      refine ⟨by simp, by simp, hE, i0 + 1, l, by simp, ?_, by omega, ?_, rfl, ?_, rfl, hm, rfl⟩
      · rw [e1, List.length_take, Nat.min_eq_left (by omega)]; simp
      · rw [e1, List.length_take, Nat.min_eq_left (by omega)]; omega
      · rw [e1, List.length_take, Nat.min_eq_left (by omega)]
    rintro n A τ ⟨a0, a1, hE, k, q, a6, a5, hk, hik, hq, hq1, hq2, hmq, rfl⟩ I1 hI1
    obtain ⟨i, hii⟩ : ∃ i, ((l.take k).filter fun r => !p r).length = i := ⟨_, rfl⟩
    rw [hii] at a5 hik hq1
    by_cases hlt : k < l.length
    · have hx : q[k]? = some l[k] := by
        have := congrArg (·[0]?) hq2
        simpa [List.getElem?_drop, List.getElem?_eq_getElem hlt] using this
      have hxi : q[i]? = some q[i] := List.getElem?_eq_getElem (by omega)
      have w2 : IntKind.i64.wrap ((k : Int) + 1) = ((k + 1 : Nat) : Int) := by rw [zh (by omega) (by omega)]; omega
      have w3 : IntKind.i64.wrap ((i : Int) + 1) = ((i + 1 : Nat) : Int) := by rw [zh (by omega) (by omega)]; omega
      have hjf : j ≠ ⟨7, τ.nx 7, 2⟩ := fun e => by rw [e, zb] at hmq; cases hmq
      have hil : i < l.length := by omega
      have FF := fI @a0 (fI @a1 (fI @a6 (fI @a5 (fI @hlt (fI @hx (fI @hmq (fI @hj (fI @hjf (fI @rg_cells (fI @rg_fold (fI @w2 @w3))))))))))); refine zx ?_; clear FF
      refine PCalls.use (hg l[k] (List.getElem_mem _)) ?_
      cases hpk : p l[k] with
      | true =>
        have FF := fI @a0 (fI @a1 (fI @a6 (fI @a5 (fI @hlt (fI @hx (fI @hmq (fI @hj (fI @hjf (fI @rg_cells (fI @rg_fold (fI @w2 @w3))))))))))); refine zx ?_; clear FF
        have e := htk k hlt
        rw [if_pos hpk, List.append_nil] at e
        refine hI1 (l.length - (k + 1)) _ _ (by omega) ⟨by simp [a0], by simp [a1], by simp [hE], k + 1, q, by simp, by rw [e, hii]; simp [a5], by omega, by rw [e, hii]; omega, hq, by rw [e, hii]; exact hq1, ?_, by simp [St.set, St.new, hjf, hmq], rfl⟩
        have := congrArg (List.drop 1) hq2
        simpa [List.drop_drop, Nat.add_comm] using this
      | false =>
        have hsp : setPart (zl q[i]) 0 (zl l[k]).cells = zl l[k] := rfl
        rw [rg_cells] at hsp
        have FF := fI @a0 (fI @a1 (fI @a6 (fI @a5 (fI @hlt (fI @hil (fI @hx (fI @hxi (fI @hmq (fI @hj (fI @hjf (fI @rg_cells (fI @rg_fold (fI @hsp (fI @w2 @w3)))))))))))))); refine zx ?_; clear FF
        have e := htk k hlt
        rw [if_neg (by simp [hpk])] at e
        have el : (((l.take k).filter fun r => !p r) ++ [l[k]]).length = i + 1 := by rw [List.length_append, hii]; rfl
        refine hI1 (l.length - (k + 1)) _ _ (by omega) ⟨by simp [a0], by simp [a1], Ext.setF (by simp [hE]) hn, k + 1, q.set i l[k], by simp, by rw [e, el]; simp, by omega, by rw [e, el]; omega, by simpa using hq, ?_, ?_, by simp [St.set, St.new, hjf, hmq, List.map_set], rfl⟩
        · rw [e, el, ← hq1, List.take_succ_eq_append_getElem (by simp; omega)]
          simp
          rw [List.take_set, List.set_eq_of_length_le (by simp; omega)]
        · have := congrArg (List.drop 1) hq2
          rw [List.drop_set_of_lt (by omega)]
          simpa [List.drop_drop, Nat.add_comm] using this
    · have : k = l.length := by omega
      subst this
      rw [List.take_length] at *
      have hil : i ≤ l.length := by omega
      obtain ⟨m, hm'⟩ : ∃ m, l.length - i = m + 1 := ⟨l.length - i - 1, by omega⟩
      have ecut : zcO j 0 i l.length = .rs j i (m + 1) := by unfold zcO; rw [if_pos (.inr (by omega)), hm', Nat.zero_add]
      obtain ⟨rest, hcl⟩ : ∃ rest, zda Tryz.prog τ.m 31 (.rs j i (m + 1)) = some (.wrv j ((l.filter fun r => !p r).map zl ++ rest) (.tup [])) := by
        have hle : i + (m + 1) ≤ q.length := by omega
        refine ⟨List.replicate (m + 1) (zl ⟨0, 0⟩) ++ (q.map zl).drop (i + (m + 1)), ?_⟩
        rw [← hq1, List.map_take]
        simp [zda, hmq, hj, zae, cellOK, hle, zl]
      have FF := fI @a0 (fI @a1 (fI @a6 (fI @a5 (fI @hj (fI @hil (fI @ecut @hcl)))))); refine goC ?_; clear FF
      have ec0 : zcO j 0 0 i = .rs j 0 ((l.filter fun r => !p r).map zl).length := by
        unfold zcO; rw [if_pos (.inl rfl), List.length_map, hii]; simp
      exact zT (.inr rfl) (x := zcO j 0 0 i) (by simp) (by
        rw [ec0]
        exact h _ _ (.inr ⟨j, rest, rfl, hj, zjw hmq, hn⟩) (Ext.setF hE hn))
end Go.Proofs.YtpboabpapgimoaaGreat.Av
