/- Flows: FlowTells, FlowDiffers, FlowCut, FlowFares. Part 9 of 14: AvZ7, AvZ8, AvZ9, AvZA, AvZB, AvZC, AvZD, AvZE, AvZF, AvZG, AvZH, AvZI, AvZJ, AvZK, AvZL, AvZM, AvZN, AvZO, AvZP, AvZQ, AvZR, AvZS, AvP4, AvZT, AvF2, AvF3. -/
import Derived.Test.YtpboabpapgimoaaGreatFl6
import Derived.Test.YtpboabpapgimoaaGreatFl8
import Derived.Sort.AssemblyPlain
namespace Go.Proofs.YtpboabpapgimoaaGreat.Av.Zn
open Go
set_option linter.unusedSimpArgs false
set_option linter.unusedVariables false
set_option maxRecDepth 100000
set_option pp.maxSteps 300
instance : Inhabited Rg := ⟨⟨0, 0⟩⟩
def zT (d : Array Rg) : Ob := .buf (d.toList.map zp)
theorem rg_cells (r : Rg) : (zp r).cells = [.raw (.int .u32 r.lo), .raw (.int .u32 r.hi)] := rfl
theorem rg_fold (r : Rg) : AV.agg [.raw (.int .u32 r.lo), .raw (.int .u32 r.hi)] = zp r := rfl
theorem zaa (r s : Rg) : setPart (zp r) 0 [.raw (.int .u32 s.lo), .raw (.int .u32 s.hi)] = zp s := rfl
theorem zV {d : Array Rg} {i : Nat} (h : i < d.size) : d[i]? = some d[i]! := by
  rw [Array.getElem?_eq_getElem h, getElem!_pos d i h]
theorem zkn (d : Array Rg) (i : Nat) (x : Rg) : (d.toList.map zp).set i (zp x) = (d.setIfInBounds i x).toList.map zp := by
  simp [List.map_set]
theorem zaD (d : Array Rg) (i j : Nat) : ((d.toList.map zp).set i (zp d[j]!)).set j (zp d[i]!) = (Sort.swp d i j).toList.map zp := by
  rw [zkn, zkn]; rfl
theorem zaP (d : Array Rg) (i j : Nat) : (Sort.swp d i j).size = d.size := by simp [Sort.swp]
@[simp] theorem zce {σ : St} {i : Id} {o o' : Ob} : (σ.set i o).set i o' = σ.set i o' := by
  apply St.ext'
  · funext j
    by_cases h : j = i
    · subst h; cases hm : σ.m j <;> simp [hm]
    · rw [zH h, zH h, zH h]
  · rfl
theorem za7 {σ : St} {i : Id} {o : Ob} (h : σ.m i = some o) : σ.set i o = σ := by
  apply St.ext'
  · funext j
    by_cases e : j = i
    · subst e; simp [h]
    · rw [zH e]
  · rfl
structure Cmp (g : FuncId) (c : Rg → Rg → Int) : Prop where
  calls : ∀ x y, PCalls Tryz.prog g [zp x, zp y] (.raw (.int .i64 (c x y)))
def zv (c : Rg → Rg → Int) (x y : Rg) : Bool := decide (c x y < 0)
theorem zjL {g : FuncId} {c : Rg → Rg → Int} (hc : Cmp g c) {j : Id} (hjs : j.sz = 2) {d : Array Rg} {a b : Nat} (hab : a ≤ b) (hb : b ≤ d.size) (hsz : d.size < 2 ^ 43) {σ : St} (hj : σ.m j = some (zT d)) :
    ACalls Tryz.prog 120 [.rs j 0 d.size, .raw (.int .i64 a), .raw (.int .i64 b), .fn (.func g) [] []] σ fun r τ => r = .tup [] ∧ τ = σ.set j (zT (Sort.insertionSort (zv c) d a b)) := by
  refine zaZ Tryz.func120 rfl (N := 53) rfl rfl (by simp) ?_
  have w0 : IntKind.i64.wrap ((a : Int) + 1) = ((a + 1 : Nat) : Int) := by rw [zo (by omega) (by omega)]; simp
  have FF := @w0; refine zB ?_; clear FF
  refine zaM (fun n A τ => A 0 = .rs j 0 d.size ∧ A 1 = .raw (.int .i64 a) ∧ A 2 = .raw (.int .i64 b) ∧ A 3 = .fn (.func g) [] [] ∧ ∃ (i : Nat) (d' : Array Rg), A 8 = .raw (.int .i64 i) ∧ a + 1 ≤ i ∧ n = b + 1 - i ∧ d'.size = d.size ∧
    Sort.insOuter (zv c) a b i d' = Sort.insertionSort (zv c) d a b ∧ τ.m j = some (zT d') ∧ τ.set j (zT d) = σ) (b + 1 - (a + 1)) ?_ ?_
  · simp
    exact ⟨a + 1, by simp, by omega, by omega, d, rfl, rfl, hj, za7 hj⟩
  rintro n A τ ⟨a0, a1, a2, a3, i, d', a8, hai, rfl, hd', hins, hτ, hτσ⟩
  by_cases hib : i < b
  · have wi : IntKind.i64.wrap ((i : Int) + 1) = ((i + 1 : Nat) : Int) := by rw [zo (by omega) (by omega)]; simp
    have FF := fI @a0 (fI @a1 (fI @a2 (fI @a3 (fI @a8 @hib)))); refine zB ?_; clear FF
    refine zaM (fun n B τ' => B 0 = .rs j 0 d.size ∧ B 1 = .raw (.int .i64 a) ∧ B 2 = .raw (.int .i64 b) ∧ B 3 = .fn (.func g) [] [] ∧ B 8 = .raw (.int .i64 i) ∧ ∃ (k : Nat) (e : Array Rg), B 9 = .raw (.int .i64 k) ∧ k ≤ i ∧ n = k ∧ e.size = d.size ∧
      Sort.insInner (zv c) a k e = Sort.insInner (zv c) a i d' ∧ τ'.m j = some (zT e) ∧ τ'.set j (zT d) = σ) i ?_ ?_
    · simp [a0, a1, a2, a3, a8]
      exact ⟨i, rfl, Nat.le_refl _, rfl, d', hd', rfl, hτ, hτσ⟩
    rintro n B τ' ⟨b0, b1, b2, b3, b8, k, e, b9, hki, hnk, he, hinn, hτ', hτσ'⟩
    have hb' : τ'.m j = some (.buf (e.toList.map zp)) := hτ'
    by_cases hka : a < k
    · have hx : e[k]? = some e[k]! := zV (by omega)
      have hy : e[k - 1]? = some e[k - 1]! := zV (by omega)
      have wk : IntKind.i64.wrap ((k : Int) - 1) = ((k - 1 : Nat) : Int) := by rw [zo (by omega) (by omega)]; omega
      have hks : (k : Int) < d.size := by omega
      have hks2 : ((k - 1 : Nat) : Int) < d.size := by omega
      have FF := fI @b0 (fI @b1 (fI @b2 (fI @b3 (fI @b8 (fI @b9 (fI @hka (fI @hb' (fI @hx (fI @hy (fI @wk (fI @hjs (fI @hks (fI @hks2 (fI @rg_cells @rg_fold)))))))))))))); refine zB ?_; clear FF
      refine PCalls.use (hc.calls _ _) ?_
      have hne : ¬ k = k - 1 := by omega
      have hins1 : Sort.insInner (zv c) a k e = if zv c e[k]! e[k - 1]! = true then Sort.insInner (zv c) a (k - 1) (Sort.swp e k (k - 1)) else e := by
        obtain ⟨m, rfl⟩ : ∃ m, k = m + 1 := ⟨k - 1, by omega⟩
        rw [Sort.insInner]; simp [hka]
      (try ((first | with_reducible refine zs ?_ | with_reducible refine zx ?_ | with_reducible refine zy ?_); simp [b0, b1, b2, b3, b8, b9, hka, hb', hx, hy, wk, hjs, hks, hks2, rg_cells, rg_fold, he, zaa, hne, zaD])); repeat' (first | ((first | refine zm ?_ | refine zl ?_ | refine dN (by decide +kernel) ?_ | (refine zb ?_ ?_ <;> (intro hg; simp only [hg])) | fail) <;> simp [b0, b1, b2, b3, b8, b9, hka, hb', hx, hy, wk, hjs, hks, hks2, rg_cells, rg_fold, he, zaa, hne, zaD]) | refine zf ?_ | refine zg ?_ | (refine zF ?_; simp only [zG]; try simp) | ((first | refine zq (by simp) ?_ | refine zu (by simp) (by simp) (by simp (maxDischargeDepth := 30) [b0, b1, b2, b3, b8, b9, hka, hb', hx, hy, wk, hjs, hks, hks2, rg_cells, rg_fold, he, zaa, hne, zaD]) ?_ | fail); simp) | (refine zd (fun hc => ?_) (fun hc => ?_) <;> try simp at hc) | fail)
      · refine ⟨k - 1, by omega, k - 1, rfl, by omega, rfl, Sort.swp e k (k - 1), by rw [zaP, he], ?_, by simp [zT], hτσ'⟩
        rw [← hinn, hins1, if_pos (by simpa [zv] using hc)]
      · refine ⟨b - i, by omega, i + 1, wi, by omega, by omega, e, he, ?_, rfl, hτσ'⟩
        rw [← hins]
        conv => rhs; rw [Sort.insOuter, if_pos hib, ← hinn, hins1, if_neg (by simp [zv]; omega)]
    · have hne : Sort.insInner (zv c) a k e = e := by
        cases k with
        | zero => rfl
        | succ m => rw [Sort.insInner]; simp [hka]
      have FF := fI @b0 (fI @b1 (fI @b2 (fI @b3 (fI @b8 (fI @b9 @hka))))); refine zB ?_; clear FF
      refine ⟨b - i, by omega, i + 1, wi, by omega, by omega, e, he, ?_, hτ', hτσ'⟩
      rw [← hins]
      conv => rhs; rw [Sort.insOuter, if_pos hib, ← hinn, hne]
  · have FF := fI @a0 (fI @a1 (fI @a2 (fI @a3 (fI @a8 @hib)))); refine zB ?_; clear FF
    refine zY (x := .tup []) (.inl rfl) (by simp) ⟨rfl, ?_⟩
    rw [Sort.insOuter, if_neg hib] at hins
    rw [← hτσ, zce, ← hins, za7 hτ]
end Go.Proofs.YtpboabpapgimoaaGreat.Av.Zn
namespace Go.Proofs.YtpboabpapgimoaaGreat.Av.Zn
open Go
set_option linter.unusedSimpArgs false
set_option linter.unusedVariables false
set_option maxRecDepth 100000
set_option pp.maxSteps 300
theorem zgm {g : FuncId} {c : Rg → Rg → Int} (hcc : Cmp g c) {j : Id} (hjs : j.sz = 2) {d : Array Rg} {lo hi first : Nat} (hb : first + hi ≤ d.size) (hsz : d.size < 2 ^ 43) (hlo : lo ≤ d.size) {σ : St} (hj : σ.m j = some (zT d)) :
    ACalls Tryz.prog 138 [.rs j 0 d.size, .raw (.int .i64 lo), .raw (.int .i64 hi), .raw (.int .i64 first), .fn (.func g) [] []] σ fun r τ => r = .tup [] ∧ τ = σ.set j (zT (Sort.siftDown (zv c) hi first lo d)) := by
  refine zaZ Tryz.func138 rfl (N := 82) rfl rfl (by simp) ?_
  refine za0 ?_
  refine zaM (fun n A τ => A 0 = .rs j 0 d.size ∧ A 2 = .raw (.int .i64 hi) ∧ A 3 = .raw (.int .i64 first) ∧ A 4 = .fn (.func g) [] [] ∧ ∃ (r : Nat) (d' : Array Rg), A 10 = .raw (.int .i64 r) ∧ n = d.size + 1 - r ∧ d'.size = d.size ∧ r ≤ d.size ∧
    Sort.siftDown (zv c) hi first r d' = Sort.siftDown (zv c) hi first lo d ∧ τ.m j = some (zT d') ∧ τ.set j (zT d) = σ) (d.size + 1 - lo) ?_ ?_
  · simp
    exact ⟨lo, rfl, rfl, d, rfl, hlo, rfl, hj, za7 hj⟩
  rintro n A τ ⟨a0, a2, a3, a4, r, d', a10, hn, hd', hr, hins, hτ, hτσ⟩
  have hb' : τ.m j = some (.buf (d'.toList.map zp)) := hτ
  have done : τ = σ.set j (zT d') := by rw [← hτσ, zce, za7 hτ]
  have w1 : IntKind.i64.wrap (2 * (r : Int)) = ((2 * r : Nat) : Int) := by rw [zo (by omega) (by omega)]; omega
  have w2 : IntKind.i64.wrap (((2 * r : Nat) : Int) + 1) = ((2 * r + 1 : Nat) : Int) := by rw [zo (by omega) (by omega)]; omega
  by_cases h1 : hi ≤ 2 * r + 1
  · have h1' : (hi : Int) ≤ ((2 * r + 1 : Nat) : Int) := by omega
    generalize ((2 * r : Nat) : Int) = y at *
    generalize hq : 2 * r + 1 = q at *
    have FF := fI @a0 (fI @a2 (fI @a3 (fI @a4 (fI @a10 (fI @w1 (fI @w2 @h1')))))); refine zB ?_; clear FF
    refine zY (x := .tup []) (.inl rfl) (by simp) ⟨rfl, ?_⟩
    rw [← hins, Sort.siftDown, dif_pos (by omega)]
    exact done
  · obtain ⟨q, hq⟩ : ∃ q : Nat, 2 * r + 1 = q := ⟨_, rfl⟩
    obtain ⟨q1, hq1⟩ : ∃ q1 : Nat, q + 1 = q1 := ⟨_, rfl⟩
    obtain ⟨fq, hfq⟩ : ∃ fq : Nat, first + q = fq := ⟨_, rfl⟩
    obtain ⟨fp, hfp⟩ : ∃ fp : Nat, fq + 1 = fp := ⟨_, rfl⟩
    obtain ⟨fr, hfr⟩ : ∃ fr : Nat, first + r = fr := ⟨_, rfl⟩
    have h1' : ¬ (hi : Int) ≤ (q : Int) := by omega
    have h1q : q < hi := by omega
    have w3 : IntKind.i64.wrap ((q : Int) + 1) = q1 := by rw [zo (by omega) (by omega)]; omega
    have w4 : IntKind.i64.wrap ((first : Int) + q) = fq := by rw [zo (by omega) (by omega)]; omega
    have w5 : IntKind.i64.wrap ((fq : Int) + 1) = fp := by rw [zo (by omega) (by omega)]; omega
    have w6 : IntKind.i64.wrap ((first : Int) + r) = fr := by rw [zo (by omega) (by omega)]; omega
    have w7 : IntKind.i64.wrap ((first : Int) + q1) = fp := by rw [zo (by omega) (by omega)]; omega
    have hx : d'[fq]? = some d'[fq]! := zV (by omega)
    have hz : d'[fr]? = some d'[fr]! := zV (by omega)
    have b1 : (fq : Int) < d.size := by omega
    have b3 : (fr : Int) < d.size := by omega
    rw [hq] at w2
    have hne : ¬ fr = fq := by omega
    generalize ((2 * r : Nat) : Int) = y at *
    have hsd : Sort.siftDown (zv c) hi first r d' = if (q1 < hi && zv c d'[fq]! d'[fp]!) = true then (if (!zv c d'[fr]! d'[fp]!) = true then d' else Sort.siftDown (zv c) hi first q1 (Sort.swp d' fr fp)) else (if (!zv c d'[fr]! d'[fq]!) = true then d' else Sort.siftDown (zv c) hi first q (Sort.swp d' fr fq)) := by
      rw [Sort.siftDown, dif_neg (by omega)]
      have e1 : 2 * r + 1 + 1 = q1 := by omega
      have e2 : first + (2 * r + 1) = fq := by omega
      have e3 : fq + 1 = fp := hfp
      have e4 : first + r = fr := hfr
      have e5 : first + q1 = fp := by omega
      rw [e1, e2, e3, e4, e5, hq]
      by_cases hh : q1 < hi
      · simp [hh]
      · simp [hh]
    by_cases h2 : q1 < hi
    · have hy : d'[fp]? = some d'[fp]! := zV (by omega)
      have b2 : (fp : Int) < d.size := by omega
      have hne2 : ¬ fr = fp := by omega
      have FF := fI @a0 (fI @a2 (fI @a3 (fI @a4 (fI @a10 (fI @w1 (fI @w2 (fI @h1' (fI @h1q (fI @w3 (fI @w4 (fI @w5 (fI @w6 (fI @w7 (fI @hx (fI @hz (fI @hb' (fI @b1 (fI @b3 (fI @h2 (fI @hy (fI @b2 (fI @hjs (fI @rg_cells (fI @rg_fold @hd')))))))))))))))))))))))); refine zB ?_; clear FF
      refine PCalls.use (hcc.calls _ _) ?_
      (try ((first | with_reducible refine zs ?_ | with_reducible refine zx ?_ | with_reducible refine zy ?_); simp [a0, a2, a3, a4, a10, w1, w2, h1', h1q, w3, w4, w5, w6, w7, hx, hz, hb', b1, b3, h2, hy, b2, hjs, rg_cells, rg_fold, hd'])); repeat' (first | ((first | refine zm ?_ | refine zl ?_ | refine dN (by decide +kernel) ?_ | (refine zb ?_ ?_ <;> (intro hg; simp only [hg])) | fail) <;> simp [a0, a2, a3, a4, a10, w1, w2, h1', h1q, w3, w4, w5, w6, w7, hx, hz, hb', b1, b3, h2, hy, b2, hjs, rg_cells, rg_fold, hd']) | refine zf ?_ | refine zg ?_ | (refine zF ?_; simp only [zG]; try simp) | ((first | refine zq (by simp) ?_ | refine zu (by simp) (by simp) (by simp (maxDischargeDepth := 30) [a0, a2, a3, a4, a10, w1, w2, h1', h1q, w3, w4, w5, w6, w7, hx, hz, hb', b1, b3, h2, hy, b2, hjs, rg_cells, rg_fold, hd']) ?_ | fail); simp) | (refine zd (fun hc => ?_) (fun hc => ?_) <;> try simp at hc) | fail)
      · have hc1 : zv c d'[fq]! d'[fp]! = true := by simpa [zv] using hc
        refine PCalls.use (hcc.calls _ _) ?_
        (try ((first | with_reducible refine zs ?_ | with_reducible refine zx ?_ | with_reducible refine zy ?_); simp [a0, a2, a3, a4, a10, w1, w2, h1', h1q, w3, w4, w5, w6, w7, hx, hz, hb', b1, b3, h2, hy, b2, hjs, rg_cells, rg_fold, hd', zaa, hne, hne2, zaD])); repeat' (first | ((first | refine zm ?_ | refine zl ?_ | refine dN (by decide +kernel) ?_ | (refine zb ?_ ?_ <;> (intro hg; simp only [hg])) | fail) <;> simp [a0, a2, a3, a4, a10, w1, w2, h1', h1q, w3, w4, w5, w6, w7, hx, hz, hb', b1, b3, h2, hy, b2, hjs, rg_cells, rg_fold, hd', zaa, hne, hne2, zaD]) | refine zf ?_ | refine zg ?_ | (refine zF ?_; simp only [zG]; try simp) | ((first | refine zq (by simp) ?_ | refine zu (by simp) (by simp) (by simp (maxDischargeDepth := 30) [a0, a2, a3, a4, a10, w1, w2, h1', h1q, w3, w4, w5, w6, w7, hx, hz, hb', b1, b3, h2, hy, b2, hjs, rg_cells, rg_fold, hd', zaa, hne, hne2, zaD]) ?_ | fail); simp) | (refine zd (fun hc => ?_) (fun hc => ?_) <;> try simp at hc) | fail)
        · have hc2 : zv c d'[fr]! d'[fp]! = false := by simpa [zv] using hc
          refine zY (x := .tup []) (.inr rfl) (by simp) ⟨rfl, ?_⟩
          rw [← hins, hsd]
          simp only [h2, hc1, hc2, Bool.and_true, Bool.true_and, Bool.false_and, Bool.and_false, decide_true, decide_false, if_true, Bool.not_false, Bool.false_eq_true, if_false]
          exact done
        · have hc2 : zv c d'[fr]! d'[fp]! = true := by simpa [zv] using hc
          refine ⟨d.size + 1 - q1, by omega, q1, rfl, rfl, Sort.swp d' fr fp, by rw [zaP, hd'], by omega, ?_, by simp [zT], hτσ⟩
          rw [← hins, hsd]
          simp only [h2, hc1, hc2, Bool.and_true, Bool.true_and, Bool.false_and, Bool.and_false, decide_true, decide_false, if_true, Bool.not_true, Bool.false_eq_true, if_false]
      · have hc1 : zv c d'[fq]! d'[fp]! = false := by simpa [zv] using hc
        refine PCalls.use (hcc.calls _ _) ?_
        (try ((first | with_reducible refine zs ?_ | with_reducible refine zx ?_ | with_reducible refine zy ?_); simp [a0, a2, a3, a4, a10, w1, w2, h1', h1q, w3, w4, w5, w6, w7, hx, hz, hb', b1, b3, h2, hy, b2, hjs, rg_cells, rg_fold, hd', zaa, hne, hne2, zaD])); repeat' (first | ((first | refine zm ?_ | refine zl ?_ | refine dN (by decide +kernel) ?_ | (refine zb ?_ ?_ <;> (intro hg; simp only [hg])) | fail) <;> simp [a0, a2, a3, a4, a10, w1, w2, h1', h1q, w3, w4, w5, w6, w7, hx, hz, hb', b1, b3, h2, hy, b2, hjs, rg_cells, rg_fold, hd', zaa, hne, hne2, zaD]) | refine zf ?_ | refine zg ?_ | (refine zF ?_; simp only [zG]; try simp) | ((first | refine zq (by simp) ?_ | refine zu (by simp) (by simp) (by simp (maxDischargeDepth := 30) [a0, a2, a3, a4, a10, w1, w2, h1', h1q, w3, w4, w5, w6, w7, hx, hz, hb', b1, b3, h2, hy, b2, hjs, rg_cells, rg_fold, hd', zaa, hne, hne2, zaD]) ?_ | fail); simp) | (refine zd (fun hc => ?_) (fun hc => ?_) <;> try simp at hc) | fail)
        · have hc2 : zv c d'[fr]! d'[fq]! = false := by simpa [zv] using hc
          refine zY (x := .tup []) (.inr rfl) (by simp) ⟨rfl, ?_⟩
          rw [← hins, hsd]
          simp only [h2, hc1, hc2, Bool.and_true, Bool.true_and, Bool.false_and, Bool.and_false, decide_true, decide_false, if_true, Bool.not_false, Bool.false_eq_true, if_false]
          exact done
        · have hc2 : zv c d'[fr]! d'[fq]! = true := by simpa [zv] using hc
          refine ⟨d.size + 1 - q, by omega, q, rfl, rfl, Sort.swp d' fr fq, by rw [zaP, hd'], by omega, ?_, by simp [zT], hτσ⟩
          rw [← hins, hsd]
          simp only [h2, hc1, hc2, Bool.and_true, Bool.true_and, Bool.false_and, Bool.and_false, decide_true, decide_false, if_true, Bool.not_true, Bool.false_eq_true, if_false]
    · have FF := fI @a0 (fI @a2 (fI @a3 (fI @a4 (fI @a10 (fI @w1 (fI @w2 (fI @h1' (fI @h1q (fI @w3 (fI @w4 (fI @w5 (fI @w6 (fI @w7 (fI @hx (fI @hz (fI @hb' (fI @b1 (fI @b3 (fI @h2 (fI @hjs (fI @rg_cells (fI @rg_fold (fI @hd' (fI @zaa (fI @hne @zaD))))))))))))))))))))))))); refine zB ?_; clear FF
      refine PCalls.use (hcc.calls _ _) ?_
      (try ((first | with_reducible refine zs ?_ | with_reducible refine zx ?_ | with_reducible refine zy ?_); simp [a0, a2, a3, a4, a10, w1, w2, h1', h1q, w3, w4, w5, w6, w7, hx, hz, hb', b1, b3, h2, hjs, rg_cells, rg_fold, hd', zaa, hne, zaD])); repeat' (first | ((first | refine zm ?_ | refine zl ?_ | refine dN (by decide +kernel) ?_ | (refine zb ?_ ?_ <;> (intro hg; simp only [hg])) | fail) <;> simp [a0, a2, a3, a4, a10, w1, w2, h1', h1q, w3, w4, w5, w6, w7, hx, hz, hb', b1, b3, h2, hjs, rg_cells, rg_fold, hd', zaa, hne, zaD]) | refine zf ?_ | refine zg ?_ | (refine zF ?_; simp only [zG]; try simp) | ((first | refine zq (by simp) ?_ | refine zu (by simp) (by simp) (by simp (maxDischargeDepth := 30) [a0, a2, a3, a4, a10, w1, w2, h1', h1q, w3, w4, w5, w6, w7, hx, hz, hb', b1, b3, h2, hjs, rg_cells, rg_fold, hd', zaa, hne, zaD]) ?_ | fail); simp) | (refine zd (fun hc => ?_) (fun hc => ?_) <;> try simp at hc) | fail)
      · have hc2 : zv c d'[fr]! d'[fq]! = false := by simpa [zv] using hc
        refine zY (x := .tup []) (.inr rfl) (by simp) ⟨rfl, ?_⟩
        rw [← hins, hsd]
        simp only [h2, hc2, Bool.and_true, Bool.true_and, Bool.false_and, Bool.and_false, decide_true, decide_false, if_true, Bool.not_false, Bool.false_eq_true, if_false]
        exact done
      · have hc2 : zv c d'[fr]! d'[fq]! = true := by simpa [zv] using hc
        refine ⟨d.size + 1 - q, by omega, q, rfl, rfl, Sort.swp d' fr fq, by rw [zaP, hd'], by omega, ?_, by simp [zT], hτσ⟩
        rw [← hins, hsd]
        simp only [h2, hc2, Bool.and_true, Bool.true_and, Bool.false_and, Bool.and_false, decide_true, decide_false, if_true, Bool.not_true, Bool.false_eq_true, if_false]
end Go.Proofs.YtpboabpapgimoaaGreat.Av.Zn
namespace Go.Proofs.YtpboabpapgimoaaGreat.Av.Zn
open Go
set_option linter.unusedSimpArgs false
set_option linter.unusedVariables false
set_option maxRecDepth 100000
set_option pp.maxSteps 300
theorem zqC (lt : Rg → Rg → Bool) (hi first : Nat) : ∀ (n root : Nat) (d : Array Rg), hi - root ≤ n → (Sort.siftDown lt hi first root d).size = d.size := by
  intro n
  induction n with
  | zero =>
    intro root d h
    rw [Sort.siftDown, dif_pos (by omega)]
  | succ n ih =>
    intro root d h
    rw [Sort.siftDown]
    split
    · rfl
    · split
      · split
        · rfl
        · split
          · rw [ih _ _ (by omega), zaP]
          · rfl
      · split
        · rfl
        · rw [ih _ _ (by omega), zaP]
theorem ziQ (lt : Rg → Rg → Bool) (hi first root : Nat) (d : Array Rg) : (Sort.siftDown lt hi first root d).size = d.size := zqC lt hi first _ root d (Nat.le_refl _)
theorem zg1 {d : Array Rg} {i : Nat} (h : i < d.size) : d.setIfInBounds i d[i]! = d := by
  rw [getElem!_pos d i h]
  apply Array.ext
  · simp
  · intro k h1 h2
    rw [Array.getElem_setIfInBounds]
    split
    · rename_i e; subst e; rfl
    · rfl
theorem zpZ {d : Array Rg} {i : Nat} (h : i < d.size) : Sort.swp d i i = d := by
  simp only [Sort.swp]
  rw [zg1 h, zg1 h]
theorem zp0 {d : Array Rg} {i : Nat} (h : i < d.size) : (d.toList.map zp).set i (zp d[i]!) = d.toList.map zp := by
  rw [zkn, zg1 h]
theorem zko {g : FuncId} {c : Rg → Rg → Int} (hcc : Cmp g c) {j : Id} (hjs : j.sz = 2) {d : Array Rg} {a b : Nat} (hab : a ≤ b) (hb : b ≤ d.size) (hsz : d.size < 2 ^ 43) {σ : St} (hj : σ.m j = some (zT d)) :
    ACalls Tryz.prog 121 [.rs j 0 d.size, .raw (.int .i64 a), .raw (.int .i64 b), .fn (.func g) [] []] σ fun r τ => r = .tup [] ∧ τ = σ.set j (zT (Sort.heapSort (zv c) d a b)) := by
  refine zaZ Tryz.func121 rfl (N := 60) rfl rfl (by simp) ?_
  obtain ⟨hi, hhi⟩ : ∃ hi, b - a = hi := ⟨_, rfl⟩
  have w1 : IntKind.i64.wrap ((b : Int) - a) = hi := by rw [zo (by omega) (by omega)]; omega
  have w2 : IntKind.i64.wrap ((hi : Int) - 1) = (hi : Int) - 1 := zo (by omega) (by omega)
  have w3 : ((hi : Int) - 1).tdiv 2 = (((hi - 1) / 2 + 1 : Nat) : Int) - 1 := by
    rcases Nat.eq_zero_or_pos hi with h | h
    · subst h; rfl
    · have e : (hi : Int) - 1 = ((hi - 1 : Nat) : Int) := by omega
      rw [e, Int.tdiv_eq_ediv_of_nonneg (by omega)]; omega
  have w4 : IntKind.i64.wrap ((((hi - 1) / 2 + 1 : Nat) : Int) - 1) = (((hi - 1) / 2 + 1 : Nat) : Int) - 1 := zo (by omega) (by omega)
  obtain ⟨k0, hk0⟩ : ∃ k0 : Nat, (hi - 1) / 2 + 1 = k0 := ⟨_, rfl⟩
  rw [hk0] at w3 w4
  have hk0b : k0 ≤ d.size + 1 := by omega
  have FF := fI @w1 (fI @w2 (fI @w3 @w4)); refine zB ?_; clear FF
  refine zaM (fun n A τ => A 0 = .rs j 0 d.size ∧ A 3 = .fn (.func g) [] [] ∧ A 8 = .raw (.int .i64 a) ∧ A 9 = .raw (.int .i64 0) ∧ A 10 = .raw (.int .i64 hi) ∧ ∃ (d' : Array Rg), A 11 = .raw (.int .i64 ((n : Int) - 1)) ∧ d'.size = d.size ∧ n ≤ k0 ∧
    Sort.heapBuild (zv c) hi a n d' = Sort.heapBuild (zv c) hi a k0 d ∧ τ.m j = some (zT d') ∧ τ.set j (zT d) = σ) k0 ?_ ?_
  · simp
    exact ⟨d, rfl, rfl, hj, za7 hj⟩
  rintro n A τ ⟨a0, a3, a8, a9, a10, d', a11, hd', hn, hins, hτ, hτσ⟩
  cases n with
  | succ n =>
    have e1 : ((n + 1 : Nat) : Int) - 1 = n := by omega
    rw [e1] at a11
    have w5 : IntKind.i64.wrap ((n : Int) - 1) = (n : Int) - 1 := zo (by omega) (by omega)
    have FF := fI @a0 (fI @a3 (fI @a8 (fI @a9 (fI @a10 (fI @a11 @w5))))); refine zB ?_; clear FF
    have := zgm hcc hjs (d := d') (lo := n) (hi := hi) (first := a) (by omega) (by omega) (by omega) hτ
    rw [hd'] at this
    refine this.mono ?_
    rintro _ τ' ⟨rfl, rfl⟩
    have FF := fI @a0 (fI @a3 (fI @a8 (fI @a9 (fI @a10 (fI @a11 @w5))))); refine zB ?_; clear FF
    exact ⟨n, by omega, rfl, Sort.siftDown (zv c) hi a n d', by rw [ziQ, hd'], by omega, by rw [← hins]; rfl, ⟨⟨_, hτ⟩, rfl⟩, hτσ⟩
  | zero =>
    have FF := fI @a0 (fI @a3 (fI @a8 (fI @a9 (fI @a10 (fI @a11 @w2))))); refine zB ?_; clear FF
    refine zaM (fun n B τ => B 0 = .rs j 0 d.size ∧ B 3 = .fn (.func g) [] [] ∧ B 8 = .raw (.int .i64 a) ∧ B 9 = .raw (.int .i64 0) ∧ ∃ (e : Array Rg), B 12 = .raw (.int .i64 ((n : Int) - 1)) ∧ e.size = d.size ∧ n ≤ hi ∧
      Sort.heapPop (zv c) a n e = Sort.heapSort (zv c) d a b ∧ τ.m j = some (zT e) ∧ τ.set j (zT d) = σ) hi ?_ ?_
    · simp [a0, a3, a8, a9]
      refine ⟨d', hd', ?_, hτ, hτσ⟩
      have : d' = Sort.heapBuild (zv c) hi a k0 d := by rw [← hins]; rfl
      rw [this, Sort.heapSort, hhi, hk0]
    rintro n B τ' ⟨b0, b3, b8, b9, e, b12, he, hn2, hpop, hτ', hτσ'⟩
    cases n with
    | succ n =>
      have e1 : ((n + 1 : Nat) : Int) - 1 = n := by omega
      rw [e1] at b12
      have w5 : IntKind.i64.wrap ((n : Int) - 1) = (n : Int) - 1 := zo (by omega) (by omega)
      obtain ⟨fk, hfk⟩ : ∃ fk, a + n = fk := ⟨_, rfl⟩
      have w6 : IntKind.i64.wrap ((a : Int) + n) = fk := by rw [zo (by omega) (by omega)]; omega
      have hb' : τ'.m j = some (.buf (e.toList.map zp)) := hτ'
      have hx : e[a]? = some e[a]! := zV (by omega)
      have hy : e[fk]? = some e[fk]! := zV (by omega)
      have c1 : (a : Int) < d.size := by omega
      have c2 : (fk : Int) < d.size := by omega
      have key := fun (τ2 : St) (h : τ2.m j = some (zT (Sort.swp e a fk))) => zgm hcc hjs (d := Sort.swp e a fk) (lo := 0) (hi := n) (first := a) (by rw [zaP]; omega) (by rw [zaP]; omega) (by omega) h
      simp only [zaP, he] at key
      have hpop1 : Sort.heapPop (zv c) a (n + 1) e = Sort.heapPop (zv c) a n (Sort.siftDown (zv c) n a 0 (Sort.swp e a fk)) := by rw [Sort.heapPop, hfk]
      by_cases hne : a = fk
      · subst hne
        have hss := zp0 (d := e) (i := a) (by omega)
        rw [zpZ (by omega)] at key hpop1
        have FF := fI @b0 (fI @b3 (fI @b8 (fI @b9 (fI @b12 (fI @w5 (fI @w6 (fI @hb' (fI @hx (fI @hy (fI @c1 (fI @c2 (fI @hjs (fI @rg_cells (fI @rg_fold (fI @zaa (fI @he @hss)))))))))))))))); refine zB ?_; clear FF
        refine (key _ (by simp [zT, hb'])).mono ?_
        rintro _ τ2 ⟨rfl, rfl⟩
        have FF := fI @b0 (fI @b3 (fI @b8 (fI @b9 (fI @b12 @w5)))); refine zB ?_; clear FF
        exact ⟨n, by omega, rfl, Sort.siftDown (zv c) n a 0 e, by rw [ziQ, he], by omega, by rw [← hpop1, hpop], ⟨⟨_, hτ'⟩, rfl⟩, hτσ'⟩
      · have FF := fI @b0 (fI @b3 (fI @b8 (fI @b9 (fI @b12 (fI @w5 (fI @w6 (fI @hb' (fI @hx (fI @hy (fI @c1 (fI @c2 (fI @hjs (fI @rg_cells (fI @rg_fold (fI @zaa (fI @he (fI @hne @zaD))))))))))))))))); refine zB ?_; clear FF
        refine (key _ (by simp [zT, hb'])).mono ?_
        rintro _ τ2 ⟨rfl, rfl⟩
        have FF := fI @b0 (fI @b3 (fI @b8 (fI @b9 (fI @b12 @w5)))); refine zB ?_; clear FF
        exact ⟨n, by omega, rfl, Sort.siftDown (zv c) n a 0 (Sort.swp e a fk), by rw [ziQ, zaP, he], by omega, by rw [← hpop1, hpop], ⟨⟨_, hτ'⟩, rfl⟩, hτσ'⟩
    | zero =>
      have FF := fI @b0 (fI @b3 (fI @b8 (fI @b9 @b12))); refine zB ?_; clear FF
      refine zY (x := .tup []) (.inl rfl) (by simp) ⟨rfl, ?_⟩
      rw [← hτσ', zce, ← hpop]
      exact (za7 hτ').symm
end Go.Proofs.YtpboabpapgimoaaGreat.Av.Zn
namespace Go.Proofs.YtpboabpapgimoaaGreat.Av.Zn
open Go
set_option linter.unusedSimpArgs false
set_option linter.unusedVariables false
set_option maxRecDepth 100000
set_option pp.maxSteps 300
theorem zlp {g : FuncId} {j : Id} (hjs : j.sz = 2) {d : Array Rg} {a b : Nat} (hab : a < b) (hb : b ≤ d.size) (hsz : d.size < 2 ^ 43) {σ : St} (hj : σ.m j = some (zT d)) :
    ACalls Tryz.prog 124 [.rs j 0 d.size, .raw (.int .i64 a), .raw (.int .i64 b), .fn (.func g) [] []] σ fun r τ => r = .tup [] ∧ τ = σ.set j (zT (Sort.reverseRange d a b)) := by
  refine zaZ Tryz.func124 rfl (N := 34) rfl rfl (by simp) ?_
  have w1 : IntKind.i64.wrap ((b : Int) - 1) = ((b - 1 : Nat) : Int) := by rw [zo (by omega) (by omega)]; omega
  have FF := @w1; refine zB ?_; clear FF
  refine zaM (fun n A τ => A 0 = .rs j 0 d.size ∧ ∃ (i l : Nat) (d' : Array Rg), A 8 = .raw (.int .i64 i) ∧ A 9 = .raw (.int .i64 l) ∧ n = l - i ∧ l < d.size ∧ d'.size = d.size ∧
    Sort.reverseLoop i l d' = Sort.reverseRange d a b ∧ τ.m j = some (zT d') ∧ τ.set j (zT d) = σ) (b - 1 - a) ?_ ?_
  · simp
    exact ⟨a, rfl, b - 1, rfl, rfl, by omega, d, rfl, rfl, hj, za7 hj⟩
  rintro n A τ ⟨a0, i, l, d', a8, a9, hn, hl, hd', hins, hτ, hτσ⟩
  have hb' : τ.m j = some (.buf (d'.toList.map zp)) := hτ
  by_cases hil : i < l
  · have hx : d'[i]? = some d'[i]! := zV (by omega)
    have hy : d'[l]? = some d'[l]! := zV (by omega)
    have c1 : (i : Int) < d.size := by omega
    have c2 : (l : Int) < d.size := by omega
    have hne : ¬ i = l := by omega
    have w2 : IntKind.i64.wrap ((i : Int) + 1) = ((i + 1 : Nat) : Int) := by rw [zo (by omega) (by omega)]; omega
    have w3 : IntKind.i64.wrap ((l : Int) - 1) = ((l - 1 : Nat) : Int) := by rw [zo (by omega) (by omega)]; omega
    have hrev : Sort.reverseLoop i l d' = Sort.reverseLoop (i + 1) (l - 1) (Sort.swp d' i l) := by rw [Sort.reverseLoop, if_pos hil]
    generalize hi1 : i + 1 = i1 at *
    generalize hl1 : l - 1 = l1 at *
    have FF := fI @a0 (fI @a8 (fI @a9 (fI @hil (fI @hb' (fI @hx (fI @hy (fI @c1 (fI @c2 (fI @hne (fI @hjs (fI @rg_cells (fI @rg_fold (fI @zaa (fI @hd' (fI @zaD (fI @w2 @w3)))))))))))))))); refine zB ?_; clear FF
    exact ⟨l1 - i1, by omega, i1, rfl, l1, rfl, rfl, by omega, Sort.swp d' i l, by rw [zaP, hd'], by rw [← hrev, hins], rfl, hτσ⟩
  · have FF := fI @a0 (fI @a8 (fI @a9 @hil)); refine zB ?_; clear FF
    refine zY (x := .tup []) (.inl rfl) (by simp) ⟨rfl, ?_⟩
    rw [Sort.reverseLoop, if_neg hil] at hins
    rw [← hτσ, zce, ← hins, za7 hτ]
theorem zne {d : Array Rg} {i j : Nat} (hi : i < d.size) : ∀ k, ((d.toList.map zp).set i (zp d[j]!))[k]? = if i = k then some (zp d[j]!) else (d[k]?).map zp := by
  intro k
  rw [List.getElem?_set]
  simp [hi]
theorem zhI (p : Rg → Bool) (d : Array Rg) (j : Nat) : ∀ (n i : Nat), j + 1 - i ≤ n → i ≤ Sort.scanUp p d j i ∧ Sort.scanUp p d j i ≤ max i (j + 1) := by
  intro n
  induction n with
  | zero =>
    intro i h
    rw [Sort.scanUp]
    have : ¬ i ≤ j := by omega
    simp [this]
    omega
  | succ n ih =>
    intro i h
    rw [Sort.scanUp]
    split
    · rename_i hc
      simp at hc
      have := ih (i + 1) (by omega)
      omega
    · omega
theorem zf3 (p : Rg → Bool) (d : Array Rg) (i : Nat) : ∀ (j : Nat), Sort.scanDown p d i j ≤ j := by
  intro j
  induction j with
  | zero => simp [Sort.scanDown]
  | succ j ih =>
    rw [Sort.scanDown]
    split
    · omega
    · omega
end Go.Proofs.YtpboabpapgimoaaGreat.Av.Zn
namespace Go.Proofs.YtpboabpapgimoaaGreat.Av.Zn
open Go
set_option linter.unusedSimpArgs false
set_option linter.unusedVariables false
set_option maxRecDepth 100000
set_option pp.maxSteps 150
theorem zcL (d : Array Rg) {i k : Nat} (hi : i < d.size) (hk : k < d.size) : ((d.toList.map zp).set i (zp d[k]!))[k]? = some (zp d[k]!) := by
  rw [zne hi]
  split
  · rfl
  · rw [zV hk]; rfl
theorem zf4 {p : Rg → Bool} {d : Array Rg} {j i : Nat} (h : i ≤ j) : Sort.scanUp p d j i = if p d[i]! = true then Sort.scanUp p d j (i + 1) else i := by
  rw [Sort.scanUp]; simp [h]
theorem zg2 {p : Rg → Bool} {d : Array Rg} {j i : Nat} (h : ¬ i ≤ j) : Sort.scanUp p d j i = i := by
  rw [Sort.scanUp]; simp [h]
theorem zeX {p : Rg → Bool} {d : Array Rg} {i j : Nat} (h : i ≤ j) (h0 : 0 < j) : Sort.scanDown p d i j = if p d[j]! = true then Sort.scanDown p d i (j - 1) else j := by
  obtain ⟨m, rfl⟩ : ∃ m, j = m + 1 := ⟨j - 1, by omega⟩
  rw [Sort.scanDown]; simp [h]
theorem zfE {p : Rg → Bool} {d : Array Rg} {i j : Nat} (h : ¬ i ≤ j) : Sort.scanDown p d i j = j := by
  cases j with
  | zero => rfl
  | succ m => rw [Sort.scanDown]; simp [h]
def PR (o : Id) (d : Array Rg) (σ : St) (g : FuncId) (a : Nat) (e : Array Rg) (i j : Nat) (A : zL) (τ : St) : Prop :=
  τ.m o = some (zT e) ∧ τ.set o (zT d) = σ ∧ A 0 = .rs o 0 d.size ∧ A 1 = .raw (.int .i64 a) ∧ A 4 = .fn (.func g) [] [] ∧ A 12 = .raw (.int .i64 i) ∧ A 13 = .raw (.int .i64 j)
theorem zjM {g : FuncId} {c : Rg → Rg → Int} (hcc : Cmp g c) {o : Id} (hjs : o.sz = 2) {d : Array Rg} {a b pivot : Nat} (hap : a ≤ pivot) (hpb : pivot < b) (hb : b ≤ d.size) (hsz : d.size < 2 ^ 43) {σ : St} (hj : σ.m o = some (zT d)) :
    ACalls Tryz.prog 127 [.rs o 0 d.size, .raw (.int .i64 a), .raw (.int .i64 b), .raw (.int .i64 pivot), .fn (.func g) [] []] σ fun r τ =>
      r = .tup [.raw (.int .i64 (Sort.partition (zv c) d a b pivot).1), .raw (.bool (Sort.partition (zv c) d a b pivot).2.1)] ∧ τ = σ.set o (zT (Sort.partition (zv c) d a b pivot).2.2) := by
  refine zaZ Tryz.func127 rfl (N := 178) rfl rfl (by simp) ?_
  have hb' : σ.m o = some (.buf (d.toList.map zp)) := hj
  have hx : d[a]? = some d[a]! := zV (by omega)
  have hy : d[pivot]? = some d[pivot]! := zV (by omega)
  have hsw := zcL d (i := a) (k := pivot) (by omega) (by omega)
  have c1 : (a : Int) < d.size := by omega
  have c2 : (pivot : Int) < d.size := by omega
  have w1 : IntKind.i64.wrap ((a : Int) + 1) = ((a + 1 : Nat) : Int) := by rw [zo (by omega) (by omega)]; omega
  have w2 : IntKind.i64.wrap ((b : Int) - 1) = ((b - 1 : Nat) : Int) := by rw [zo (by omega) (by omega)]; omega
  obtain ⟨i0, hi0⟩ : ∃ i0, a + 1 = i0 := ⟨_, rfl⟩
  obtain ⟨j0, hj0⟩ : ∃ j0, b - 1 = j0 := ⟨_, rfl⟩
  rw [hi0] at w1
  rw [hj0] at w2
  have FF := fI @hb' (fI @hx (fI @hy (fI @hsw (fI @c1 (fI @c2 (fI @w1 (fI @w2 (fI @hjs (fI @rg_cells (fI @rg_fold (fI @zaa @zaD))))))))))); refine zB ?_; clear FF
  obtain ⟨e, he⟩ : ∃ e, Sort.swp d a pivot = e := ⟨_, rfl⟩
  have hes : e.size = d.size := by rw [← he, zaP]
  rw [he]
  obtain ⟨i2, hi2⟩ : ∃ i2, Sort.scanUp (fun x => zv c x e[a]!) e j0 i0 = i2 := ⟨_, rfl⟩
  obtain ⟨j2, hj2⟩ : ∃ j2, Sort.scanDown (fun x => !zv c x e[a]!) e i2 j0 = j2 := ⟨_, rfl⟩
  refine za9 (PR o d σ g a e i2 j0) ?_ ?_
  · refine zaM (fun n A τ => ∃ i, PR o d σ g a e i j0 A τ ∧ i0 ≤ i ∧ n = j0 + 1 - i ∧ Sort.scanUp (fun x => zv c x e[a]!) e j0 i = i2) (j0 + 1 - i0) ?_ ?_
    · exact ⟨i0, ⟨by simp [zT, hb'], by simp [zT]; exact za7 hj, by simp, by simp, by simp, by simp, by simp⟩, Nat.le_refl _, rfl, hi2⟩
    rintro n A τ ⟨i, ⟨ht, htσ, a0, a1, a4, a12, a13⟩, hii, hn, hsc⟩
    have ht' : τ.m o = some (.buf (e.toList.map zp)) := ht
    by_cases hij : i ≤ j0
    · have gx : e[i]? = some e[i]! := zV (by omega)
      have gy : e[a]? = some e[a]! := zV (by omega)
      have g1 : (i : Int) < d.size := by omega
      have g2 : (a : Int) < d.size := by omega
      have wi : IntKind.i64.wrap ((i : Int) + 1) = ((i + 1 : Nat) : Int) := by rw [zo (by omega) (by omega)]; omega
      rw [zf4 hij] at hsc
      generalize hi1 : i + 1 = i1 at *
      have FF := fI @a0 (fI @a1 (fI @a4 (fI @a12 (fI @a13 (fI @hij (fI @ht' (fI @gx (fI @gy (fI @g1 (fI @g2 (fI @hjs (fI @rg_cells (fI @rg_fold (fI @hes @wi)))))))))))))); refine zB ?_; clear FF
      refine PCalls.use (hcc.calls _ _) ?_
      (try ((first | with_reducible refine zs ?_ | with_reducible refine zx ?_ | with_reducible refine zy ?_); simp [a0, a1, a4, a12, a13, hij, ht', gx, gy, g1, g2, hjs, rg_cells, rg_fold, hes, wi])); repeat' (first | ((first | refine zm ?_ | refine zl ?_ | refine dN (by decide +kernel) ?_ | (refine zb ?_ ?_ <;> (intro hg; simp only [hg])) | fail) <;> simp [a0, a1, a4, a12, a13, hij, ht', gx, gy, g1, g2, hjs, rg_cells, rg_fold, hes, wi]) | refine zf ?_ | refine zg ?_ | (refine zF ?_; simp only [zG]; try simp) | ((first | refine zq (by simp) ?_ | refine zu (by simp) (by simp) (by simp (maxDischargeDepth := 30) [a0, a1, a4, a12, a13, hij, ht', gx, gy, g1, g2, hjs, rg_cells, rg_fold, hes, wi]) ?_ | fail); simp) | (refine zd (fun hc => ?_) (fun hc => ?_) <;> try simp at hc) | fail)
      · rw [if_pos (by simp [zv]; omega)] at hsc
        exact ⟨j0 + 1 - i1, by omega, i1, ⟨ht, htσ, by simp [a0], by simp [a1], by simp [a4], by simp [a12], by simp [a13]⟩, by omega, rfl, hsc⟩
      · rw [if_neg (by simp [zv]; omega)] at hsc
        rw [← hsc]
        exact ⟨ht, htσ, by simp [a0], by simp [a1], by simp [a4], by simp [a12], by simp [a13]⟩
    · have FF := fI @a0 (fI @a1 (fI @a4 (fI @a12 (fI @a13 @hij)))); refine zB ?_; clear FF
      rw [zg2 hij] at hsc
      rw [← hsc]
      exact ⟨ht, htσ, by simp [a0], by simp [a1], by simp [a4], by simp [a12], by simp [a13]⟩
  rintro A τ ⟨ht, htσ, a0, a1, a4, a12, a13⟩
  have hi2r := zhI (fun x => zv c x e[a]!) e j0 _ i0 (Nat.le_refl _)
  rw [hi2] at hi2r
  have FF := fI @a0 (fI @a1 (fI @a4 (fI @a12 @a13))); refine zB ?_; clear FF
  refine za9 (PR o d σ g a e i2 j2) ?_ ?_
  · refine zaM (fun n A τ => ∃ j, PR o d σ g a e i2 j A τ ∧ j ≤ j0 ∧ n = j ∧ Sort.scanDown (fun x => !zv c x e[a]!) e i2 j = j2) j0 ?_ ?_
    · exact ⟨j0, ⟨ht, htσ, by simp [a0], by simp [a1], by simp [a4], by simp [a12], by simp [a13]⟩, Nat.le_refl _, rfl, hj2⟩
    rintro n A τ ⟨j, ⟨ht, htσ, a0, a1, a4, a12, a13⟩, hjj, hn, hsc⟩
    have ht' : τ.m o = some (.buf (e.toList.map zp)) := ht
    by_cases hij : i2 ≤ j
    · have gx : e[j]? = some e[j]! := zV (by omega)
      have gy : e[a]? = some e[a]! := zV (by omega)
      have g1 : (j : Int) < d.size := by omega
      have g2 : (a : Int) < d.size := by omega
      have wi : IntKind.i64.wrap ((j : Int) - 1) = ((j - 1 : Nat) : Int) := by rw [zo (by omega) (by omega)]; omega
      rw [zeX hij (by omega)] at hsc
      generalize hj1 : j - 1 = j1 at *
      have FF := fI @a0 (fI @a1 (fI @a4 (fI @a12 (fI @a13 (fI @hij (fI @ht' (fI @gx (fI @gy (fI @g1 (fI @g2 (fI @hjs (fI @rg_cells (fI @rg_fold (fI @hes @wi)))))))))))))); refine zB ?_; clear FF
      refine PCalls.use (hcc.calls _ _) ?_
      (try ((first | with_reducible refine zs ?_ | with_reducible refine zx ?_ | with_reducible refine zy ?_); simp [a0, a1, a4, a12, a13, hij, ht', gx, gy, g1, g2, hjs, rg_cells, rg_fold, hes, wi])); repeat' (first | ((first | refine zm ?_ | refine zl ?_ | refine dN (by decide +kernel) ?_ | (refine zb ?_ ?_ <;> (intro hg; simp only [hg])) | fail) <;> simp [a0, a1, a4, a12, a13, hij, ht', gx, gy, g1, g2, hjs, rg_cells, rg_fold, hes, wi]) | refine zf ?_ | refine zg ?_ | (refine zF ?_; simp only [zG]; try simp) | ((first | refine zq (by simp) ?_ | refine zu (by simp) (by simp) (by simp (maxDischargeDepth := 30) [a0, a1, a4, a12, a13, hij, ht', gx, gy, g1, g2, hjs, rg_cells, rg_fold, hes, wi]) ?_ | fail); simp) | (refine zd (fun hc => ?_) (fun hc => ?_) <;> try simp at hc) | fail)
      · rw [if_pos (by simp [zv]; omega)] at hsc
        exact ⟨j1, by omega, j1, ⟨ht, htσ, by simp [a0], by simp [a1], by simp [a4], by simp [a12], by simp [a13]⟩, by omega, rfl, hsc⟩
      · rw [if_neg (by simp [zv]; omega)] at hsc
        rw [← hsc]
        exact ⟨ht, htσ, by simp [a0], by simp [a1], by simp [a4], by simp [a12], by simp [a13]⟩
    · have FF := fI @a0 (fI @a1 (fI @a4 (fI @a12 (fI @a13 @hij)))); refine zB ?_; clear FF
      rw [zfE hij] at hsc
      rw [← hsc]
      exact ⟨ht, htσ, by simp [a0], by simp [a1], by simp [a4], by simp [a12], by simp [a13]⟩
  rintro A τ ⟨ht, htσ, a0, a1, a4, a12, a13⟩
  have hj2r := zf3 (fun x => !zv c x e[a]!) e i2 j0
  rw [hj2] at hj2r
  have ht' : τ.m o = some (.buf (e.toList.map zp)) := ht
  have hpart : Sort.partition (zv c) d a b pivot = if i2 > j2 then (j2, true, Sort.swp e j2 a) else ((Sort.partLoop (zv c) a (i2 + 1) (j2 - 1) (Sort.swp e i2 j2)).1, false, Sort.swp (Sort.partLoop (zv c) a (i2 + 1) (j2 - 1) (Sort.swp e i2 j2)).2 (Sort.partLoop (zv c) a (i2 + 1) (j2 - 1) (Sort.swp e i2 j2)).1 a) := by
    simp only [Sort.partition, he, hi0, hj0, hi2, hj2]
  have gx : e[a]? = some e[a]! := zV (by omega)
  have gy : e[j2]? = some e[j2]! := zV (by omega)
  have g1 : (a : Int) < d.size := by omega
  have g2 : (j2 : Int) < d.size := by omega
  by_cases hgt : j2 < i2
  · have hsw2 := zcL e (i := j2) (k := a) (by omega) (by omega)
    have FF := fI @a0 (fI @a1 (fI @a4 (fI @a12 (fI @a13 (fI @hgt (fI @ht' (fI @gx (fI @gy (fI @g1 (fI @g2 (fI @hsw2 (fI @hjs (fI @rg_cells (fI @rg_fold (fI @zaa (fI @zaD @hes)))))))))))))))); refine zB ?_; clear FF
    refine zY (x := .tup [.raw (.int .i64 j2), .raw (.bool true)]) (.inr rfl) (by simp) ?_
    rw [hpart, if_pos hgt]
    refine ⟨rfl, ?_⟩
    rw [← htσ, zce]; rfl
  · have g3 : (i2 : Int) < d.size := by omega
    have gz : e[i2]? = some e[i2]! := zV (by omega)
    have hsw2 := zcL e (i := i2) (k := j2) (by omega) (by omega)
    have w3 : IntKind.i64.wrap ((i2 : Int) + 1) = ((i2 + 1 : Nat) : Int) := by rw [zo (by omega) (by omega)]; omega
    have w4 : IntKind.i64.wrap ((j2 : Int) - 1) = ((j2 - 1 : Nat) : Int) := by rw [zo (by omega) (by omega)]; omega
    obtain ⟨i3, hi3⟩ : ∃ i3, i2 + 1 = i3 := ⟨_, rfl⟩
    obtain ⟨j3, hj3⟩ : ∃ j3, j2 - 1 = j3 := ⟨_, rfl⟩
    obtain ⟨e1, he1⟩ : ∃ e1, Sort.swp e i2 j2 = e1 := ⟨_, rfl⟩
    have hes1 : e1.size = d.size := by rw [← he1, zaP, hes]
    rw [hi3, hj3, he1] at hpart
    rw [if_neg (by omega)] at hpart
    rw [hi3] at w3
    rw [hj3] at w4
    have FF := fI @a0 (fI @a1 (fI @a4 (fI @a12 (fI @a13 (fI @hgt (fI @ht' (fI @gx (fI @gy (fI @gz (fI @g1 (fI @g2 (fI @g3 (fI @hsw2 (fI @hjs (fI @rg_cells (fI @rg_fold (fI @zaa (fI @zaD (fI @hes (fI @w3 (fI @w4 @he1))))))))))))))))))))); refine zB ?_; clear FF
    obtain ⟨jf, ef, hpl⟩ : ∃ jf ef, Sort.partLoop (zv c) a i3 j3 e1 = (jf, ef) := ⟨_, _, rfl⟩
    rw [hpl] at hpart
    refine za9 (fun A τ => ∃ i', PR o d σ g a ef i' jf A τ ∧ ef.size = d.size ∧ jf < d.size) ?_ ?_
    · refine zaM (fun n A τ => ∃ e' ia ja, PR o d σ g a e' ia ja A τ ∧ e'.size = d.size ∧ 1 ≤ ia ∧ ja < d.size ∧ n = ja + 1 - ia ∧ Sort.partLoop (zv c) a ia ja e' = (jf, ef)) (j3 + 1 - i3) ?_ ?_
      · exact ⟨e1, i3, j3, ⟨by simp [zT, ht'], by simp [zT]; exact htσ, by simp [a0], by simp [a1], by simp [a4], by simp, by simp⟩, hes1, by omega, by omega, rfl, hpl⟩
      rintro n0 A τ ⟨e', ia, ja, ⟨ht, htσ, a0, a1, a4, a12, a13⟩, hes', hia, hja, hn0, hpl'⟩
      obtain ⟨k2, hk2⟩ : ∃ k2, Sort.scanUp (fun x => zv c x e'[a]!) e' ja ia = k2 := ⟨_, rfl⟩
      obtain ⟨l2, hl2⟩ : ∃ l2, Sort.scanDown (fun x => !zv c x e'[a]!) e' k2 ja = l2 := ⟨_, rfl⟩
      have hk2r := zhI (fun x => zv c x e'[a]!) e' ja _ ia (Nat.le_refl _)
      rw [hk2] at hk2r
      have hl2r := zf3 (fun x => !zv c x e'[a]!) e' k2 ja
      rw [hl2] at hl2r
      have FF := fI @a0 (fI @a1 (fI @a4 (fI @a12 @a13))); refine zB ?_; clear FF
      refine za9 (PR o d σ g a e' k2 ja) ?_ ?_
      · refine zaM (fun n A τ => ∃ i, PR o d σ g a e' i ja A τ ∧ ia ≤ i ∧ n = ja + 1 - i ∧ Sort.scanUp (fun x => zv c x e'[a]!) e' ja i = k2) (ja + 1 - ia) ?_ ?_
        · exact ⟨ia, ⟨ht, htσ, by simp [a0], by simp [a1], by simp [a4], by simp [a12], by simp [a13]⟩, Nat.le_refl _, rfl, hk2⟩
        rintro n A τ ⟨i, ⟨ht, htσ, a0, a1, a4, a12, a13⟩, hii, hn, hsc⟩
        have ht' : τ.m o = some (.buf (e'.toList.map zp)) := ht
        by_cases hij : i ≤ ja
        · have gx : e'[i]? = some e'[i]! := zV (by omega)
          have gy : e'[a]? = some e'[a]! := zV (by omega)
          have g1 : (i : Int) < d.size := by omega
          have g2 : (a : Int) < d.size := by omega
          have wi : IntKind.i64.wrap ((i : Int) + 1) = ((i + 1 : Nat) : Int) := by rw [zo (by omega) (by omega)]; omega
          rw [zf4 hij] at hsc
          generalize hi1 : i + 1 = i1 at *
          have FF := fI @a0 (fI @a1 (fI @a4 (fI @a12 (fI @a13 (fI @hij (fI @ht' (fI @gx (fI @gy (fI @g1 (fI @g2 (fI @hjs (fI @rg_cells (fI @rg_fold (fI @hes' @wi)))))))))))))); refine zB ?_; clear FF
          refine PCalls.use (hcc.calls _ _) ?_
          (try ((first | with_reducible refine zs ?_ | with_reducible refine zx ?_ | with_reducible refine zy ?_); simp [a0, a1, a4, a12, a13, hij, ht', gx, gy, g1, g2, hjs, rg_cells, rg_fold, hes', wi])); repeat' (first | ((first | refine zm ?_ | refine zl ?_ | refine dN (by decide +kernel) ?_ | (refine zb ?_ ?_ <;> (intro hg; simp only [hg])) | fail) <;> simp [a0, a1, a4, a12, a13, hij, ht', gx, gy, g1, g2, hjs, rg_cells, rg_fold, hes', wi]) | refine zf ?_ | refine zg ?_ | (refine zF ?_; simp only [zG]; try simp) | ((first | refine zq (by simp) ?_ | refine zu (by simp) (by simp) (by simp (maxDischargeDepth := 30) [a0, a1, a4, a12, a13, hij, ht', gx, gy, g1, g2, hjs, rg_cells, rg_fold, hes', wi]) ?_ | fail); simp) | (refine zd (fun hc => ?_) (fun hc => ?_) <;> try simp at hc) | fail)
          · rw [if_pos (by simp [zv]; omega)] at hsc
            exact ⟨ja + 1 - i1, by omega, i1, ⟨ht, htσ, by simp [a0], by simp [a1], by simp [a4], by simp [a12], by simp [a13]⟩, by omega, rfl, hsc⟩
          · rw [if_neg (by simp [zv]; omega)] at hsc
            rw [← hsc]
            exact ⟨ht, htσ, by simp [a0], by simp [a1], by simp [a4], by simp [a12], by simp [a13]⟩
        · have FF := fI @a0 (fI @a1 (fI @a4 (fI @a12 (fI @a13 @hij)))); refine zB ?_; clear FF
          rw [zg2 hij] at hsc
          rw [← hsc]
          exact ⟨ht, htσ, by simp [a0], by simp [a1], by simp [a4], by simp [a12], by simp [a13]⟩
      rintro A τ ⟨ht, htσ, a0, a1, a4, a12, a13⟩
      have FF := fI @a0 (fI @a1 (fI @a4 (fI @a12 @a13))); refine zB ?_; clear FF
      refine za9 (PR o d σ g a e' k2 l2) ?_ ?_
      · refine zaM (fun n A τ => ∃ j, PR o d σ g a e' k2 j A τ ∧ j ≤ ja ∧ n = j ∧ Sort.scanDown (fun x => !zv c x e'[a]!) e' k2 j = l2) ja ?_ ?_
        · exact ⟨ja, ⟨ht, htσ, by simp [a0], by simp [a1], by simp [a4], by simp [a12], by simp [a13]⟩, Nat.le_refl _, rfl, hl2⟩
        rintro n A τ ⟨j, ⟨ht, htσ, a0, a1, a4, a12, a13⟩, hjj, hn, hsc⟩
        have ht' : τ.m o = some (.buf (e'.toList.map zp)) := ht
        by_cases hij : k2 ≤ j
        · have gx : e'[j]? = some e'[j]! := zV (by omega)
          have gy : e'[a]? = some e'[a]! := zV (by omega)
          have g1 : (j : Int) < d.size := by omega
          have g2 : (a : Int) < d.size := by omega
          have wi : IntKind.i64.wrap ((j : Int) - 1) = ((j - 1 : Nat) : Int) := by rw [zo (by omega) (by omega)]; omega
          rw [zeX hij (by omega)] at hsc
          generalize hj1 : j - 1 = j1 at *
          have FF := fI @a0 (fI @a1 (fI @a4 (fI @a12 (fI @a13 (fI @hij (fI @ht' (fI @gx (fI @gy (fI @g1 (fI @g2 (fI @hjs (fI @rg_cells (fI @rg_fold (fI @hes' @wi)))))))))))))); refine zB ?_; clear FF
          refine PCalls.use (hcc.calls _ _) ?_
          (try ((first | with_reducible refine zs ?_ | with_reducible refine zx ?_ | with_reducible refine zy ?_); simp [a0, a1, a4, a12, a13, hij, ht', gx, gy, g1, g2, hjs, rg_cells, rg_fold, hes', wi])); repeat' (first | ((first | refine zm ?_ | refine zl ?_ | refine dN (by decide +kernel) ?_ | (refine zb ?_ ?_ <;> (intro hg; simp only [hg])) | fail) <;> simp [a0, a1, a4, a12, a13, hij, ht', gx, gy, g1, g2, hjs, rg_cells, rg_fold, hes', wi]) | refine zf ?_ | refine zg ?_ | (refine zF ?_; simp only [zG]; try simp) | ((first | refine zq (by simp) ?_ | refine zu (by simp) (by simp) (by simp (maxDischargeDepth := 30) [a0, a1, a4, a12, a13, hij, ht', gx, gy, g1, g2, hjs, rg_cells, rg_fold, hes', wi]) ?_ | fail); simp) | (refine zd (fun hc => ?_) (fun hc => ?_) <;> try simp at hc) | fail)
          · rw [if_pos (by simp [zv]; omega)] at hsc
            exact ⟨j1, by omega, j1, ⟨ht, htσ, by simp [a0], by simp [a1], by simp [a4], by simp [a12], by simp [a13]⟩, by omega, rfl, hsc⟩
          · rw [if_neg (by simp [zv]; omega)] at hsc
            rw [← hsc]
            exact ⟨ht, htσ, by simp [a0], by simp [a1], by simp [a4], by simp [a12], by simp [a13]⟩
        · have FF := fI @a0 (fI @a1 (fI @a4 (fI @a12 (fI @a13 @hij)))); refine zB ?_; clear FF
          rw [zfE hij] at hsc
          rw [← hsc]
          exact ⟨ht, htσ, by simp [a0], by simp [a1], by simp [a4], by simp [a12], by simp [a13]⟩
      rintro A τ ⟨ht, htσ, a0, a1, a4, a12, a13⟩
      have hpl1 : Sort.partLoop (zv c) a ia ja e' = if k2 > l2 then (l2, e') else Sort.partLoop (zv c) a (k2 + 1) (l2 - 1) (Sort.swp e' k2 l2) := by
        rw [Sort.partLoop]
        simp only [hk2, hl2]
        split
        · rfl
        · rw [dif_pos (by omega)]
      by_cases hgt2 : l2 < k2
      · rw [hpl1, if_pos hgt2] at hpl'
        injection hpl' with q1 q2
        subst q1 q2
        have FF := fI @a0 (fI @a1 (fI @a4 (fI @a12 (fI @a13 @hgt2)))); refine zB ?_; clear FF
        exact ⟨⟨k2, ht, htσ, by simp [a0], by simp [a1], by simp [a4], by simp [a12], by simp [a13]⟩, hes', by omega⟩
      · rw [hpl1, if_neg (by omega)] at hpl'
        have ht' : τ.m o = some (.buf (e'.toList.map zp)) := ht
        have gx : e'[k2]? = some e'[k2]! := zV (by omega)
        have gy : e'[l2]? = some e'[l2]! := zV (by omega)
        have g4 : (k2 : Int) < d.size := by omega
        have g5 : (l2 : Int) < d.size := by omega
        have hsw3 := zcL e' (i := k2) (k := l2) (by omega) (by omega)
        have w5 : IntKind.i64.wrap ((k2 : Int) + 1) = ((k2 + 1 : Nat) : Int) := by rw [zo (by omega) (by omega)]; omega
        have w6 : IntKind.i64.wrap ((l2 : Int) - 1) = ((l2 - 1 : Nat) : Int) := by rw [zo (by omega) (by omega)]; omega
        obtain ⟨k3, hk3⟩ : ∃ k3, k2 + 1 = k3 := ⟨_, rfl⟩
        obtain ⟨l3, hl3⟩ : ∃ l3, l2 - 1 = l3 := ⟨_, rfl⟩
        rw [hk3] at w5 hpl'
        rw [hl3] at w6 hpl'
        have FF := fI @a0 (fI @a1 (fI @a4 (fI @a12 (fI @a13 (fI @hgt2 (fI @ht' (fI @gx (fI @gy (fI @g4 (fI @g5 (fI @hsw3 (fI @hjs (fI @rg_cells (fI @rg_fold (fI @zaa (fI @zaD (fI @hes' (fI @w5 @w6)))))))))))))))))); refine zB ?_; clear FF
        exact ⟨l3 + 1 - k3, by omega, Sort.swp e' k2 l2, k3, l3, ⟨by simp [zT, ht'], by simp [zT]; exact htσ, by simp [a0], by simp [a1], by simp [a4], by simp, by simp⟩, by rw [zaP, hes'], by omega, by omega, rfl, hpl'⟩
    · rintro A τ ⟨i', ⟨ht, htσ, a0, a1, a4, a12, a13⟩, hef, hjf⟩
      have ht' : τ.m o = some (.buf (ef.toList.map zp)) := ht
      have gx : ef[a]? = some ef[a]! := zV (by omega)
      have gy : ef[jf]? = some ef[jf]! := zV (by omega)
      have g4 : (jf : Int) < d.size := by omega
      have hsw3 := zcL ef (i := jf) (k := a) (by omega) (by omega)
      have FF := fI @a0 (fI @a1 (fI @a4 (fI @a12 (fI @a13 (fI @ht' (fI @gx (fI @gy (fI @g1 (fI @g4 (fI @hsw3 (fI @hjs (fI @rg_cells (fI @rg_fold (fI @zaa (fI @zaD @hef))))))))))))))); refine zB ?_; clear FF
      refine zY (x := .tup [.raw (.int .i64 jf), .raw (.bool false)]) (.inr rfl) (by simp) ?_
      rw [hpart]
      refine ⟨rfl, ?_⟩
      rw [← htσ, zce]; rfl
end Go.Proofs.YtpboabpapgimoaaGreat.Av.Zn
namespace Go.Proofs.YtpboabpapgimoaaGreat.Av.Zn
open Go
set_option linter.unusedSimpArgs false
set_option linter.unusedVariables false
set_option maxRecDepth 100000
set_option pp.maxSteps 150
def PQ (o : Id) (d : Array Rg) (σ : St) (g : FuncId) (a : Nat) (e : Array Rg) (i j : Nat) (A : zL) (τ : St) : Prop :=
  τ.m o = some (zT e) ∧ τ.set o (zT d) = σ ∧ A 0 = .rs o 0 d.size ∧ A 1 = .raw (.int .i64 a) ∧ A 4 = .fn (.func g) [] [] ∧ A 11 = .raw (.int .i64 i) ∧ A 12 = .raw (.int .i64 j)
theorem zg3 {g : FuncId} {c : Rg → Rg → Int} (hcc : Cmp g c) {o : Id} (hjs : o.sz = 2) {d : Array Rg} {a b pivot : Nat} (hap : a ≤ pivot) (hpb : pivot < b) (hb : b ≤ d.size) (hsz : d.size < 2 ^ 43) {σ : St} (hj : σ.m o = some (zT d)) :
    ACalls Tryz.prog 126 [.rs o 0 d.size, .raw (.int .i64 a), .raw (.int .i64 b), .raw (.int .i64 pivot), .fn (.func g) [] []] σ fun r τ =>
      r = .raw (.int .i64 (Sort.partitionEqual (zv c) d a b pivot).1) ∧ τ = σ.set o (zT (Sort.partitionEqual (zv c) d a b pivot).2) := by
  refine zaZ Tryz.func126 rfl (N := 90) rfl rfl (by simp) ?_
  have hb' : σ.m o = some (.buf (d.toList.map zp)) := hj
  have hx : d[a]? = some d[a]! := zV (by omega)
  have hy : d[pivot]? = some d[pivot]! := zV (by omega)
  have hsw := zcL d (i := a) (k := pivot) (by omega) (by omega)
  have c1 : (a : Int) < d.size := by omega
  have c2 : (pivot : Int) < d.size := by omega
  have w1 : IntKind.i64.wrap ((a : Int) + 1) = ((a + 1 : Nat) : Int) := by rw [zo (by omega) (by omega)]; omega
  have w2 : IntKind.i64.wrap ((b : Int) - 1) = ((b - 1 : Nat) : Int) := by rw [zo (by omega) (by omega)]; omega
  obtain ⟨i0, hi0⟩ : ∃ i0, a + 1 = i0 := ⟨_, rfl⟩
  obtain ⟨j0, hj0⟩ : ∃ j0, b - 1 = j0 := ⟨_, rfl⟩
  rw [hi0] at w1
  rw [hj0] at w2
  have FF := fI @hb' (fI @hx (fI @hy (fI @hsw (fI @c1 (fI @c2 (fI @w1 (fI @w2 (fI @hjs (fI @rg_cells (fI @rg_fold (fI @zaa @zaD))))))))))); refine zB ?_; clear FF
  obtain ⟨e, he⟩ : ∃ e, Sort.swp d a pivot = e := ⟨_, rfl⟩
  have hes : e.size = d.size := by rw [← he, zaP]
  rw [he]
  obtain ⟨jf, ef, hpl⟩ : ∃ jf ef, Sort.partEqLoop (zv c) a i0 j0 e = (jf, ef) := ⟨_, _, rfl⟩
  have hpart : Sort.partitionEqual (zv c) d a b pivot = (jf, ef) := by simp only [Sort.partitionEqual, he, hi0, hj0, hpl]
  rw [hpart]
  refine za9 (fun A τ => ∃ j', PQ o d σ g a ef jf j' A τ) ?_ ?_
  · refine zaM (fun n A τ => ∃ e' ia ja, PQ o d σ g a e' ia ja A τ ∧ e'.size = d.size ∧ 1 ≤ ia ∧ ja < d.size ∧ n = ja + 1 - ia ∧ Sort.partEqLoop (zv c) a ia ja e' = (jf, ef)) (j0 + 1 - i0) ?_ ?_
    · exact ⟨e, i0, j0, ⟨by simp [zT, hb'], by simp [zT]; exact za7 hj, by simp, by simp, by simp, by simp, by simp⟩, hes, by omega, by omega, rfl, hpl⟩
    rintro n0 A τ ⟨e', ia, ja, ⟨ht, htσ, a0, a1, a4, a12, a13⟩, hes', hia, hja, hn0, hpl'⟩
    obtain ⟨k2, hk2⟩ : ∃ k2, Sort.scanUp (fun x => !zv c e'[a]! x) e' ja ia = k2 := ⟨_, rfl⟩
    obtain ⟨l2, hl2⟩ : ∃ l2, Sort.scanDown (fun x => zv c e'[a]! x) e' k2 ja = l2 := ⟨_, rfl⟩
    have hk2r := zhI (fun x => !zv c e'[a]! x) e' ja _ ia (Nat.le_refl _)
    rw [hk2] at hk2r
    have hl2r := zf3 (fun x => zv c e'[a]! x) e' k2 ja
    rw [hl2] at hl2r
    have FF := fI @a0 (fI @a1 (fI @a4 (fI @a12 @a13))); refine zB ?_; clear FF
    refine za9 (PQ o d σ g a e' k2 ja) ?_ ?_
    · refine zaM (fun n A τ => ∃ i, PQ o d σ g a e' i ja A τ ∧ ia ≤ i ∧ n = ja + 1 - i ∧ Sort.scanUp (fun x => !zv c e'[a]! x) e' ja i = k2) (ja + 1 - ia) ?_ ?_
      · exact ⟨ia, ⟨ht, htσ, by simp [a0], by simp [a1], by simp [a4], by simp [a12], by simp [a13]⟩, Nat.le_refl _, rfl, hk2⟩
      rintro n A τ ⟨i, ⟨ht, htσ, a0, a1, a4, a12, a13⟩, hii, hn, hsc⟩
      have ht' : τ.m o = some (.buf (e'.toList.map zp)) := ht
      by_cases hij : i ≤ ja
      · have gx : e'[i]? = some e'[i]! := zV (by omega)
        have gy : e'[a]? = some e'[a]! := zV (by omega)
        have g1 : (i : Int) < d.size := by omega
        have g2 : (a : Int) < d.size := by omega
        have wi : IntKind.i64.wrap ((i : Int) + 1) = ((i + 1 : Nat) : Int) := by rw [zo (by omega) (by omega)]; omega
        rw [zf4 hij] at hsc
        generalize hi1 : i + 1 = i1 at *
        have FF := fI @a0 (fI @a1 (fI @a4 (fI @a12 (fI @a13 (fI @hij (fI @ht' (fI @gx (fI @gy (fI @g1 (fI @g2 (fI @hjs (fI @rg_cells (fI @rg_fold (fI @hes' @wi)))))))))))))); refine zB ?_; clear FF
        refine PCalls.use (hcc.calls _ _) ?_
        (try ((first | with_reducible refine zs ?_ | with_reducible refine zx ?_ | with_reducible refine zy ?_); simp [a0, a1, a4, a12, a13, hij, ht', gx, gy, g1, g2, hjs, rg_cells, rg_fold, hes', wi])); repeat' (first | ((first | refine zm ?_ | refine zl ?_ | refine dN (by decide +kernel) ?_ | (refine zb ?_ ?_ <;> (intro hg; simp only [hg])) | fail) <;> simp [a0, a1, a4, a12, a13, hij, ht', gx, gy, g1, g2, hjs, rg_cells, rg_fold, hes', wi]) | refine zf ?_ | refine zg ?_ | (refine zF ?_; simp only [zG]; try simp) | ((first | refine zq (by simp) ?_ | refine zu (by simp) (by simp) (by simp (maxDischargeDepth := 30) [a0, a1, a4, a12, a13, hij, ht', gx, gy, g1, g2, hjs, rg_cells, rg_fold, hes', wi]) ?_ | fail); simp) | (refine zd (fun hc => ?_) (fun hc => ?_) <;> try simp at hc) | fail)
        · rw [if_pos (by simp [zv]; omega)] at hsc
          exact ⟨ja + 1 - i1, by omega, i1, ⟨ht, htσ, by simp [a0], by simp [a1], by simp [a4], by simp [a12], by simp [a13]⟩, by omega, rfl, hsc⟩
        · rw [if_neg (by simp [zv]; omega)] at hsc
          rw [← hsc]
          exact ⟨ht, htσ, by simp [a0], by simp [a1], by simp [a4], by simp [a12], by simp [a13]⟩
      · have FF := fI @a0 (fI @a1 (fI @a4 (fI @a12 (fI @a13 @hij)))); refine zB ?_; clear FF
        rw [zg2 hij] at hsc
        rw [← hsc]
        exact ⟨ht, htσ, by simp [a0], by simp [a1], by simp [a4], by simp [a12], by simp [a13]⟩
    rintro A τ ⟨ht, htσ, a0, a1, a4, a12, a13⟩
    have FF := fI @a0 (fI @a1 (fI @a4 (fI @a12 @a13))); refine zB ?_; clear FF
    refine za9 (PQ o d σ g a e' k2 l2) ?_ ?_
    · refine zaM (fun n A τ => ∃ j, PQ o d σ g a e' k2 j A τ ∧ j ≤ ja ∧ n = j ∧ Sort.scanDown (fun x => zv c e'[a]! x) e' k2 j = l2) ja ?_ ?_
      · exact ⟨ja, ⟨ht, htσ, by simp [a0], by simp [a1], by simp [a4], by simp [a12], by simp [a13]⟩, Nat.le_refl _, rfl, hl2⟩
      rintro n A τ ⟨j, ⟨ht, htσ, a0, a1, a4, a12, a13⟩, hjj, hn, hsc⟩
      have ht' : τ.m o = some (.buf (e'.toList.map zp)) := ht
      by_cases hij : k2 ≤ j
      · have gx : e'[j]? = some e'[j]! := zV (by omega)
        have gy : e'[a]? = some e'[a]! := zV (by omega)
        have g1 : (j : Int) < d.size := by omega
        have g2 : (a : Int) < d.size := by omega
        have wi : IntKind.i64.wrap ((j : Int) - 1) = ((j - 1 : Nat) : Int) := by rw [zo (by omega) (by omega)]; omega
        rw [zeX hij (by omega)] at hsc
        generalize hj1 : j - 1 = j1 at *
        have FF := fI @a0 (fI @a1 (fI @a4 (fI @a12 (fI @a13 (fI @hij (fI @ht' (fI @gx (fI @gy (fI @g1 (fI @g2 (fI @hjs (fI @rg_cells (fI @rg_fold (fI @hes' @wi)))))))))))))); refine zB ?_; clear FF
        refine PCalls.use (hcc.calls _ _) ?_
        (try ((first | with_reducible refine zs ?_ | with_reducible refine zx ?_ | with_reducible refine zy ?_); simp [a0, a1, a4, a12, a13, hij, ht', gx, gy, g1, g2, hjs, rg_cells, rg_fold, hes', wi])); repeat' (first | ((first | refine zm ?_ | refine zl ?_ | refine dN (by decide +kernel) ?_ | (refine zb ?_ ?_ <;> (intro hg; simp only [hg])) | fail) <;> simp [a0, a1, a4, a12, a13, hij, ht', gx, gy, g1, g2, hjs, rg_cells, rg_fold, hes', wi]) | refine zf ?_ | refine zg ?_ | (refine zF ?_; simp only [zG]; try simp) | ((first | refine zq (by simp) ?_ | refine zu (by simp) (by simp) (by simp (maxDischargeDepth := 30) [a0, a1, a4, a12, a13, hij, ht', gx, gy, g1, g2, hjs, rg_cells, rg_fold, hes', wi]) ?_ | fail); simp) | (refine zd (fun hc => ?_) (fun hc => ?_) <;> try simp at hc) | fail)
        · rw [if_pos (by simp [zv]; omega)] at hsc
          exact ⟨j1, by omega, j1, ⟨ht, htσ, by simp [a0], by simp [a1], by simp [a4], by simp [a12], by simp [a13]⟩, by omega, rfl, hsc⟩
        · rw [if_neg (by simp [zv]; omega)] at hsc
          rw [← hsc]
          exact ⟨ht, htσ, by simp [a0], by simp [a1], by simp [a4], by simp [a12], by simp [a13]⟩
      · have FF := fI @a0 (fI @a1 (fI @a4 (fI @a12 (fI @a13 @hij)))); refine zB ?_; clear FF
        rw [zfE hij] at hsc
        rw [← hsc]
        exact ⟨ht, htσ, by simp [a0], by simp [a1], by simp [a4], by simp [a12], by simp [a13]⟩
    rintro A τ ⟨ht, htσ, a0, a1, a4, a12, a13⟩
    have hpl1 : Sort.partEqLoop (zv c) a ia ja e' = if k2 > l2 then (k2, e') else Sort.partEqLoop (zv c) a (k2 + 1) (l2 - 1) (Sort.swp e' k2 l2) := by
      rw [Sort.partEqLoop]
      simp only [hk2, hl2]
      split
      · rfl
      · rw [dif_pos (by omega)]
    by_cases hgt2 : l2 < k2
    · rw [hpl1, if_pos hgt2] at hpl'
      injection hpl' with q1 q2
      subst q1 q2
      have FF := fI @a0 (fI @a1 (fI @a4 (fI @a12 (fI @a13 @hgt2)))); refine zB ?_; clear FF
      exact ⟨l2, ht, htσ, by simp [a0], by simp [a1], by simp [a4], by simp [a12], by simp [a13]⟩
    · rw [hpl1, if_neg (by omega)] at hpl'
      have ht' : τ.m o = some (.buf (e'.toList.map zp)) := ht
      have gx : e'[k2]? = some e'[k2]! := zV (by omega)
      have gy : e'[l2]? = some e'[l2]! := zV (by omega)
      have g4 : (k2 : Int) < d.size := by omega
      have g5 : (l2 : Int) < d.size := by omega
      have hsw3 := zcL e' (i := k2) (k := l2) (by omega) (by omega)
      have w5 : IntKind.i64.wrap ((k2 : Int) + 1) = ((k2 + 1 : Nat) : Int) := by rw [zo (by omega) (by omega)]; omega
      have w6 : IntKind.i64.wrap ((l2 : Int) - 1) = ((l2 - 1 : Nat) : Int) := by rw [zo (by omega) (by omega)]; omega
      obtain ⟨k3, hk3⟩ : ∃ k3, k2 + 1 = k3 := ⟨_, rfl⟩
      obtain ⟨l3, hl3⟩ : ∃ l3, l2 - 1 = l3 := ⟨_, rfl⟩
      rw [hk3] at w5 hpl'
      rw [hl3] at w6 hpl'
      have FF := fI @a0 (fI @a1 (fI @a4 (fI @a12 (fI @a13 (fI @hgt2 (fI @ht' (fI @gx (fI @gy (fI @g4 (fI @g5 (fI @hsw3 (fI @hjs (fI @rg_cells (fI @rg_fold (fI @zaa (fI @zaD (fI @hes' (fI @w5 @w6)))))))))))))))))); refine zB ?_; clear FF
      exact ⟨l3 + 1 - k3, by omega, Sort.swp e' k2 l2, k3, l3, ⟨by simp [zT, ht'], by simp [zT]; exact htσ, by simp [a0], by simp [a1], by simp [a4], by simp, by simp⟩, by rw [zaP, hes'], by omega, by omega, rfl, hpl'⟩
  · rintro A τ ⟨i', ht, htσ, a0, a1, a4, a12, a13⟩
    have FF := fI @a0 (fI @a1 (fI @a4 (fI @a12 @a13))); refine zB ?_; clear FF
    refine zY (x := .raw (.int .i64 jf)) (.inr rfl) (by simp) ⟨rfl, ?_⟩
    rw [← htσ, zce, za7 ht]
end Go.Proofs.YtpboabpapgimoaaGreat.Av.Zn
namespace Go.Proofs.YtpboabpapgimoaaGreat.Av.Zn
open Go
set_option linter.unusedSimpArgs false
set_option linter.unusedVariables false
set_option maxRecDepth 100000
set_option pp.maxSteps 150
def PI (o : Id) (d : Array Rg) (σ : St) (g : FuncId) (a b : Nat) (e : Array Rg) (i s : Nat) (A : zL) (τ : St) : Prop :=
  τ.m o = some (zT e) ∧ τ.set o (zT d) = σ ∧ A 0 = .rs o 0 d.size ∧ A 1 = .raw (.int .i64 a) ∧ A 2 = .raw (.int .i64 b) ∧ A 3 = .fn (.func g) [] [] ∧ A 9 = .raw (.int .i64 i) ∧ A 10 = .raw (.int .i64 ((5 : Int) - s))
def PJ (o : Id) (d : Array Rg) (σ : St) (g : FuncId) (a b : Nat) (e : Array Rg) (i : Nat) (x : Int) (A : zL) (τ : St) : Prop :=
  τ.m o = some (zT e) ∧ τ.set o (zT d) = σ ∧ A 0 = .rs o 0 d.size ∧ A 1 = .raw (.int .i64 a) ∧ A 2 = .raw (.int .i64 b) ∧ A 3 = .fn (.func g) [] [] ∧ A 9 = .raw (.int .i64 i) ∧ A 10 = .raw (.int .i64 x)
theorem zfR {lt : Rg → Rg → Bool} {d : Array Rg} {b i : Nat} (h : i < b) : Sort.scanSorted lt d b i = if lt d[i]! d[i - 1]! = true then i else Sort.scanSorted lt d b (i + 1) := by
  rw [Sort.scanSorted]; simp [h]
  split <;> simp_all
theorem zes {lt : Rg → Rg → Bool} {d : Array Rg} {b i : Nat} (h : ¬ i < b) : Sort.scanSorted lt d b i = i := by
  rw [Sort.scanSorted]; simp [h]
theorem zlq {lt : Rg → Rg → Bool} {d : Array Rg} {b : Nat} : ∀ (n i : Nat), b - i ≤ n → i ≤ b → i ≤ Sort.scanSorted lt d b i ∧ Sort.scanSorted lt d b i ≤ b := by
  intro n
  induction n with
  | zero => intro i h h2; rw [zes (by omega)]; omega
  | succ n ih =>
    intro i h h2
    by_cases hi : i < b
    · rw [zfR hi]
      split
      · omega
      · have := ih (i + 1) (by omega) (by omega); omega
    · rw [zes hi]; omega
theorem zkp {lt : Rg → Rg → Bool} {d : Array Rg} {k : Nat} (h : 0 < k) : Sort.shiftDown lt k d = if lt d[k]! d[k - 1]! = true then Sort.shiftDown lt (k - 1) (Sort.swp d k (k - 1)) else d := by
  obtain ⟨m, rfl⟩ : ∃ m, k = m + 1 := ⟨k - 1, by omega⟩
  rw [Sort.shiftDown]
  simp only [Nat.add_sub_cancel]
  by_cases hl : lt d[m + 1]! d[m]! = true <;> simp [hl]
theorem zmx {lt : Rg → Rg → Bool} {d : Array Rg} {b k : Nat} (h : k < b) : Sort.shiftUp lt b k d = if lt d[k]! d[k - 1]! = true then Sort.shiftUp lt b (k + 1) (Sort.swp d k (k - 1)) else d := by
  rw [Sort.shiftUp, if_pos h]
  by_cases hl : lt d[k]! d[k - 1]! = true <;> simp [hl]
theorem znf {lt : Rg → Rg → Bool} {d : Array Rg} {b k : Nat} (h : ¬ k < b) : Sort.shiftUp lt b k d = d := by rw [Sort.shiftUp, if_neg h]
theorem ziR {g : FuncId} {c : Rg → Rg → Int} (hcc : Cmp g c) {o : Id} (hjs : o.sz = 2) {d : Array Rg} {a b : Nat} (hab : a < b) (hb : b ≤ d.size) (hsz : d.size < 2 ^ 43) {σ : St} (hj : σ.m o = some (zT d)) :
    ACalls Tryz.prog 125 [.rs o 0 d.size, .raw (.int .i64 a), .raw (.int .i64 b), .fn (.func g) [] []] σ fun r τ =>
      r = .raw (.bool (Sort.partialInsertionSort (zv c) d a b).2) ∧ τ = σ.set o (zT (Sort.partialInsertionSort (zv c) d a b).1) := by
  refine zaZ Tryz.func125 rfl (N := 141) rfl rfl (by simp) ?_
  have w1 : IntKind.i64.wrap ((a : Int) + 1) = ((a + 1 : Nat) : Int) := by rw [zo (by omega) (by omega)]; omega
  obtain ⟨i0, hi0⟩ : ∃ i0, a + 1 = i0 := ⟨_, rfl⟩
  rw [hi0] at w1
  obtain ⟨df, rf, hpf⟩ : ∃ df rf, Sort.partialIns (zv c) a b 5 i0 d = (df, rf) := ⟨_, _, rfl⟩
  have hres : Sort.partialInsertionSort (zv c) d a b = (df, rf) := by rw [Sort.partialInsertionSort, hi0, hpf]
  rw [hres]
  have FF := @w1; refine zB ?_; clear FF
  refine zaM (fun n A τ => ∃ e i, PI o d σ g a b e i n A τ ∧ n ≤ 5 ∧ e.size = d.size ∧ a + 1 ≤ i ∧ i ≤ b ∧ Sort.partialIns (zv c) a b n i e = (df, rf)) 5 ?_ ?_
  · exact ⟨d, i0, ⟨by simp [hj], za7 hj, by simp, by simp, by simp, by simp, by simp, by simp⟩, by omega, rfl, by omega, by omega, hpf⟩
  rintro s A τ ⟨e, i, ⟨ht, htσ, a0, a1, a2, a3, a9, a10⟩, hs5, hes, hai, hib, hpf'⟩
  cases s with
  | zero =>
    have FF := fI @a0 (fI @a1 (fI @a2 (fI @a3 (fI @a9 @a10)))); refine zB ?_; clear FF
    rw [Sort.partialIns] at hpf'
    injection hpf' with q1 q2
    subst q1 q2
    refine zY (x := .raw (.bool false)) (.inr rfl) (by simp) ⟨rfl, ?_⟩
    rw [← htσ, zce, za7 ht]
  | succ s =>
    have hlt5 : (5 : Int) - ((s + 1 : Nat) : Int) < 5 := by omega
    obtain ⟨x5, hx5⟩ : ∃ x5 : Int, (5 : Int) - ((s + 1 : Nat) : Int) = x5 := ⟨_, rfl⟩
    rw [hx5] at a10 hlt5
    have FF := fI @a0 (fI @a1 (fI @a2 (fI @a3 (fI @a9 (fI @a10 @hlt5))))); refine zB ?_; clear FF
    obtain ⟨i2, hi2⟩ : ∃ i2, Sort.scanSorted (zv c) e b i = i2 := ⟨_, rfl⟩
    have hi2r := zlq (lt := zv c) (d := e) (b := b) _ i (Nat.le_refl _) hib
    rw [hi2] at hi2r
    have g2 : (a : Int) < d.size := by omega
    refine za9 (PJ o d σ g a b e i2 x5) ?_ ?_
    · refine zaM (fun n A τ => ∃ i', PJ o d σ g a b e i' x5 A τ ∧ i ≤ i' ∧ i' ≤ b ∧ n = b - i' ∧ Sort.scanSorted (zv c) e b i' = i2) (b - i) ?_ ?_
      · exact ⟨i, ⟨ht, htσ, by simp [a0], by simp [a1], by simp [a2], by simp [a3], by simp [a9], by simp [a10]⟩, Nat.le_refl _, hib, rfl, hi2⟩
      rintro n A τ ⟨i', ⟨ht, htσ, a0, a1, a2, a3, a9, a10⟩, hii, hib', hn, hsc⟩
      have ht' : τ.m o = some (.buf (e.toList.map zp)) := ht
      by_cases hlt : i' < b
      · have gx : e[i']? = some e[i']! := zV (by omega)
        have gy : e[i' - 1]? = some e[i' - 1]! := zV (by omega)
        have g1 : (i' : Int) < d.size := by omega
        have g3 : ((i' - 1 : Nat) : Int) < d.size := by omega
        have wi : IntKind.i64.wrap ((i' : Int) + 1) = ((i' + 1 : Nat) : Int) := by rw [zo (by omega) (by omega)]; omega
        have wp : IntKind.i64.wrap ((i' : Int) - 1) = ((i' - 1 : Nat) : Int) := by rw [zo (by omega) (by omega)]; omega
        rw [zfR hlt] at hsc
        generalize hi1 : i' + 1 = i1 at *
        generalize hi3 : i' - 1 = i3 at *
        have FF := fI @a0 (fI @a1 (fI @a2 (fI @a3 (fI @a9 (fI @a10 (fI @hlt (fI @ht' (fI @gx (fI @gy (fI @g1 (fI @g3 (fI @hjs (fI @rg_cells (fI @rg_fold (fI @hes (fI @wi @wp)))))))))))))))); refine zB ?_; clear FF
        refine PCalls.use (hcc.calls _ _) ?_
        (try ((first | with_reducible refine zs ?_ | with_reducible refine zx ?_ | with_reducible refine zy ?_); simp [a0, a1, a2, a3, a9, a10, hlt, ht', gx, gy, g1, g3, hjs, rg_cells, rg_fold, hes, wi, wp])); repeat' (first | ((first | refine zm ?_ | refine zl ?_ | refine dN (by decide +kernel) ?_ | (refine zb ?_ ?_ <;> (intro hg; simp only [hg])) | fail) <;> simp [a0, a1, a2, a3, a9, a10, hlt, ht', gx, gy, g1, g3, hjs, rg_cells, rg_fold, hes, wi, wp]) | refine zf ?_ | refine zg ?_ | (refine zF ?_; simp only [zG]; try simp) | ((first | refine zq (by simp) ?_ | refine zu (by simp) (by simp) (by simp (maxDischargeDepth := 30) [a0, a1, a2, a3, a9, a10, hlt, ht', gx, gy, g1, g3, hjs, rg_cells, rg_fold, hes, wi, wp]) ?_ | fail); simp) | (refine zd (fun hc => ?_) (fun hc => ?_) <;> try simp at hc) | fail)
        · rw [if_neg (by simp [zv]; omega)] at hsc
          exact ⟨b - i1, by omega, i1, ⟨ht, htσ, by simp [a0], by simp [a1], by simp [a2], by simp [a3], by simp, by simp [a10]⟩, by omega, by omega, rfl, hsc⟩
        · rw [if_pos (by simp [zv]; omega)] at hsc
          rw [← hsc]
          exact ⟨ht, htσ, by simp [a0], by simp [a1], by simp [a2], by simp [a3], by simp [a9], by simp [a10]⟩
      · have FF := fI @a0 (fI @a1 (fI @a2 (fI @a3 (fI @a9 (fI @a10 @hlt))))); refine zB ?_; clear FF
        rw [zes hlt] at hsc
        rw [← hsc]
        exact ⟨ht, htσ, by simp [a0], by simp [a1], by simp [a2], by simp [a3], by simp [a9], by simp [a10]⟩
    rintro A τ ⟨ht, htσ, a0, a1, a2, a3, a9, a10⟩
    have ht' : τ.m o = some (.buf (e.toList.map zp)) := ht
    have wba : IntKind.i64.wrap ((b : Int) - a) = ((b - a : Nat) : Int) := by rw [zo (by omega) (by omega)]; omega
    rw [Sort.partialIns, hi2] at hpf'
    by_cases hib2 : i2 = b
    · subst hib2
      rw [if_pos rfl] at hpf'
      injection hpf' with q1 q2
      subst q1 q2
      have FF := fI @a0 (fI @a1 (fI @a2 (fI @a3 (fI @a9 @a10)))); refine zB ?_; clear FF
      refine zY (x := .raw (.bool true)) (.inr rfl) (by simp) ⟨rfl, ?_⟩
      rw [← htσ, zce, za7 ht]
    · rw [if_neg hib2] at hpf'
      have hibi : ¬ ((i2 : Int) = b) := by omega
      by_cases h50 : b - a < 50
      · have h50' : ((b - a : Nat) : Int) < 50 := by omega
        rw [if_pos h50] at hpf'
        injection hpf' with q1 q2
        subst q1 q2
        have FF := fI @a0 (fI @a1 (fI @a2 (fI @a3 (fI @a9 (fI @a10 (fI @hib2 (fI @hibi (fI @wba @h50')))))))); refine zB ?_; clear FF
        refine zY (x := .raw (.bool false)) (.inr rfl) (by simp) ⟨rfl, ?_⟩
        rw [← htσ, zce, za7 ht]
      · have h50' : ¬ ((b - a : Nat) : Int) < 50 := by omega
        rw [if_neg h50] at hpf'
        have gx : e[i2]? = some e[i2]! := zV (by omega)
        have gy : e[i2 - 1]? = some e[i2 - 1]! := zV (by omega)
        have g1 : (i2 : Int) < d.size := by omega
        have g3 : ((i2 - 1 : Nat) : Int) < d.size := by omega
        have wp : IntKind.i64.wrap ((i2 : Int) - 1) = ((i2 - 1 : Nat) : Int) := by rw [zo (by omega) (by omega)]; omega
        have hsw2 := zcL e (i := i2) (k := i2 - 1) (by omega) (by omega)
        have wia : IntKind.i64.wrap ((i2 : Int) - a) = ((i2 - a : Nat) : Int) := by rw [zo (by omega) (by omega)]; omega
        generalize hi3 : i2 - 1 = i3 at *
        have FF := fI @wia (fI @a0 (fI @a1 (fI @a2 (fI @a3 (fI @a9 (fI @a10 (fI @hib2 (fI @hibi (fI @wba (fI @h50' (fI @ht' (fI @gx (fI @gy (fI @g1 (fI @g3 (fI @hsw2 (fI @wp (fI @hjs (fI @rg_cells (fI @rg_fold (fI @zaa (fI @zaD @hes)))))))))))))))))))))); refine goM ?_; clear FF
        obtain ⟨e1, he1⟩ : ∃ e1, Sort.swp e i2 i3 = e1 := ⟨_, rfl⟩
        have hes1 : e1.size = d.size := by rw [← he1, zaP, hes]
        rw [he1] at hpf' ⊢
        obtain ⟨e2, he2⟩ : ∃ e2, (if i2 - a ≥ 2 then Sort.shiftDown (zv c) i3 e1 else e1) = e2 := ⟨_, rfl⟩
        simp only [he2] at hpf'
        refine zfx (fun A τ => PJ o d σ g a b e2 i2 x5 A τ ∧ e2.size = d.size) ?_ ?_
        · by_cases h2 : i2 - a ≥ 2
          · rw [if_pos h2] at he2
            have h2' : (2 : Int) ≤ ((i2 - a : Nat) : Int) := by omega
            have FF := fI @a0 (fI @a1 (fI @a2 (fI @a3 (fI @a9 (fI @a10 (fI @wia (fI @h2' @wp))))))); refine zB ?_; clear FF
            refine zaM (fun n A τ => ∃ (k : Nat) (e' : Array Rg), PJ o d σ g a b e' i2 x5 A τ ∧ A 11 = .raw (.int .i64 k) ∧ n = k ∧ k ≤ i3 ∧ e'.size = d.size ∧ Sort.shiftDown (zv c) k e' = e2) i3 ?_ ?_
            · exact ⟨i3, e1, ⟨by simp [zT, ht'], by simp [zT]; exact htσ, by simp [a0], by simp [a1], by simp [a2], by simp [a3], by simp [a9], by simp [a10]⟩, by simp, rfl, Nat.le_refl _, hes1, he2⟩
            rintro n A τ ⟨k, e', ⟨ht, htσ, a0, a1, a2, a3, a9, a10⟩, a11, hn, hk, hes', hsh⟩
            have ht' : τ.m o = some (.buf (e'.toList.map zp)) := ht
            by_cases hk1 : 0 < k
            · have hk1' : (1 : Int) ≤ (k : Int) := by omega
              have gx : e'[k]? = some e'[k]! := zV (by omega)
              have gy : e'[k - 1]? = some e'[k - 1]! := zV (by omega)
              have g1 : (k : Int) < d.size := by omega
              have g3 : ((k - 1 : Nat) : Int) < d.size := by omega
              have wk : IntKind.i64.wrap ((k : Int) - 1) = ((k - 1 : Nat) : Int) := by rw [zo (by omega) (by omega)]; omega
              have hsw3 := zcL e' (i := k) (k := k - 1) (by omega) (by omega)
              rw [zkp hk1] at hsh
              generalize hkp : k - 1 = kp at *
              have FF := fI @a0 (fI @a1 (fI @a2 (fI @a3 (fI @a9 (fI @a10 (fI @a11 (fI @hk1' (fI @ht' (fI @gx (fI @gy (fI @g1 (fI @g3 (fI @hjs (fI @rg_cells (fI @rg_fold (fI @hes' @wk)))))))))))))))); refine zB ?_; clear FF
              refine PCalls.use (hcc.calls _ _) ?_
              (try ((first | with_reducible refine zs ?_ | with_reducible refine zx ?_ | with_reducible refine zy ?_); simp [a0, a1, a2, a3, a9, a10, a11, hk1', ht', gx, gy, g1, g3, hsw3, hjs, rg_cells, rg_fold, zaa, zaD, hes', wk])); repeat' (first | ((first | refine zm ?_ | refine zl ?_ | refine dN (by decide +kernel) ?_ | (refine zb ?_ ?_ <;> (intro hg; simp only [hg])) | fail) <;> simp [a0, a1, a2, a3, a9, a10, a11, hk1', ht', gx, gy, g1, g3, hsw3, hjs, rg_cells, rg_fold, zaa, zaD, hes', wk]) | refine zf ?_ | refine zg ?_ | (refine zF ?_; simp only [zG]; try simp) | ((first | refine zq (by simp) ?_ | refine zu (by simp) (by simp) (by simp (maxDischargeDepth := 30) [a0, a1, a2, a3, a9, a10, a11, hk1', ht', gx, gy, g1, g3, hsw3, hjs, rg_cells, rg_fold, zaa, zaD, hes', wk]) ?_ | fail); simp) | (refine zd (fun hc => ?_) (fun hc => ?_) <;> try simp at hc) | fail)
              · rw [if_neg (by simp [zv]; omega)] at hsh
                subst hsh
                exact ⟨⟨ht, htσ, by simp [a0], by simp [a1], by simp [a2], by simp [a3], by simp [a9], by simp [a10]⟩, hes'⟩
              · rw [if_pos (by simp [zv]; omega)] at hsh
                exact ⟨kp, by omega, kp, Sort.swp e' k kp, ⟨by simp [zT, ht'], by simp [zT]; exact htσ, by simp [a0], by simp [a1], by simp [a2], by simp [a3], by simp [a9], by simp [a10]⟩, by simp, rfl, by omega, by rw [zaP, hes'], hsh⟩
            · have hk0 : k = 0 := by omega
              subst hk0
              rw [Sort.shiftDown] at hsh
              subst hsh
              have FF := fI @a0 (fI @a1 (fI @a2 (fI @a3 (fI @a9 (fI @a10 @a11))))); refine zB ?_; clear FF
              exact ⟨⟨ht, htσ, by simp [a0], by simp [a1], by simp [a2], by simp [a3], by simp [a9], by simp [a10]⟩, hes'⟩
          · rw [if_neg h2] at he2
            subst he2
            have h2' : ¬ (2 : Int) ≤ ((i2 - a : Nat) : Int) := by omega
            have FF := fI @a0 (fI @a1 (fI @a2 (fI @a3 (fI @a9 (fI @a10 (fI @wia @h2')))))); refine zB ?_; clear FF
            exact ⟨⟨by simp [zT, ht'], by simp [zT]; exact htσ, by simp [a0], by simp [a1], by simp [a2], by simp [a3], by simp [a9], by simp [a10]⟩, hes1⟩
        · rintro A τ ⟨⟨ht, htσ, a0, a1, a2, a3, a9, a10⟩, hes2⟩
          obtain ⟨e3, he3⟩ : ∃ e3, (if b - i2 ≥ 2 then Sort.shiftUp (zv c) b (i2 + 1) e2 else e2) = e3 := ⟨_, rfl⟩
          simp only [he3] at hpf'
          have wbi : IntKind.i64.wrap ((b : Int) - i2) = ((b - i2 : Nat) : Int) := by rw [zo (by omega) (by omega)]; omega
          have FF := fI @a0 (fI @a1 (fI @a2 (fI @a3 (fI @a9 (fI @a10 @wbi))))); refine goM ?_; clear FF
          refine za9 (fun A τ => PJ o d σ g a b e3 i2 x5 A τ ∧ e3.size = d.size) ?_ ?_
          · have ht' : τ.m o = some (.buf (e2.toList.map zp)) := ht
            by_cases h2 : b - i2 ≥ 2
            · rw [if_pos h2] at he3
              have h2' : (2 : Int) ≤ ((b - i2 : Nat) : Int) := by omega
              have wi : IntKind.i64.wrap ((i2 : Int) + 1) = ((i2 + 1 : Nat) : Int) := by rw [zo (by omega) (by omega)]; omega
              obtain ⟨i4, hi4⟩ : ∃ i4, i2 + 1 = i4 := ⟨_, rfl⟩
              rw [hi4] at wi he3
              have FF := fI @a0 (fI @a1 (fI @a2 (fI @a3 (fI @a9 (fI @a10 (fI @wbi (fI @h2' @wi))))))); refine zB ?_; clear FF
              refine zaM (fun n A τ => ∃ (k : Nat) (e' : Array Rg), PJ o d σ g a b e' i2 x5 A τ ∧ A 12 = .raw (.int .i64 k) ∧ n = b - k ∧ i4 ≤ k ∧ e'.size = d.size ∧ Sort.shiftUp (zv c) b k e' = e3) (b - i4) ?_ ?_
              · exact ⟨i4, e2, ⟨ht, htσ, by simp [a0], by simp [a1], by simp [a2], by simp [a3], by simp [a9], by simp [a10]⟩, by simp, rfl, Nat.le_refl _, hes2, he3⟩
              rintro n A τ ⟨k, e', ⟨ht, htσ, a0, a1, a2, a3, a9, a10⟩, a12, hn, hk, hes', hsh⟩
              have ht' : τ.m o = some (.buf (e'.toList.map zp)) := ht
              by_cases hk1 : k < b
              · have gx : e'[k]? = some e'[k]! := zV (by omega)
                have gy : e'[k - 1]? = some e'[k - 1]! := zV (by omega)
                have g1 : (k : Int) < d.size := by omega
                have g3 : ((k - 1 : Nat) : Int) < d.size := by omega
                have wk : IntKind.i64.wrap ((k : Int) - 1) = ((k - 1 : Nat) : Int) := by rw [zo (by omega) (by omega)]; omega
                have wn : IntKind.i64.wrap ((k : Int) + 1) = ((k + 1 : Nat) : Int) := by rw [zo (by omega) (by omega)]; omega
                have hsw3 := zcL e' (i := k) (k := k - 1) (by omega) (by omega)
                rw [zmx hk1] at hsh
                generalize hkp : k - 1 = kp at *
                generalize hkn : k + 1 = kn at *
                have FF := fI @a0 (fI @a1 (fI @a2 (fI @a3 (fI @a9 (fI @a10 (fI @a12 (fI @hk1 (fI @ht' (fI @gx (fI @gy (fI @g1 (fI @g3 (fI @hjs (fI @rg_cells (fI @rg_fold (fI @hes' (fI @wk @wn))))))))))))))))); refine zB ?_; clear FF
                refine PCalls.use (hcc.calls _ _) ?_
                (try ((first | with_reducible refine zs ?_ | with_reducible refine zx ?_ | with_reducible refine zy ?_); simp [a0, a1, a2, a3, a9, a10, a12, hk1, ht', gx, gy, g1, g3, hsw3, hjs, rg_cells, rg_fold, zaa, zaD, hes', wk, wn])); repeat' (first | ((first | refine zm ?_ | refine zl ?_ | refine dN (by decide +kernel) ?_ | (refine zb ?_ ?_ <;> (intro hg; simp only [hg])) | fail) <;> simp [a0, a1, a2, a3, a9, a10, a12, hk1, ht', gx, gy, g1, g3, hsw3, hjs, rg_cells, rg_fold, zaa, zaD, hes', wk, wn]) | refine zf ?_ | refine zg ?_ | (refine zF ?_; simp only [zG]; try simp) | ((first | refine zq (by simp) ?_ | refine zu (by simp) (by simp) (by simp (maxDischargeDepth := 30) [a0, a1, a2, a3, a9, a10, a12, hk1, ht', gx, gy, g1, g3, hsw3, hjs, rg_cells, rg_fold, zaa, zaD, hes', wk, wn]) ?_ | fail); simp) | (refine zd (fun hc => ?_) (fun hc => ?_) <;> try simp at hc) | fail)
                · rw [if_neg (by simp [zv]; omega)] at hsh
                  subst hsh
                  exact ⟨⟨ht, htσ, by simp [a0], by simp [a1], by simp [a2], by simp [a3], by simp [a9], by simp [a10]⟩, hes'⟩
                · rw [if_pos (by simp [zv]; omega)] at hsh
                  exact ⟨b - kn, by omega, kn, Sort.swp e' k kp, ⟨by simp [zT, ht'], by simp [zT]; exact htσ, by simp [a0], by simp [a1], by simp [a2], by simp [a3], by simp [a9], by simp [a10]⟩, by simp, rfl, by omega, by rw [zaP, hes'], hsh⟩
              · rw [znf hk1] at hsh
                subst hsh
                have FF := fI @a0 (fI @a1 (fI @a2 (fI @a3 (fI @a9 (fI @a10 (fI @a12 @hk1)))))); refine zB ?_; clear FF
                exact ⟨⟨ht, htσ, by simp [a0], by simp [a1], by simp [a2], by simp [a3], by simp [a9], by simp [a10]⟩, hes'⟩
            · rw [if_neg h2] at he3
              subst he3
              have h2' : ¬ (2 : Int) ≤ ((b - i2 : Nat) : Int) := by omega
              have FF := fI @a0 (fI @a1 (fI @a2 (fI @a3 (fI @a9 (fI @a10 (fI @wbi @h2')))))); refine zB ?_; clear FF
              exact ⟨⟨ht, htσ, by simp [a0], by simp [a1], by simp [a2], by simp [a3], by simp [a9], by simp [a10]⟩, hes2⟩
          · rintro A τ ⟨⟨ht, htσ, a0, a1, a2, a3, a9, a10⟩, hes3⟩
            have w10 : IntKind.i64.wrap (x5 + 1) = (5 : Int) - s := by rw [zo (by omega) (by omega)]; omega
            have FF := fI @a0 (fI @a1 (fI @a2 (fI @a3 (fI @a9 (fI @a10 @w10))))); refine zB ?_; clear FF
            exact ⟨s, by omega, e3, i2, ⟨ht, htσ, by simp [a0], by simp [a1], by simp [a2], by simp [a3], by simp [a9], by simp⟩, by omega, hes3, by omega, by omega, hpf'⟩
end Go.Proofs.YtpboabpapgimoaaGreat.Av.Zn
namespace Go.Proofs.YtpboabpapgimoaaGreat.Av.Zn
open Go
set_option linter.unusedSimpArgs false
set_option linter.unusedVariables false
set_option maxRecDepth 100000
set_option pp.maxSteps 150
theorem zfF {g : FuncId} {c : Rg → Rg → Int} (hcc : Cmp g c) {o w : Id} (hjs : o.sz = 2) (hws : w.sz = 1) (how : w ≠ o) {d : Array Rg} {a b k : Nat} (ha : a < d.size) (hb : b < d.size) (hk : k < 2 ^ 40) (hsz : d.size < 2 ^ 43) {σ : St} (hj : σ.m o = some (zT d)) (hw : σ.m w = some (.buf [.raw (.int .i64 k)])) :
    ACalls Tryz.prog 147 [.rs o 0 d.size, .raw (.int .i64 a), .raw (.int .i64 b), .rp w 0 0, .fn (.func g) [] []] σ fun r τ =>
      r = .tup [.raw (.int .i64 (Sort.order2 (zv c) d a b k).1), .raw (.int .i64 (Sort.order2 (zv c) d a b k).2.1)] ∧ τ = σ.set w (.buf [.raw (.int .i64 (Sort.order2 (zv c) d a b k).2.2)]) := by
  refine zaZ Tryz.func147 rfl (N := 32) rfl rfl (by simp) ?_
  have hb' : σ.m o = some (.buf (d.toList.map zp)) := hj
  have gx : d[a]? = some d[a]! := zV ha
  have gy : d[b]? = some d[b]! := zV hb
  have g1 : (a : Int) < d.size := by omega
  have g2 : (b : Int) < d.size := by omega
  have w1 : IntKind.i64.wrap ((k : Int) + 1) = ((k + 1 : Nat) : Int) := by rw [zo (by omega) (by omega)]; omega
  obtain ⟨k1, hk1⟩ : ∃ k1, k + 1 = k1 := ⟨_, rfl⟩
  rw [hk1] at w1
  have FF := fI @hb' (fI @gx (fI @gy (fI @g1 (fI @g2 (fI @hjs (fI @hws (fI @rg_cells (fI @rg_fold (fI @w1 @hw))))))))); refine zB ?_; clear FF
  refine PCalls.use (hcc.calls _ _) ?_
  (try ((first | with_reducible refine zs ?_ | with_reducible refine zx ?_ | with_reducible refine zy ?_); simp [hb', gx, gy, g1, g2, hjs, hws, rg_cells, rg_fold, w1, hw])); repeat' (first | ((first | refine zm ?_ | refine zl ?_ | refine dN (by decide +kernel) ?_ | (refine zb ?_ ?_ <;> (intro hg; simp only [hg])) | fail) <;> simp [hb', gx, gy, g1, g2, hjs, hws, rg_cells, rg_fold, w1, hw]) | refine zf ?_ | refine zg ?_ | (refine zF ?_; simp only [zG]; try simp) | ((first | refine zq (by simp) ?_ | refine zu (by simp) (by simp) (by simp (maxDischargeDepth := 30) [hb', gx, gy, g1, g2, hjs, hws, rg_cells, rg_fold, w1, hw]) ?_ | fail); simp) | (refine zd (fun hc => ?_) (fun hc => ?_) <;> try simp at hc) | fail)
  · have hl : zv c d[b]! d[a]! = true := by simp [zv]; omega
    have e1 : Sort.order2 (zv c) d a b k = (b, a, k1) := by rw [Sort.order2, if_pos hl, hk1]
    rw [e1]
    exact zY (x := .tup [.raw (.int .i64 b), .raw (.int .i64 a)]) (.inr rfl) (by simp) ⟨rfl, rfl⟩
  · have hl : ¬ zv c d[b]! d[a]! = true := by simp [zv]; omega
    have e1 : Sort.order2 (zv c) d a b k = (a, b, k) := by rw [Sort.order2, if_neg hl]
    rw [e1]
    exact zY (x := .tup [.raw (.int .i64 a), .raw (.int .i64 b)]) (.inr rfl) (by simp) ⟨rfl, (za7 hw).symm⟩
theorem zeR (lt : Rg → Rg → Bool) (d : Array Rg) {a b k n : Nat} (ha : a < n) (hb : b < n) : (Sort.order2 lt d a b k).1 < n ∧ (Sort.order2 lt d a b k).2.1 < n ∧ k ≤ (Sort.order2 lt d a b k).2.2 ∧ (Sort.order2 lt d a b k).2.2 ≤ k + 1 := by
  unfold Sort.order2
  split <;> simp <;> omega
theorem zfG {g : FuncId} {c : Rg → Rg → Int} (hcc : Cmp g c) {o w : Id} (hjs : o.sz = 2) (hws : w.sz = 1) (how : w ≠ o) {d : Array Rg} {a b m k : Nat} (ha : a < d.size) (hb : b < d.size) (hm : m < d.size) (hk : k < 2 ^ 39) (hsz : d.size < 2 ^ 43) {σ : St} (hj : σ.m o = some (zT d)) (hw : σ.m w = some (.buf [.raw (.int .i64 k)])) :
    ACalls Tryz.prog 142 [.rs o 0 d.size, .raw (.int .i64 a), .raw (.int .i64 b), .raw (.int .i64 m), .rp w 0 0, .fn (.func g) [] []] σ fun r τ =>
      r = .raw (.int .i64 (Sort.median (zv c) d a b m k).1) ∧ τ = σ.set w (.buf [.raw (.int .i64 (Sort.median (zv c) d a b m k).2)]) := by
  refine zaZ Tryz.func142 rfl (N := 41) rfl rfl (by simp) ?_
  have c1 := zfF hcc hjs hws how ha hb (by omega) hsz hj hw
  have l1 := zeR (zv c) d (k := k) ha hb
  obtain ⟨x1, y1, k1, h1⟩ : ∃ x y z, Sort.order2 (zv c) d a b k = (x, y, z) := ⟨_, _, _, rfl⟩
  rw [h1] at c1 l1
  simp only [] at c1 l1
  have c2 := zfF hcc hjs hws how (a := y1) (b := m) (k := k1) l1.2.1 hm (by omega) hsz (σ := σ.set w (.buf [.raw (.int .i64 k1)])) (by rw [zH (Ne.symm how)]; exact hj) (by simp [hw])
  have l2 := zeR (zv c) d (k := k1) l1.2.1 hm
  obtain ⟨x2, y2, k2, h2⟩ : ∃ x y z, Sort.order2 (zv c) d y1 m k1 = (x, y, z) := ⟨_, _, _, rfl⟩
  rw [h2] at c2 l2
  simp only [zce] at c2 l2
  have c3 := zfF hcc hjs hws how (a := x1) (b := x2) (k := k2) l1.1 l2.1 (by omega) hsz (σ := σ.set w (.buf [.raw (.int .i64 k2)])) (by rw [zH (Ne.symm how)]; exact hj) (by simp [hw])
  obtain ⟨x3, y3, k3, h3⟩ : ∃ x y z, Sort.order2 (zv c) d x1 x2 k2 = (x, y, z) := ⟨_, _, _, rfl⟩
  rw [h3] at c3
  simp only [zce] at c3
  have hmed : Sort.median (zv c) d a b m k = (y3, k3) := by simp only [Sort.median, h1, h2, h3]
  rw [hmed]
  refine za0 ?_
  refine c1.mono ?_
  rintro _ τ ⟨rfl, rfl⟩
  refine za0 ?_
  refine c2.mono ?_
  rintro _ τ ⟨rfl, rfl⟩
  refine za0 ?_
  refine c3.mono ?_
  rintro _ τ ⟨rfl, rfl⟩
  refine za0 ?_
  exact zY (x := .raw (.int .i64 y3)) (.inr rfl) (by simp) ⟨rfl, rfl⟩
theorem zef {g : FuncId} {c : Rg → Rg → Int} (hcc : Cmp g c) {o w : Id} (hjs : o.sz = 2) (hws : w.sz = 1) (how : w ≠ o) {d : Array Rg} {a k : Nat} (ha0 : 0 < a) (ha : a + 1 < d.size) (hk : k < 2 ^ 39) (hsz : d.size < 2 ^ 43) {σ : St} (hj : σ.m o = some (zT d)) (hw : σ.m w = some (.buf [.raw (.int .i64 k)])) :
    ACalls Tryz.prog 141 [.rs o 0 d.size, .raw (.int .i64 a), .rp w 0 0, .fn (.func g) [] []] σ fun r τ =>
      r = .raw (.int .i64 (Sort.medianAdjacent (zv c) d a k).1) ∧ τ = σ.set w (.buf [.raw (.int .i64 (Sort.medianAdjacent (zv c) d a k).2)]) := by
  refine zaZ Tryz.func141 rfl (N := 18) rfl rfl (by simp) ?_
  have w1 : IntKind.i64.wrap ((a : Int) + 1) = ((a + 1 : Nat) : Int) := by rw [zo (by omega) (by omega)]; omega
  have w2 : IntKind.i64.wrap ((a : Int) - 1) = ((a - 1 : Nat) : Int) := by rw [zo (by omega) (by omega)]; omega
  have cm := zfG hcc hjs hws how (a := a - 1) (b := a) (m := a + 1) (by omega) (by omega) ha hk hsz hj hw
  obtain ⟨y, z, hm⟩ : ∃ y z, Sort.median (zv c) d (a - 1) a (a + 1) k = (y, z) := ⟨_, _, rfl⟩
  have hma : Sort.medianAdjacent (zv c) d a k = (y, z) := by rw [Sort.medianAdjacent, hm]
  rw [hm] at cm
  rw [hma]
  generalize a + 1 = a1 at *
  generalize a - 1 = a2 at *
  have FF := fI @w1 @w2; refine zB ?_; clear FF
  refine cm.mono ?_
  rintro _ τ ⟨rfl, rfl⟩
  refine za0 ?_
  exact zY (x := .raw (.int .i64 y)) (.inr rfl) (by simp) ⟨rfl, rfl⟩
theorem zhJ (lt : Rg → Rg → Bool) (d : Array Rg) {a b m k n : Nat} (ha : a < n) (hb : b < n) (hm : m < n) : (Sort.median lt d a b m k).1 < n ∧ (Sort.median lt d a b m k).2 ≤ k + 3 := by
  have l1 := zeR lt d (k := k) ha hb
  obtain ⟨x1, y1, k1, h1⟩ : ∃ x y z, Sort.order2 lt d a b k = (x, y, z) := ⟨_, _, _, rfl⟩
  rw [h1] at l1
  have l2 := zeR lt d (k := k1) l1.2.1 hm
  obtain ⟨x2, y2, k2, h2⟩ : ∃ x y z, Sort.order2 lt d y1 m k1 = (x, y, z) := ⟨_, _, _, rfl⟩
  rw [h2] at l2
  have l3 := zeR lt d (k := k2) l1.1 l2.1
  simp only [Sort.median, h1, h2]
  simp only [] at l1 l2 l3
  omega
end Go.Proofs.YtpboabpapgimoaaGreat.Av.Zn
namespace Go.Proofs.YtpboabpapgimoaaGreat.Av.Zn
open Go
set_option linter.unusedSimpArgs false
set_option linter.unusedVariables false
set_option maxRecDepth 100000
set_option maxHeartbeats 4000000
set_option pp.maxSteps 150
def zdC : Sort.Hint → Int
  | .unknown => 0
  | .increasing => 1
  | .decreasing => 2
theorem zhK {P : Program} {A : zL} {σ τ : St} {fn : Func} {K : AV → St → Prop} {e : Exit} (he : e = .normal ∨ e = .ret) {x : AV} (h : zaR P τ.m A fn.results = some x) (hx : x.flat = true) (hE : Ext σ τ) (hK : ∀ ρ : St, ρ.m = σ.m → (∀ s, σ.nx s ≤ ρ.nx s) → K x ρ) : zhs P fn K e A τ :=
  ⟨he, x, h, ⟨σ.m, τ.nx, fun i hi => Nat.lt_of_lt_of_le (σ.wf i hi) (hE.nx _)⟩, fun i o hi => hE.m i o hi, fun _ => Nat.le_refl _, x, by rw [zfw hx]; exact Weaker.refl _, hK _ rfl hE.nx⟩
theorem zib {g : FuncId} {c : Rg → Rg → Int} (hcc : Cmp g c) {o : Id} (hjs : o.sz = 2) {d : Array Rg} {a b : Nat} (hab : a < b) (hb : b ≤ d.size) (hsz : d.size < 2 ^ 43) {σ : St} (hj : σ.m o = some (zT d)) :
    ACalls Tryz.prog 123 [.rs o 0 d.size, .raw (.int .i64 a), .raw (.int .i64 b), .fn (.func g) [] []] σ fun r τ =>
      r = .tup [.raw (.int .i64 (Sort.choosePivot (zv c) d a b).1), .raw (.int .i64 (zdC (Sort.choosePivot (zv c) d a b).2))] ∧ τ.m = σ.m ∧ ∀ s, σ.nx s ≤ τ.nx s := by
  refine zaZ Tryz.func123 rfl (N := 63) rfl rfl (by simp) ?_
  obtain ⟨l, hl⟩ : ∃ l, b - a = l := ⟨_, rfl⟩
  obtain ⟨q, hq⟩ : ∃ q, l / 4 = q := ⟨_, rfl⟩
  obtain ⟨i, hi⟩ : ∃ i, a + q * 1 = i := ⟨_, rfl⟩
  obtain ⟨j, hjj⟩ : ∃ j, a + q * 2 = j := ⟨_, rfl⟩
  obtain ⟨k, hk⟩ : ∃ k, a + q * 3 = k := ⟨_, rfl⟩
  have w1 : IntKind.i64.wrap ((b : Int) - a) = l := by rw [zo (by omega) (by omega)]; omega
  have w2 : (l : Int).tdiv 4 = q := by rw [Int.tdiv_eq_ediv_of_nonneg (by omega)]; omega
  have w3 : IntKind.i64.wrap (q : Int) = q := zo (by omega) (by omega)
  have w4 : IntKind.i64.wrap ((q : Int) * 2) = ((q * 2 : Nat) : Int) := by rw [zo (by omega) (by omega)]; omega
  have w5 : IntKind.i64.wrap ((q : Int) * 3) = ((q * 3 : Nat) : Int) := by rw [zo (by omega) (by omega)]; omega
  have w6 : IntKind.i64.wrap ((a : Int) + q) = i := by rw [zo (by omega) (by omega)]; omega
  have w7 : IntKind.i64.wrap ((a : Int) + ((q * 2 : Nat) : Int)) = j := by rw [zo (by omega) (by omega)]; omega
  have w8 : IntKind.i64.wrap ((a : Int) + ((q * 3 : Nat) : Int)) = k := by rw [zo (by omega) (by omega)]; omega
  generalize ((q * 2 : Nat) : Int) = q2 at *
  generalize ((q * 3 : Nat) : Int) = q3 at *
  have FF := fI @w1 (fI @w2 (fI @w3 (fI @w4 (fI @w5 (fI @w6 (fI @w7 @w8)))))); refine goM ?_; clear FF
  obtain ⟨pj, sw, hps⟩ : ∃ pj sw, (if l ≥ 8 then if l ≥ 50 then Sort.median (zv c) d (Sort.medianAdjacent (zv c) d i 0).1 (Sort.medianAdjacent (zv c) d j (Sort.medianAdjacent (zv c) d i 0).2).1 (Sort.medianAdjacent (zv c) d k (Sort.medianAdjacent (zv c) d j (Sort.medianAdjacent (zv c) d i 0).2).2).1 (Sort.medianAdjacent (zv c) d k (Sort.medianAdjacent (zv c) d j (Sort.medianAdjacent (zv c) d i 0).2).2).2 else Sort.median (zv c) d i j k 0 else (j, 0)) = (pj, sw) := ⟨_, _, rfl⟩
  have hch : Sort.choosePivot (zv c) d a b = (pj, if sw = 0 then .increasing else if sw = 12 then .decreasing else .unknown) := by
    simp only [Sort.choosePivot, hl, hq, hi, hjj, hk, hps]
  rw [hch]
  have how : (⟨11, σ.nx 11, 1⟩ : Id) ≠ o := fun e => by rw [← e, zc] at hj; cases hj
  have hold : ∀ s : Int, (σ.new 11 1 (.buf [.raw (.int .i64 s)])).m o = some (zT d) := fun s => zaz _ _ hj
  refine zfx (fun A τ => A 13 = .raw (.int .i64 pj) ∧ A 11 = .rp ⟨11, σ.nx 11, 1⟩ 0 0 ∧ τ = σ.new 11 1 (.buf [.raw (.int .i64 sw)])) ?_ ?_
  · by_cases h8 : l ≥ 8
    · rw [if_pos h8] at hps
      have h8' : (8 : Int) ≤ l := by omega
      by_cases h50 : l ≥ 50
      · rw [if_pos h50] at hps
        have h50' : (50 : Int) ≤ l := by omega
        have c1 := zef hcc hjs rfl how (a := i) (k := 0) (by omega) (by omega) (by omega) (by omega) (hold 0) (by simp)
        have l1 := zhJ (zv c) d (a := i - 1) (b := i) (m := i + 1) (k := 0) (n := d.size) (by omega) (by omega) (by omega)
        rw [show Sort.median (zv c) d (i - 1) i (i + 1) 0 = Sort.medianAdjacent (zv c) d i 0 from rfl] at l1
        obtain ⟨x1, s1, e1⟩ : ∃ x y, Sort.medianAdjacent (zv c) d i 0 = (x, y) := ⟨_, _, rfl⟩
        rw [e1] at c1 l1 hps
        simp only [zdq] at c1 l1 hps
        have c2 := zef hcc hjs rfl how (a := j) (k := s1) (by omega) (by omega) (by omega) (by omega) (hold s1) (by simp)
        have l2 := zhJ (zv c) d (a := j - 1) (b := j) (m := j + 1) (k := s1) (n := d.size) (by omega) (by omega) (by omega)
        rw [show Sort.median (zv c) d (j - 1) j (j + 1) s1 = Sort.medianAdjacent (zv c) d j s1 from rfl] at l2
        obtain ⟨x2, s2, e2⟩ : ∃ x y, Sort.medianAdjacent (zv c) d j s1 = (x, y) := ⟨_, _, rfl⟩
        rw [e2] at c2 l2 hps
        simp only [zdq] at c2 l2 hps
        have c3 := zef hcc hjs rfl how (a := k) (k := s2) (by omega) (by omega) (by omega) (by omega) (hold s2) (by simp)
        have l3 := zhJ (zv c) d (a := k - 1) (b := k) (m := k + 1) (k := s2) (n := d.size) (by omega) (by omega) (by omega)
        rw [show Sort.median (zv c) d (k - 1) k (k + 1) s2 = Sort.medianAdjacent (zv c) d k s2 from rfl] at l3
        obtain ⟨x3, s3, e3⟩ : ∃ x y, Sort.medianAdjacent (zv c) d k s2 = (x, y) := ⟨_, _, rfl⟩
        rw [e3] at c3 l3 hps
        simp only [zdq] at c3 l3 hps
        have c4 := zfG hcc hjs rfl how (a := x1) (b := x2) (m := x3) (k := s3) l1.1 l2.1 l3.1 (by omega) (by omega) (hold s3) (by simp)
        rw [hps] at c4
        simp only [zdq] at c4
        have FF := fI @h8' @h50'; refine zB ?_; clear FF
        refine c1.mono ?_
        rintro _ τ ⟨rfl, rfl⟩
        have FF := fI @h8' @h50'; refine zB ?_; clear FF
        refine c2.mono ?_
        rintro _ τ ⟨rfl, rfl⟩
        have FF := fI @h8' @h50'; refine zB ?_; clear FF
        refine c3.mono ?_
        rintro _ τ ⟨rfl, rfl⟩
        have FF := fI @h8' @h50'; refine zB ?_; clear FF
        refine c4.mono ?_
        rintro _ τ ⟨rfl, rfl⟩
        have FF := fI @h8' @h50'; exact goA
      · rw [if_neg h50] at hps
        have h50' : ¬ (50 : Int) ≤ l := by omega
        have c4 := zfG hcc hjs rfl how (a := i) (b := j) (m := k) (k := 0) (by omega) (by omega) (by omega) (by omega) (by omega) (hold 0) (by simp)
        rw [hps] at c4
        simp only [zdq] at c4
        have FF := fI @h8' @h50'; refine zB ?_; clear FF
        refine c4.mono ?_
        rintro _ τ ⟨rfl, rfl⟩
        have FF := fI @h8' @h50'; exact goA
    · rw [if_neg h8] at hps
      have h8' : ¬ (8 : Int) ≤ l := by omega
      injection hps with q1 q2
      subst q1 q2
      have FF := @h8'; exact goA
  · rintro A τ ⟨a13, a11, rfl⟩
    by_cases h0 : sw = 0
    · subst h0
      have FF := fI @a13 @a11; refine zB ?_; clear FF
      exact zhK (σ := σ) (x := .tup [.raw (.int .i64 pj), .raw (.int .i64 1)]) (.inr rfl) (by simp) (by simp) (Ext.new _ _ _ _) fun ρ h1 h2 => ⟨by simp [zdC], h1, h2⟩
    · have h0' : ¬ ((sw : Int) = 0) := by omega
      by_cases h12 : sw = 12
      · subst h12
        have FF := fI @a13 @a11; refine zB ?_; clear FF
        exact zhK (σ := σ) (x := .tup [.raw (.int .i64 pj), .raw (.int .i64 2)]) (.inr rfl) (by simp) (by simp) (Ext.new _ _ _ _) fun ρ h1 h2 => ⟨by simp [zdC], h1, h2⟩
      · have h12' : ¬ ((sw : Int) = 12) := by omega
        have FF := fI @a13 (fI @a11 (fI @h0' (fI @h0 (fI @h12' @h12)))); refine zB ?_; clear FF
        exact zhK (σ := σ) (x := .tup [.raw (.int .i64 pj), .raw (.int .i64 0)]) (.inr rfl) (by simp) (by simp) (Ext.new _ _ _ _) fun ρ h1 h2 => ⟨by simp [h0, h12, zdC], h1, h2⟩
end Go.Proofs.YtpboabpapgimoaaGreat.Av.Zn
namespace Go.Proofs.YtpboabpapgimoaaGreat.Av.Zn
open Go
set_option linter.unusedSimpArgs false
set_option linter.unusedVariables false
set_option maxRecDepth 100000
set_option maxHeartbeats 4000000
set_option pp.maxSteps 150
def zmy : ByteArray := ⟨#[0, 1, 2, 2, 3, 3, 3, 3, 4, 4, 4, 4, 4, 4, 4, 4, 5, 5, 5, 5, 5, 5, 5, 5, 5, 5, 5, 5, 5, 5, 5, 5, 6, 6, 6, 6, 6, 6, 6, 6, 6, 6, 6, 6, 6, 6, 6, 6, 6, 6, 6, 6, 6, 6, 6, 6, 6, 6, 6, 6, 6, 6, 6, 6, 7, 7, 7, 7, 7, 7, 7, 7, 7, 7, 7, 7, 7, 7, 7, 7, 7, 7, 7, 7, 7, 7, 7, 7, 7, 7, 7, 7, 7, 7, 7, 7, 7, 7, 7, 7, 7, 7, 7, 7, 7, 7, 7, 7, 7, 7, 7, 7, 7, 7, 7, 7, 7, 7, 7, 7, 7, 7, 7, 7, 7, 7, 7, 7, 8, 8, 8, 8, 8, 8, 8, 8, 8, 8, 8, 8, 8, 8, 8, 8, 8, 8, 8, 8, 8, 8, 8, 8, 8, 8, 8, 8, 8, 8, 8, 8, 8, 8, 8, 8, 8, 8, 8, 8, 8, 8, 8, 8, 8, 8, 8, 8, 8, 8, 8, 8, 8, 8, 8, 8, 8, 8, 8, 8, 8, 8, 8, 8, 8, 8, 8, 8, 8, 8, 8, 8, 8, 8, 8, 8, 8, 8, 8, 8, 8, 8, 8, 8, 8, 8, 8, 8, 8, 8, 8, 8, 8, 8, 8, 8, 8, 8, 8, 8, 8, 8, 8, 8, 8, 8, 8, 8, 8, 8, 8, 8, 8, 8, 8, 8, 8, 8, 8, 8, 8, 8, 8, 8, 8, 8, 8, 8]⟩
theorem zod : ∀ x, x < 256 → ∃ b : UInt8, zmy[x]? = some b ∧ b.toNat = Sort.bitsLen x := by
  have h : ∀ x, x < 256 → (zmy[x]?).map (·.toNat) = some (Sort.bitsLen x) := by decide +kernel
  intro x hx
  obtain ⟨b, h1, h2⟩ := Option.map_eq_some_iff.1 (h x hx)
  exact ⟨b, h1, h2⟩
theorem zng (x k : Nat) (h : 2 ^ k ≤ x) : Sort.bitsLen x = k + Sort.bitsLen (x / 2 ^ k) := by
  have key : ∀ m, Sort.bitsLen x ≤ m ↔ k + Sort.bitsLen (x / 2 ^ k) ≤ m := fun m => by
    rw [Sort.bitsLen_le_iff]
    by_cases hm : k ≤ m
    · have e : 2 ^ m = 2 ^ (m - k) * 2 ^ k := by rw [← Nat.pow_add]; congr 1; omega
      have : k + Sort.bitsLen (x / 2 ^ k) ≤ m ↔ Sort.bitsLen (x / 2 ^ k) ≤ m - k := by omega
      rw [this, Sort.bitsLen_le_iff, Nat.div_lt_iff_lt_mul (Nat.pow_pos (by omega)), e]
    · have : 2 ^ m ≤ 2 ^ k := Nat.pow_le_pow_right (by omega) (by omega)
      constructor <;> intro h' <;> omega
  have h1 := (key _).1 (Nat.le_refl _)
  have h2 := (key _).2 (Nat.le_refl _)
  omega
theorem zoe (x b : Nat) : Int.fdiv (x : Int) (b : Int) = ((x / b : Nat) : Int) := by
  rw [Int.fdiv_eq_ediv_of_nonneg _ (by omega)]; exact (Int.natCast_ediv x b).symm
theorem zof (x b k : Nat) (hb : b = 2 ^ k) : ∃ y n : Nat, Sort.bitsLen x = n + Sort.bitsLen y ∧ ((b ≤ x ∧ y = x / b ∧ n = k) ∨ (x < b ∧ y = x ∧ n = 0)) := by
  subst hb
  rcases Nat.lt_or_ge x (2 ^ k) with h | h
  · exact ⟨x, 0, by omega, .inr ⟨h, rfl, rfl⟩⟩
  · exact ⟨x / 2 ^ k, k, zng x k h, .inl ⟨h, rfl, rfl⟩⟩
theorem znh (x : Nat) (hx : x < 18446744073709551616) : PCalls Tryz.prog 129 [.raw (.int .u64 x)] (.raw (.int .i64 (Sort.bitsLen x))) := by
  refine zE Tryz.func129 rfl (N := 25) rfl rfl (by simp) (by simp [noIds]) fun σ => ?_
  obtain ⟨y1, n1, e1, c1⟩ := zof x 4294967296 32 (by decide)
  obtain ⟨y2, n2, e2, c2⟩ := zof y1 65536 16 (by decide)
  obtain ⟨y3, n3, e3, c3⟩ := zof y2 256 8 (by decide)
  have hl : Sort.bitsLen x = n1 + n2 + n3 + Sort.bitsLen y3 := by omega
  have b1 : y1 < 4294967296 := by rcases c1 with ⟨_, h, _⟩ | ⟨_, h, _⟩ <;> omega
  have b2 : y2 < 65536 := by rcases c2 with ⟨_, h, _⟩ | ⟨_, h, _⟩ <;> omega
  have b3 : y3 < 256 := by rcases c3 with ⟨_, h, _⟩ | ⟨_, h, _⟩ <;> omega
  have p1 : (2 : Int) ^ min 32 IntKind.u64.bits = (4294967296 : Nat) := by decide
  have p2 : (2 : Int) ^ min 16 IntKind.u64.bits = (65536 : Nat) := by decide
  have p3 : (2 : Int) ^ min 8 IntKind.u64.bits = (256 : Nat) := by decide
  have f1 : Int.fdiv x (2 ^ min 32 IntKind.u64.bits) = ((x / 4294967296 : Nat) : Int) := by rw [p1]; exact zoe x 4294967296
  have f2 : Int.fdiv y1 (2 ^ min 16 IntKind.u64.bits) = ((y1 / 65536 : Nat) : Int) := by rw [p2]; exact zoe y1 65536
  have f3 : Int.fdiv y2 (2 ^ min 8 IntKind.u64.bits) = ((y2 / 256 : Nat) : Int) := by rw [p3]; exact zoe y2 256
  clear p1 p2 p3
  have w1 : IntKind.u8.wrap (y3 : Int) = y3 := zrf (by omega) (by omega)
  obtain ⟨b, hb, hb2⟩ := zod y3 b3
  unfold zmy at hb
  have hb3 : Sort.bitsLen y3 < 256 := by rw [← hb2]; exact UInt8.toNat_lt b
  have w2 : IntKind.i64.wrap ((b.toNat : Nat) : Int) = Sort.bitsLen y3 := by rw [hb2]; exact zo (by omega) (by omega)
  rw [hl]
  clear e1 e2 e3 hl
  generalize Sort.bitsLen y3 = L at *
  have v : ∀ n : Int, 0 ≤ n → n < 1000 → IntKind.i64.wrap n = n := fun n h1 h2 => zo (by omega) (by omega)
  have v0 := v L (by omega) (by omega)
  have v1 := v (32 + L) (by omega) (by omega)
  have v2 := v (16 + L) (by omega) (by omega)
  have v3 := v (8 + L) (by omega) (by omega)
  have v4 := v (48 + L) (by omega) (by omega)
  have v5 := v (40 + L) (by omega) (by omega)
  have v6 := v (24 + L) (by omega) (by omega)
  have v7 := v (56 + L) (by omega) (by omega)
  have u1 : IntKind.i64.wrap 48 = 48 := by decide
  have u2 : IntKind.i64.wrap 40 = 40 := by decide
  have u3 : IntKind.i64.wrap 24 = 24 := by decide
  have u4 : IntKind.i64.wrap 56 = 56 := by decide
  have u5 : IntKind.i64.wrap 16 = 16 := by decide
  have u6 : IntKind.i64.wrap 8 = 8 := by decide
  have C1 : (((4294967296 : Int) ≤ x) = True ∧ y1 = x / 4294967296 ∧ n1 = 32) ∨ (((4294967296 : Int) ≤ x) = False ∧ y1 = x ∧ n1 = 0) := by
    rcases c1 with ⟨h, r, q⟩ | ⟨h, r, q⟩
    · exact .inl ⟨eq_true (by omega), r, q⟩
    · exact .inr ⟨eq_false (by omega), r, q⟩
  have C2 : (((65536 : Int) ≤ y1) = True ∧ y2 = y1 / 65536 ∧ n2 = 16) ∨ (((65536 : Int) ≤ y1) = False ∧ y2 = y1 ∧ n2 = 0) := by
    rcases c2 with ⟨h, r, q⟩ | ⟨h, r, q⟩
    · exact .inl ⟨eq_true (by omega), r, q⟩
    · exact .inr ⟨eq_false (by omega), r, q⟩
  have C3 : (((256 : Int) ≤ y2) = True ∧ y3 = y2 / 256 ∧ n3 = 8) ∨ (((256 : Int) ≤ y2) = False ∧ y3 = y2 ∧ n3 = 0) := by
    rcases c3 with ⟨h, r, q⟩ | ⟨h, r, q⟩
    · exact .inl ⟨eq_true (by omega), r, q⟩
    · exact .inr ⟨eq_false (by omega), r, q⟩
  clear c1 c2 c3
  rcases C1 with ⟨h1, r1, rfl⟩ | ⟨h1, rfl, rfl⟩ <;> rcases C2 with ⟨h2, r2, rfl⟩ | ⟨h2, rfl, rfl⟩ <;> rcases C3 with ⟨h3, r3, rfl⟩ | ⟨h3, rfl, rfl⟩
  all_goals
    try rw [← r1] at f1
    try rw [← r2] at f2
    try rw [← r3] at f3
    have FF := fI @f1 (fI @f2 (fI @f3 (fI @h1 (fI @h2 (fI @h3 (fI @w1 (fI @hb (fI @w2 (fI @v0 (fI @v1 (fI @v2 (fI @v3 (fI @v4 (fI @v5 (fI @v6 (fI @v7 (fI @u1 (fI @u2 (fI @u3 (fI @u4 (fI @u5 @u6))))))))))))))))))))); exact gxA
theorem zhL (x : Nat) (hx : x < 18446744073709551616) : PCalls Tryz.prog 110 [.raw (.int .u64 x)] (.raw (.int .i64 (Sort.bitsLen x))) := by
  have h := znh x hx
  refine zE Tryz.func110 rfl (N := 8) rfl rfl (by simp) (by simp [noIds]) fun σ => ?_
  exact zme
theorem zlr (x : Nat) (hx : x < 4611686018427387904) : PCalls Tryz.prog 139 [.raw (.int .i64 x)] (.raw (.int .u64 ((1 <<< Sort.bitsLen x : Nat) : Int))) := by
  have h := zhL x (by omega)
  refine zE Tryz.func139 rfl (N := 7) rfl rfl (by simp) (by simp [noIds]) fun σ => ?_
  have hL : Sort.bitsLen x ≤ 62 := (Sort.bitsLen_le_iff x 62).2 hx
  have w1 : IntKind.u64.wrap (x : Int) = x := zbo (by omega) (by omega)
  have hv : IntKind.u64.wrap (1 * 2 ^ (min (Sort.bitsLen x) IntKind.u64.bits)) = ((1 <<< Sort.bitsLen x : Nat) : Int) := by
    generalize Sort.bitsLen x = L at *
    have : ∀ L, L ≤ 62 → IntKind.u64.wrap (1 * 2 ^ (min L IntKind.u64.bits)) = ((1 <<< L : Nat) : Int) := by decide +kernel
    exact this L hL
  simp only [Int.one_mul] at hv
  have FF := fI @w1 @hv; exact gxA
end Go.Proofs.YtpboabpapgimoaaGreat.Av.Zn
namespace Go.Proofs.YtpboabpapgimoaaGreat.Av.Zn
open Go
set_option linter.unusedSimpArgs false
set_option linter.unusedVariables false
set_option maxRecDepth 100000
set_option maxHeartbeats 4000000
set_option pp.maxSteps 1500
theorem zkq (a b : UInt64) : IntKind.u64.wrap (((((a.toNat : Int) % 2 ^ IntKind.u64.bits).toNat ^^^ (((b.toNat : Int)) % 2 ^ IntKind.u64.bits).toNat : Nat)) : Int) = ((a ^^^ b).toNat : Int) := by
  have h1 : (((a.toNat : Int) % 2 ^ IntKind.u64.bits).toNat) = a.toNat := by
    have := a.toNat_lt; simp only [IntKind.bits]; omega
  have h2 : (((b.toNat : Int) % 2 ^ IntKind.u64.bits).toNat) = b.toNat := by
    have := b.toNat_lt; simp only [IntKind.bits]; omega
  rw [h1, h2, ← UInt64.toNat_xor]
  have := (a ^^^ b).toNat_lt
  exact zbo (by omega) (by omega)
theorem zpb (r : UInt64) : IntKind.u64.wrap ((r.toNat : Int) * 2 ^ min 13 IntKind.u64.bits) = ((r <<< 13).toNat : Int) := by
  rw [UInt64.toNat_shiftLeft]
  simp only [IntKind.wrap, IntKind.bits, IntKind.signed, Bool.false_and, Bool.false_eq_true, if_false, Nat.shiftLeft_eq]
  have := r.toNat_lt
  show (r.toNat : Int) * 2 ^ 13 % 2 ^ 64 = ((r.toNat * 2 ^ 13 % 2 ^ 64 : Nat) : Int)
  omega
theorem zpc (r : UInt64) : IntKind.u64.wrap ((r.toNat : Int) * 2 ^ min 17 IntKind.u64.bits) = ((r <<< 17).toNat : Int) := by
  rw [UInt64.toNat_shiftLeft]
  simp only [IntKind.wrap, IntKind.bits, IntKind.signed, Bool.false_and, Bool.false_eq_true, if_false, Nat.shiftLeft_eq]
  have := r.toNat_lt
  show (r.toNat : Int) * 2 ^ 17 % 2 ^ 64 = ((r.toNat * 2 ^ 17 % 2 ^ 64 : Nat) : Int)
  omega
theorem zp1 (r : UInt64) : ((r.toNat : Int)).fdiv (2 ^ min 7 IntKind.u64.bits) = ((r >>> 7).toNat : Int) := by
  rw [UInt64.toNat_shiftRight]
  show ((r.toNat : Int)).fdiv (2 ^ 7) = ((r.toNat >>> 7 : Nat) : Int)
  rw [Nat.shiftRight_eq_div_pow, Int.fdiv_eq_ediv_of_nonneg _ (by omega)]
  omega
theorem zpd {w : Id} (hws : w.sz = 1) (r : UInt64) {σ : St} (hw : σ.m w = some (.buf [.raw (.int .u64 r.toNat)])) :
    ACalls Tryz.prog 140 [.rp w 0 0] σ fun v τ => v = .raw (.int .u64 (Sort.xorNext r).toNat) ∧ τ = σ.set w (.buf [.raw (.int .u64 (Sort.xorNext r).toNat)]) := by
  refine zaZ Tryz.func140 rfl (N := 33) rfl rfl (by simp) ?_
  obtain ⟨r1, h1⟩ : ∃ r1, r ^^^ (r <<< 13) = r1 := ⟨_, rfl⟩
  obtain ⟨r2, h2⟩ : ∃ r2, r1 ^^^ (r1 >>> 7) = r2 := ⟨_, rfl⟩
  obtain ⟨r3, h3⟩ : ∃ r3, r2 ^^^ (r2 <<< 17) = r3 := ⟨_, rfl⟩
  have hx : Sort.xorNext r = r3 := by simp only [Sort.xorNext, h1, h2, h3]
  rw [hx]
  have x1 := zkq r (r <<< 13)
  have x2 := zkq r1 (r1 >>> 7)
  have x3 := zkq r2 (r2 <<< 17)
  rw [h1] at x1
  rw [h2] at x2
  rw [h3] at x3
  have y1 := zpb r
  have y2 := zp1 r1
  have y3 := zpc r2
  generalize r <<< 13 = s1 at *
  generalize r1 >>> 7 = s2 at *
  generalize r2 <<< 17 = s3 at *
  have FF := fI @hw (fI @hws (fI @x1 (fI @x2 (fI @x3 (fI @y1 (fI @y2 @y3)))))); refine zB ?_; clear FF
  exact zY (x := .raw (.int .u64 r3.toNat)) (.inr rfl) (by simp) ⟨rfl, by simp⟩
end Go.Proofs.YtpboabpapgimoaaGreat.Av.Zn
namespace Go.Proofs.YtpboabpapgimoaaGreat.Av.Zn
open Go
set_option linter.unusedSimpArgs false
set_option linter.unusedVariables false
set_option maxRecDepth 100000
set_option maxHeartbeats 4000000
set_option pp.maxSteps 1500
theorem zqD (a b : UInt64) : IntKind.u64.wrap (((a.toNat % 2 ^ IntKind.u64.bits &&& (((b.toNat : Int)) % 2 ^ IntKind.u64.bits).toNat : Nat)) : Int) = ((a.toNat &&& b.toNat : Nat) : Int) := by
  have h1 : a.toNat % 2 ^ IntKind.u64.bits = a.toNat := by
    have := a.toNat_lt; simp only [IntKind.bits]; omega
  have h2 : (((b.toNat : Int) % 2 ^ IntKind.u64.bits).toNat) = b.toNat := by
    have := b.toNat_lt; simp only [IntKind.bits]; omega
  rw [h1, h2]
  have := a.toNat_lt
  have h3 : a.toNat &&& b.toNat ≤ a.toNat := Nat.and_le_left
  exact zbo (by omega) (by omega)
theorem zog {P : Program} {A : zL} {ρ τ : St} {fn : Func} {K : AV → St → Prop} {e : Exit} (he : e = .normal ∨ e = .ret) {x : AV} (h : zaR P τ.m A fn.results = some x) (hx : x.flat = true) (hE : ∀ i o, ρ.m i = some o → τ.m i = some o) (hn : ∀ s, ρ.nx s ≤ τ.nx s)
    (hK : ∀ π : St, π.m = ρ.m → (∀ s, ρ.nx s ≤ π.nx s) → K x π) : zhs P fn K e A τ :=
  ⟨he, x, h, ⟨ρ.m, τ.nx, fun i hi => Nat.lt_of_lt_of_le (ρ.wf i hi) (hn _)⟩, hE, fun _ => Nat.le_refl _, x, by rw [zfw hx]; exact Weaker.refl _, hK _ rfl hn⟩
def brk (a l m i : Nat) (st : UInt64 × Array Rg) : Nat → UInt64 × Array Rg
  | 0 => st
  | k + 1 => Sort.breakStep a l m (brk a l m i st k) (i + k)
theorem zmz (a l m i : Nat) (st : UInt64 × Array Rg) : ∀ k, (brk a l m i st k).2.size = st.2.size
  | 0 => rfl
  | k + 1 => by
    simp only [brk, Sort.breakStep, zaP, zmz a l m i st k]
theorem zni {g : FuncId} {o : Id} (hjs : o.sz = 2) {d : Array Rg} {a b : Nat} (hab : a < b) (hb : b ≤ d.size) (hsz : d.size < 2 ^ 43) {σ : St} (hj : σ.m o = some (zT d)) :
    ACalls Tryz.prog 122 [.rs o 0 d.size, .raw (.int .i64 a), .raw (.int .i64 b), .fn (.func g) [] []] σ fun r τ =>
      r = .tup [] ∧ τ.m = (σ.set o (zT (Sort.breakPatterns d a b))).m ∧ ∀ s, σ.nx s ≤ τ.nx s := by
  refine zaZ Tryz.func122 rfl (N := 67) rfl rfl (by simp) ?_
  obtain ⟨l, hl⟩ : ∃ l, b - a = l := ⟨_, rfl⟩
  have w1 : IntKind.i64.wrap ((b : Int) - a) = l := by rw [zo (by omega) (by omega)]; omega
  by_cases h8 : l ≥ 8
  · have h8' : (8 : Int) ≤ l := by omega
    have w2 : IntKind.u64.wrap (l : Int) = l := zbo (by omega) (by omega)
    obtain ⟨q, hq⟩ : ∃ q, l / 4 * 2 = q := ⟨_, rfl⟩
    obtain ⟨i0, hi0⟩ : ∃ i0, a + q - 1 = i0 := ⟨_, rfl⟩
    have w3 : (l : Int).tdiv 4 = ((l / 4 : Nat) : Int) := by rw [Int.tdiv_eq_ediv_of_nonneg (by omega)]; omega
    have w4 : IntKind.i64.wrap ((l / 4 : Nat) : Int) = ((l / 4 : Nat) : Int) := zo (by omega) (by omega)
    have w5 : IntKind.i64.wrap (((l / 4 : Nat) : Int) * 2) = q := by rw [zo (by omega) (by omega)]; omega
    have w6 : IntKind.i64.wrap ((a : Int) + q) = ((a + q : Nat) : Int) := by rw [zo (by omega) (by omega)]; omega
    have w7 : IntKind.i64.wrap (((a + q : Nat) : Int) - 1) = i0 := by rw [zo (by omega) (by omega)]; omega
    have w8 : IntKind.i64.wrap (((a + q : Nat) : Int) + 1) = ((i0 + 2 : Nat) : Int) := by rw [zo (by omega) (by omega)]; omega
    obtain ⟨M, hM⟩ : ∃ M, 1 <<< Sort.bitsLen l = M := ⟨_, rfl⟩
    have hM2 : 1 ≤ M ∧ M ≤ 2 * l := by
      rw [← hM, Nat.one_shiftLeft]; exact ⟨Nat.pow_pos (by omega), Sort.two_pow_bitsLen_le (by omega)⟩
    have hnp := zlr l (by omega)
    rw [hM] at hnp
    have hbrk : Sort.breakPatterns d a b = (brk a l M i0 (UInt64.ofNat l, d) 3).2 := by
      simp only [Sort.breakPatterns, hl, hq, hi0, hM, brk]
      rw [if_pos h8]; rfl
    rw [hbrk]
    have hr0 : (UInt64.ofNat l).toNat = l := by rw [UInt64.toNat_ofNat']; omega
    have hd0 : (brk a l M i0 (UInt64.ofNat l, d) 0) = (UInt64.ofNat l, d) := rfl
    have hds := zmz a l M i0 (UInt64.ofNat l, d)
    have hB : ∀ k, brk a l M i0 (UInt64.ofNat l, d) (k + 1) = Sort.breakStep a l M (brk a l M i0 (UInt64.ofNat l, d) k) (i0 + k) := fun k => rfl
    generalize brk a l M i0 (UInt64.ofNat l, d) = B at *
    generalize hl4 : ((l / 4 : Nat) : Int) = l4 at *
    generalize haq : ((a + q : Nat) : Int) = aq at *
    generalize hi2 : ((i0 + 2 : Nat) : Int) = i2 at *
    have FF := fI @w1 (fI @h8' @w2); refine zB ?_; clear FF
    refine PCalls.use hnp ?_
    have FF := fI @w1 (fI @h8' (fI @w3 (fI @w4 (fI @w5 (fI @w6 @w7))))); refine zB ?_; clear FF
    have how : (⟨9, σ.nx 9, 1⟩ : Id) ≠ o := fun e => by rw [← e, zc] at hj; cases hj
    generalize hw : (⟨9, σ.nx 9, 1⟩ : Id) = w at *
    have hwm : ∀ x, (σ.new 9 1 x).m w = some x := fun x => by rw [← hw]; simp
    have hwn : σ.m w = none := by rw [← hw]; exact zc _ _ _
    have hold : ∀ x i, i ≠ w → (σ.new 9 1 x).m i = σ.m i := fun x i hi => by rw [← hw] at hi; exact zcb hi
    have hnx : ∀ x s, σ.nx s ≤ (σ.new 9 1 x).nx s := fun x s => St.new_le _ _ _ _ _
    have hws : w.sz = 1 := by rw [← hw]
    have hns : ∀ x y, (σ.new 9 1 x).set w y = σ.new 9 1 y := fun x y => by rw [← hw]; simp
    refine zaM (fun n A τ => ∃ k, n = 3 - k ∧ k ≤ 3 ∧ A 0 = .rs o 0 d.size ∧ A 1 = .raw (.int .i64 a) ∧ A 8 = .raw (.int .i64 l) ∧ A 9 = .rp w 0 0 ∧ A 10 = .raw (.int .u64 M) ∧ A 11 = .raw (.int .i64 ((i0 + k : Nat) : Int)) ∧
      τ.m o = some (zT (B k).2) ∧ τ.m w = some (.buf [.raw (.int .u64 (B k).1.toNat)]) ∧ (∀ i, i ≠ o → i ≠ w → τ.m i = σ.m i) ∧ ∀ s, σ.nx s ≤ τ.nx s) 3 ?_ ?_
    · refine ⟨0, rfl, by omega, by simp, by simp, by simp, by simp, by simp, by simp, ?_, ?_, ?_, ?_⟩
      · rw [hns, hold _ _ (Ne.symm how), hd0]; exact hj
      · rw [hns, hwm, hd0, hr0]
      · intro i h1 h2; rw [hns]; exact hold _ _ h2
      · exact hnx (.buf [])
    rintro n A τ ⟨k, rfl, hk, a0, a1, a8, a9, a10, a11, ht, htw, hot, hnx'⟩
    by_cases hk3 : k < 3
    · have hle : ((i0 + k : Nat) : Int) ≤ i2 := by omega
      obtain ⟨ix, hix⟩ : ∃ ix, i0 + k = ix := ⟨_, rfl⟩
      rw [hix] at a11 hle
      have hx := zpd hws _ htw
      have hstep : B (k + 1) = Sort.breakStep a l M (B k) ix := by rw [hB, hix]
      have hsz' := hds k
      obtain ⟨r, hr⟩ : ∃ r, Sort.xorNext (B k).1 = r := ⟨_, rfl⟩
      rw [hr] at hx
      simp only [Sort.breakStep, hr] at hstep
      obtain ⟨e, he⟩ : ∃ e, (B k).2 = e := ⟨_, rfl⟩
      rw [he] at ht hsz' hstep
      simp only [] at hsz'
      obtain ⟨m1, hm1⟩ : ∃ m1 : UInt64, m1.toNat = M - 1 := ⟨UInt64.ofNat (M - 1), by rw [UInt64.toNat_ofNat']; omega⟩
      have v1 : IntKind.u64.wrap ((M : Int) - 1) = (m1.toNat : Int) := by rw [zbo (by omega) (by omega)]; omega
      have v2 := zqD r m1
      rw [hm1] at v1 v2
      have hle2 : r.toNat &&& (M - 1) ≤ M - 1 := Nat.and_le_right
      obtain ⟨x, hx'⟩ : ∃ x, r.toNat &&& (M - 1) = x := ⟨_, rfl⟩
      rw [hx'] at v2 hle2 hstep
      have v3 : IntKind.i64.wrap (x : Int) = x := zo (by omega) (by omega)
      generalize ((M - 1 : Nat) : Int) = M1 at *
      obtain ⟨y, hy⟩ : ∃ y, (if x ≥ l then x - l else x) = y := ⟨_, rfl⟩
      rw [hy] at hstep
      have hyl : y < l := by rw [← hy]; split <;> omega
      have v4 : IntKind.i64.wrap ((x : Int) - l) = ((x - l : Nat) : Int) ∨ x < l := by
        by_cases h : x < l
        · exact .inr h
        · exact .inl (by rw [zo (by omega) (by omega)]; omega)
      obtain ⟨z, hz⟩ : ∃ z, a + y = z := ⟨_, rfl⟩
      have v5 : IntKind.i64.wrap ((a : Int) + y) = z := by rw [zo (by omega) (by omega)]; omega
      have v6 : IntKind.i64.wrap ((ix : Int) + 1) = ((i0 + (k + 1) : Nat) : Int) := by rw [zo (by omega) (by omega)]; omega
      rw [hz] at hstep
      have FF := fI @a0 (fI @a1 (fI @a8 (fI @a9 (fI @a10 (fI @a11 (fI @w3 (fI @w4 (fI @w5 (fI @w6 (fI @w8 @hle)))))))))); refine goM ?_; clear FF
      refine hx.mono ?_
      rintro _ τ1 ⟨rfl, rfl⟩
      have ht1 : (τ.set w (.buf [.raw (.int .u64 r.toNat)])).m o = some (.buf (e.toList.map zp)) := by rw [zH (Ne.symm how)]; exact ht
      have htw1 : (τ.set w (.buf [.raw (.int .u64 r.toNat)])).m w = some (.buf [.raw (.int .u64 r.toNat)]) := by simp [htw]
      have hot1 : ∀ i, i ≠ o → i ≠ w → (τ.set w (.buf [.raw (.int .u64 r.toNat)])).m i = σ.m i := fun i h1 h2 => by rw [zH h2]; exact hot i h1 h2
      have hnx1 : ∀ s, σ.nx s ≤ (τ.set w (.buf [.raw (.int .u64 r.toNat)])).nx s := hnx'
      generalize τ.set w (.buf [.raw (.int .u64 r.toNat)]) = τ1 at *
      have gx : e[z]? = some e[z]! := zV (by omega)
      have gy : e[ix]? = some e[ix]! := zV (by omega)
      have g1 : (z : Int) < d.size := by omega
      have g3 : (ix : Int) < d.size := by omega
      have hsw := zcL e (i := ix) (k := z) (by omega) (by omega)
      have f1 : Ob.buf ((Sort.swp e ix z).toList.map zp) = zT (B (k + 1)).2 := by simp [hstep, zT]
      have f2 : (τ1.set o (.buf ((Sort.swp e ix z).toList.map zp))).m w = some (.buf [.raw (.int .u64 (B (k + 1)).1.toNat)]) := by rw [zH how, htw1, hstep]
      have f3 : ∀ i, ¬ i = o → ¬ i = w → (τ1.set o (.buf ((Sort.swp e ix z).toList.map zp))).m i = σ.m i := by
        intro i h1 h2; rw [zH h1]; exact hot1 i h1 h2
      by_cases hxl : x < l
      · have hxl' : ¬ (l : Int) ≤ x := by omega
        rw [if_neg (by omega)] at hy
        subst hy
        have FF := fI @a0 (fI @a1 (fI @a8 (fI @a9 (fI @a10 (fI @a11 (fI @v1 (fI @v2 (fI @v3 (fI @v5 (fI @v6 (fI @hxl' (fI @ht1 (fI @gx (fI @gy (fI @g1 (fI @g3 (fI @hsw (fI @hjs (fI @rg_cells (fI @rg_fold (fI @zaa (fI @zaD @hsz')))))))))))))))))))))); refine zB ?_; clear FF
        exact ⟨3 - (k + 1), by omega, k + 1, rfl, by omega, by simp, f1, f2, f3, hnx1⟩
      · have hxl' : (l : Int) ≤ x := by omega
        have v4 := v4.resolve_right hxl
        rw [if_pos (by omega)] at hy
        rw [hy] at v4
        have FF := fI @a0 (fI @a1 (fI @a8 (fI @a9 (fI @a10 (fI @a11 (fI @v1 (fI @v2 (fI @v3 (fI @v4 (fI @v5 (fI @v6 (fI @hxl' (fI @ht1 (fI @gx (fI @gy (fI @g1 (fI @g3 (fI @hsw (fI @hjs (fI @rg_cells (fI @rg_fold (fI @zaa (fI @zaD @hsz'))))))))))))))))))))))); refine zB ?_; clear FF
        exact ⟨3 - (k + 1), by omega, k + 1, rfl, by omega, by simp, f1, f2, f3, hnx1⟩
    · have hk3' : k = 3 := by omega
      subst hk3'
      have hle : ¬ ((i0 + 3 : Nat) : Int) ≤ i2 := by omega
      obtain ⟨ix, hix⟩ : ∃ ix, i0 + 3 = ix := ⟨_, rfl⟩
      rw [hix] at a11 hle
      have FF := fI @a0 (fI @a1 (fI @a8 (fI @a9 (fI @a10 (fI @a11 (fI @w3 (fI @w4 (fI @w5 (fI @w6 (fI @w8 @hle)))))))))); refine zB ?_; clear FF
      refine zog (x := .tup []) (.inl rfl) (by simp) (by simp) (ρ := (σ.set o (zT (B 3).2))) ?_ hnx' ?_
      · intro i x hx
        by_cases hio : i = o
        · subst hio; rw [zdf, hj] at hx; rw [ht]; exact hx
        · rw [zH hio] at hx
          rw [hot i hio (fun e => by rw [e, hwn] at hx; cases hx)]; exact hx
      · exact fun ρ h1 h2 => ⟨rfl, h1, h2⟩
  · have h8' : ¬ (8 : Int) ≤ l := by omega
    have FF := fI @w1 @h8'; refine zB ?_; clear FF
    have : Sort.breakPatterns d a b = d := by simp only [Sort.breakPatterns, hl]; rw [if_neg h8]
    refine zY (x := .tup []) (.inl rfl) (by simp) ⟨rfl, by rw [this, za7 hj], fun _ => Nat.le_refl _⟩
end Go.Proofs.YtpboabpapgimoaaGreat.Av.Zn
namespace Go.Proofs.YtpboabpapgimoaaGreat.Av.Zn
open Go
set_option linter.unusedSimpArgs false
set_option linter.unusedVariables false
set_option maxRecDepth 100000
set_option maxHeartbeats 8000000
set_option pp.maxSteps 600
structure Fr (o : Id) (x : Ob) (σ τ : St) : Prop where
  m : τ.m = (σ.set o x).m
  nx : ∀ s, σ.nx s ≤ τ.nx s
theorem Fr.set (o : Id) (x : Ob) (σ : St) : Fr o x σ (σ.set o x) := ⟨rfl, fun _ => Nat.le_refl _⟩
theorem Fr.refl {o : Id} {x : Ob} {σ : St} (h : σ.m o = some x) : Fr o x σ σ := ⟨by rw [za7 h], fun _ => Nat.le_refl _⟩
theorem Fr.buf {o : Id} {x y : Ob} {σ τ : St} (h : Fr o x σ τ) (hy : σ.m o = some y) : τ.m o = some x := by rw [h.m, zdf, hy]; rfl
theorem Fr.trans {o : Id} {x y : Ob} {σ τ ρ : St} (h : Fr o x σ τ) (k : Fr o y τ ρ) : Fr o y σ ρ := by
  refine ⟨?_, fun s => Nat.le_trans (h.nx s) (k.nx s)⟩
  rw [k.m]
  funext i
  by_cases e : i = o
  · subst e
    rw [zdf, zdf, h.m, zdf]
    cases σ.m i <;> rfl
  · rw [zH e, h.m, zH e, zH e]
theorem Fr.andSet {o : Id} {x y : Ob} {σ τ : St} (h : Fr o x σ τ) : Fr o y σ (τ.set o y) := h.trans (Fr.set o y τ)
def znw (lt : Rg → Rg → Bool) (o : Id) (d : Array Rg) (a b : Nat) (σ : St) (r : AV) (τ : St) : Prop :=
  r = .tup [] ∧ ∃ d', Sort.PermIn a b d d' ∧ Sort.SortedIn lt a b d' ∧ Fr o (zT d') σ τ
def PdI (o : Id) (n a b lim : Nat) (g : FuncId) (wb wp : Bool) (A : zL) : Prop :=
  A 0 = .rs o 0 n ∧ A 1 = .raw (.int .i64 a) ∧ A 2 = .raw (.int .i64 b) ∧ A 3 = .raw (.int .i64 lim) ∧ A 4 = .fn (.func g) [] [] ∧ A 10 = .raw (.bool wb) ∧ A 11 = .raw (.bool wp)
structure Rd (lt : Rg → Rg → Bool) (o : Id) (d : Array Rg) (a b : Nat) (σ : St) (a' b' : Nat) (e : Array Rg) (τ : St) : Prop where
  fr : Fr o (zT e) σ τ
  size : e.size = d.size
  below : Sort.Below lt a' b' e
  glue : ∀ R, Sort.PermIn a' b' e R → Sort.SortedIn lt a' b' R → Sort.PermIn a b d R ∧ Sort.SortedIn lt a b R
theorem Rd.perm {lt : Rg → Rg → Bool} {o : Id} {d : Array Rg} {a b : Nat} {σ : St} {a' b' : Nat} {e e1 : Array Rg} {τ τ1 : St} (h : Rd lt o d a b σ a' b' e τ) (hb : b' ≤ d.size) (hp : Sort.PermIn a' b' e e1) (hf : Fr o (zT e1) τ τ1) : Rd lt o d a b σ a' b' e1 τ1 :=
  ⟨h.fr.trans hf, by rw [hp.1, h.size], h.below.perm (by rw [h.size]; exact hb) hp, fun R h1 h2 => h.glue R (Sort.permIn_trans _ _ _ _ _ hp h1) h2⟩
theorem zpf {g : FuncId} {c : Rg → Rg → Int} (hcc : Cmp g c) (hS : Sort.SWO (zv c)) {o : Id} (hjs : o.sz = 2) : ∀ (n : Nat) (d : Array Rg) (a b limit : Nat) (σ : St), b - a ≤ n → a ≤ b → b ≤ d.size → d.size < 2 ^ 43 → limit < 2 ^ 40 →
    Sort.Below (zv c) a b d → σ.m o = some (zT d) → ACalls Tryz.prog 109 [.rs o 0 d.size, .raw (.int .i64 a), .raw (.int .i64 b), .raw (.int .i64 limit), .fn (.func g) [] []] σ (znw (zv c) o d a b σ) := by
  intro n
  induction n using Nat.strongRecOn with
  | _ n ih =>
  intro d a b limit σ hn hab hb hsz hlim hB hj
  refine zaZ Tryz.func109 rfl (N := 148) rfl rfl (by simp) ?_
  refine za0 ?_
  refine zO (fun m A τ => ∃ a' b' lim wb wp e, PdI o d.size a' b' lim g wb wp A ∧ m = b' - a' ∧ a ≤ a' ∧ a' ≤ b' ∧ b' ≤ b ∧ lim < 2 ^ 40 ∧ Rd (zv c) o d a b σ a' b' e τ) (b - a) ?_ ?_
  · exact ⟨a, b, limit, true, true, d, ⟨by simp, by simp, by simp, by simp, by simp, by simp, by simp⟩, rfl, Nat.le_refl _, hab, Nat.le_refl _, hlim, Fr.refl hj, rfl, hB, fun R h1 h2 => ⟨h1, h2⟩⟩
  rintro m A τ ⟨a', b', lim, wb, wp, e, ⟨a0, a1, a2, a3, a4, a10, a11⟩, rfl, haa, hab', hbb, hlim', hR⟩ I1 hI1
  obtain ⟨hF, hes, hB', hglue⟩ := id hR
  have hte := hF.buf hj
  obtain ⟨l, hl⟩ : ∃ l, b' - a' = l := ⟨_, rfl⟩
  have w1 : IntKind.i64.wrap ((b' : Int) - a') = l := by rw [zo (by omega) (by omega)]; omega
  by_cases h12 : l ≤ 12
  · have h12' : (l : Int) ≤ 12 := by omega
    have ci := zjL hcc hjs (d := e) (a := a') (b := b') hab' (by omega) (by omega) hte
    rw [hes] at ci
    have FF := fI @a0 (fI @a1 (fI @a2 (fI @a3 (fI @a4 (fI @a10 (fI @a11 (fI @w1 @h12'))))))); refine zB ?_; clear FF
    refine ci.mono ?_
    rintro _ τ2 ⟨rfl, rfl⟩
    refine za0 ?_
    obtain ⟨p1, p2⟩ := Sort.insertionSort_holds hS e a' b' hab' (by omega)
    obtain ⟨q1, q2⟩ := hglue _ p1 p2
    refine zY (x := .tup []) (.inr rfl) (by simp) ⟨rfl, _, q1, q2, hF.andSet⟩
  have h12' : ¬ (l : Int) ≤ 12 := by omega
  by_cases hl0 : lim = 0
  · subst hl0
    have ci := zko hcc hjs (d := e) (a := a') (b := b') hab' (by omega) (by omega) hte
    rw [hes] at ci
    have FF := fI @a0 (fI @a1 (fI @a2 (fI @a3 (fI @a4 (fI @a10 (fI @a11 (fI @w1 @h12'))))))); refine zB ?_; clear FF
    refine ci.mono ?_
    rintro _ τ2 ⟨rfl, rfl⟩
    refine za0 ?_
    obtain ⟨p1, p2⟩ := Sort.heapSort_holds hS e a' b' hab' (by omega)
    obtain ⟨q1, q2⟩ := hglue _ p1 p2
    refine zY (x := .tup []) (.inr rfl) (by simp) ⟨rfl, _, q1, q2, hF.andSet⟩
  have hl0' : ¬ (lim : Int) = 0 := by omega
  have FF := fI @a0 (fI @a1 (fI @a2 (fI @a3 (fI @a4 (fI @a10 (fI @a11 (fI @w1 (fI @h12' (fI @hl0' @hl0))))))))); refine goM ?_; clear FF
  refine zdB (fun A τ => ∃ lim e, lim < 2 ^ 40 ∧ PdI o d.size a' b' lim g wb wp A ∧ A 12 = .raw (.int .i64 l) ∧ Rd (zv c) o d a b σ a' b' e τ) ?_ ?_
  · intro R1 hR1
    cases wb with
    | true =>
      have FF := fI @a0 (fI @a1 (fI @a2 (fI @a3 (fI @a4 (fI @a10 @a11))))); refine zB ?_; clear FF
      exact hR1 _ _ ⟨lim, e, hlim', ⟨by simp [a0], by simp [a1], by simp [a2], by simp [a3], by simp [a4], by simp [a10], by simp [a11]⟩, by simp, hR⟩
    | false =>
      have cb := zni (g := g) hjs (d := e) (a := a') (b := b') (by omega) (by omega) (by omega) hte
      rw [hes] at cb
      have wl : IntKind.i64.wrap ((lim : Int) - 1) = ((lim - 1 : Nat) : Int) := by rw [zo (by omega) (by omega)]; omega
      generalize hlm : ((lim - 1 : Nat) : Int) = lm at *
      have FF := fI @a0 (fI @a1 (fI @a2 (fI @a3 (fI @a4 (fI @a10 @a11))))); refine zB ?_; clear FF
      refine cb.mono ?_
      rintro _ τ2 ⟨rfl, q1, q2⟩
      have FF := fI @a0 (fI @a1 (fI @a2 (fI @a3 (fI @a4 (fI @a10 (fI @a11 @wl)))))); refine zB ?_; clear FF
      exact hR1 _ _ ⟨lim - 1, _, by omega, ⟨by simp [a0], by simp [a1], by simp [a2], by simp [hlm], by simp [a4], by simp [a10], by simp [a11]⟩, by simp, hR.perm (by omega) (Sort.breakPatterns_holds e a' b' hab' (by omega)) ⟨q1, q2⟩⟩
  clear hF hte hes hB' hglue hR a0 a1 a2 a3 a4 a10 a11 hl0 hl0' hlim'
  rintro A τ ⟨lim, e, hlim', ⟨a0, a1, a2, a3, a4, a10, a11⟩, a12, hR⟩
  obtain ⟨hF, hes, hB', hglue⟩ := id hR
  have hte := hF.buf hj
  have cc := zib hcc hjs (d := e) (a := a') (b := b') (by omega) (by omega) (by omega) hte
  have hpr := Sort.choosePivot_holds (zv c) e a' b' (by omega)
  obtain ⟨pv, hint, hcp⟩ : ∃ pv hint, Sort.choosePivot (zv c) e a' b' = (pv, hint) := ⟨_, _, rfl⟩
  rw [hcp, hes] at cc
  rw [hcp] at hpr
  simp only [] at cc hpr
  have FF := fI @a0 (fI @a1 (fI @a2 (fI @a3 (fI @a4 (fI @a10 (fI @a11 @a12)))))); refine goM ?_; clear FF
  refine cc.mono ?_
  rintro _ τ2 ⟨rfl, q1, q2⟩
  have hR := hR.perm (by omega) (Sort.permIn_refl e a' b') ⟨by rw [q1, za7 hte], q2⟩
  have hte := hR.fr.buf hj
  have FF := fI @a0 (fI @a1 (fI @a2 (fI @a3 (fI @a4 (fI @a10 (fI @a11 @a12)))))); refine goM ?_; clear FF
  refine zdB (fun A τ => ∃ pv hi e, a' ≤ pv ∧ pv < b' ∧ PdI o d.size a' b' lim g wb wp A ∧ A 12 = .raw (.int .i64 l) ∧ A 13 = .raw (.int .i64 (pv : Nat)) ∧ A 14 = .raw (.int .i64 hi) ∧ Rd (zv c) o d a b σ a' b' e τ) ?_ ?_
  · intro R1 hR1
    by_cases hdec : hint = .decreasing
    · subst hdec
      have cr := zlp (g := g) hjs (d := e) (a := a') (b := b') (by omega) (by omega) (by omega) hte
      rw [hes] at cr
      have v1 : IntKind.i64.wrap ((b' : Int) - 1) = ((b' - 1 : Nat) : Int) := by rw [zo (by omega) (by omega)]; omega
      have v2 : IntKind.i64.wrap ((pv : Int) - a') = ((pv - a' : Nat) : Int) := by rw [zo (by omega) (by omega)]; omega
      have v3 : IntKind.i64.wrap (((b' - 1 : Nat) : Int) - ((pv - a' : Nat) : Int)) = ((b' - 1 - (pv - a') : Nat) : Int) := by rw [zo (by omega) (by omega)]; omega
      generalize ((b' - 1 : Nat) : Int) = y1 at *
      generalize ((pv - a' : Nat) : Int) = y2 at *
      generalize hy3 : ((b' - 1 - (pv - a') : Nat) : Int) = y3 at *
      (try ((first | with_reducible refine zs ?_ | with_reducible refine zx ?_ | with_reducible refine zy ?_); simp [a0, a1, a2, a3, a4, a10, a11, a12, zdC])); repeat' (first | ((first | refine zm ?_ | refine zl ?_ | refine dN (by decide +kernel) ?_ | (refine zb ?_ ?_ <;> (intro hg; simp only [hg])) | fail) <;> simp [a0, a1, a2, a3, a4, a10, a11, a12, zdC]) | refine zf ?_ | refine zg ?_ | (refine zF ?_; simp only [zG]; try simp) | ((first | refine zq (by simp) ?_ | refine zu (by simp) (by simp) (by simp (maxDischargeDepth := 30) [a0, a1, a2, a3, a4, a10, a11, a12, zdC]) ?_ | fail); simp) | (refine zd (fun hc => ?_) (fun hc => ?_) <;> try simp at hc) | fail)
      refine cr.mono ?_
      rintro _ τ3 ⟨rfl, rfl⟩
      (try ((first | with_reducible refine zs ?_ | with_reducible refine zx ?_ | with_reducible refine zy ?_); simp [a0, a1, a2, a3, a4, a10, a11, a12, zdC, v1, v2, v3])); repeat' (first | ((first | refine zm ?_ | refine zl ?_ | refine dN (by decide +kernel) ?_ | (refine zb ?_ ?_ <;> (intro hg; simp only [hg])) | fail) <;> simp [a0, a1, a2, a3, a4, a10, a11, a12, zdC, v1, v2, v3]) | refine zf ?_ | refine zg ?_ | (refine zF ?_; simp only [zG]; try simp) | ((first | refine zq (by simp) ?_ | refine zu (by simp) (by simp) (by simp (maxDischargeDepth := 30) [a0, a1, a2, a3, a4, a10, a11, a12, zdC, v1, v2, v3]) ?_ | fail); simp) | (refine zd (fun hc => ?_) (fun hc => ?_) <;> try simp at hc) | fail)
      exact hR1 _ _ ⟨b' - 1 - (pv - a'), _, _, by omega, by omega, ⟨by simp [a0], by simp [a1], by simp [a2], by simp [a3], by simp [a4], by simp [a10], by simp [a11]⟩, by simp [a12], by simp [hy3], by simp; rfl, hR.perm (by omega) (Sort.reverseRange_holds e a' b' hab' (by omega)) (Fr.set _ _ _)⟩
    · have hd' : ¬ zdC hint = 2 := by cases hint <;> simp [zdC] at hdec ⊢
      have FF := fI @a0 (fI @a1 (fI @a2 (fI @a3 (fI @a4 (fI @a10 (fI @a11 (fI @a12 @hd'))))))); refine zB ?_; clear FF
      exact hR1 _ _ ⟨pv, _, _, hpr.1, hpr.2, ⟨by simp [a0], by simp [a1], by simp [a2], by simp [a3], by simp [a4], by simp [a10], by simp [a11]⟩, by simp [a12], by simp, by simp; rfl, hR⟩
  clear hF hte hes hB' hglue hR a0 a1 a2 a3 a4 a10 a11 a12 cc q1 q2 hcp hpr
  clear pv hint
  rintro A τ ⟨pv, hi, e, hap, hpb, ⟨a0, a1, a2, a3, a4, a10, a11⟩, a12, a13, a14, hR⟩
  obtain ⟨hF, hes, hB', hglue⟩ := id hR
  have hte := hF.buf hj
  have ci := ziR hcc hjs (d := e) (a := a') (b := b') (by omega) (by omega) (by omega) hte
  rw [hes] at ci
  have hpi := Sort.partialInsertionSort_holds hS e a' b' (by omega) (by omega) hB'
  obtain ⟨e2, ok, hpe⟩ : ∃ e2 ok, Sort.partialInsertionSort (zv c) e a' b' = (e2, ok) := ⟨_, _, rfl⟩
  rw [hpe] at ci hpi
  simp only [] at ci hpi
  refine zf ?_
  refine zdB (fun A τ => ∃ e, PdI o d.size a' b' lim g wb wp A ∧ A 12 = .raw (.int .i64 l) ∧ A 13 = .raw (.int .i64 (pv : Nat)) ∧ Rd (zv c) o d a b σ a' b' e τ) ?_ ?_
  · intro R1 hR1
    cases wb with
    | false =>
      have FF := fI @a0 (fI @a1 (fI @a2 (fI @a3 (fI @a4 (fI @a10 (fI @a11 (fI @a12 (fI @a13 @a14)))))))); refine zB ?_; clear FF
      exact hR1 _ _ ⟨e, ⟨by simp [a0], by simp [a1], by simp [a2], by simp [a3], by simp [a4], by simp [a10], by simp [a11]⟩, by simp [a12], by simp [a13], hR⟩
    | true =>
      cases wp with
      | false =>
        have FF := fI @a0 (fI @a1 (fI @a2 (fI @a3 (fI @a4 (fI @a10 (fI @a11 (fI @a12 (fI @a13 @a14)))))))); refine zB ?_; clear FF
        exact hR1 _ _ ⟨e, ⟨by simp [a0], by simp [a1], by simp [a2], by simp [a3], by simp [a4], by simp [a10], by simp [a11]⟩, by simp [a12], by simp [a13], hR⟩
      | true =>
        by_cases h1 : hi = 1
        · have FF := fI @a0 (fI @a1 (fI @a2 (fI @a3 (fI @a4 (fI @a10 (fI @a11 (fI @a12 (fI @a13 (fI @a14 @h1))))))))); refine zB ?_; clear FF
          refine ci.mono ?_
          rintro _ τ2 ⟨rfl, rfl⟩
          cases ok with
          | true =>
            have FF := fI @a0 (fI @a1 (fI @a2 (fI @a3 (fI @a4 (fI @a10 (fI @a11 (fI @a12 (fI @a13 (fI @a14 @h1))))))))); refine zB ?_; clear FF
            obtain ⟨q1, q2⟩ := hglue _ hpi.1 (hpi.2 rfl)
            refine zY (x := .tup []) (.inr rfl) (by simp) ⟨rfl, _, q1, q2, hF.andSet⟩
          | false =>
            have FF := fI @a0 (fI @a1 (fI @a2 (fI @a3 (fI @a4 (fI @a10 (fI @a11 (fI @a12 (fI @a13 (fI @a14 @h1))))))))); refine zB ?_; clear FF
            exact hR1 _ _ ⟨e2, ⟨by simp [a0], by simp [a1], by simp [a2], by simp [a3], by simp [a4], by simp [a10], by simp [a11]⟩, by simp [a12], by simp [a13], hR.perm (by omega) hpi.1 (Fr.set _ _ _)⟩
        · have FF := fI @a0 (fI @a1 (fI @a2 (fI @a3 (fI @a4 (fI @a10 (fI @a11 (fI @a12 (fI @a13 (fI @a14 @h1))))))))); refine zB ?_; clear FF
          exact hR1 _ _ ⟨e, ⟨by simp [a0], by simp [a1], by simp [a2], by simp [a3], by simp [a4], by simp [a10], by simp [a11]⟩, by simp [a12], by simp [a13], hR⟩
  clear a0 a1 a2 a3 a4 a10 a11 a12 a13 a14 hte hF hes hB' hglue hR ci hpi hpe
  rintro A τ ⟨e, ⟨a0, a1, a2, a3, a4, a10, a11⟩, a12, a13, hR⟩
  obtain ⟨hF, hes, hB', hglue⟩ := id hR
  have hte := hF.buf hj
  have ht' : τ.m o = some (.buf (e.toList.map zp)) := hte
  have ce := zg3 hcc hjs (d := e) (a := a') (b := b') (pivot := pv) hap hpb (by omega) (by omega) hte
  obtain ⟨mid, d4, hx⟩ : ∃ mid d4, Sort.partitionEqual (zv c) e a' b' pv = (mid, d4) := ⟨_, _, rfl⟩
  rw [hx, hes] at ce
  simp only [] at ce
  have cp := zjM hcc hjs (d := e) (a := a') (b := b') (pivot := pv) hap hpb (by omega) (by omega) hte
  obtain ⟨mid2, ap, d5, hy⟩ : ∃ mid2 ap d5, Sort.partition (zv c) e a' b' pv = (mid2, ap, d5) := ⟨_, _, _, rfl⟩
  rw [hy, hes] at cp
  simp only [] at cp
  obtain ⟨g1, g2, hs5, hBa, hBr, hleft, hright⟩ := Sort.round_part hS (Sort.partition_holds (zv c)) hap hpb (by omega) hB' hy
  refine zf ?_
  refine zdB (fun A' τ' => PdI o d.size a' b' lim g wb wp A' ∧ A' 12 = .raw (.int .i64 l) ∧ A' 13 = .raw (.int .i64 (pv : Nat)) ∧ τ = τ') ?_ ?_
  · intro R1 hR1
    by_cases ha0 : 0 < a'
    · have ha0' : (0 : Int) < a' := by omega
      have gx : e[a' - 1]? = some e[a' - 1]! := zV (by omega)
      have gy : e[pv]? = some e[pv]! := zV (by omega)
      have g3 : ((a' - 1 : Nat) : Int) < d.size := by omega
      have g4 : (pv : Int) < d.size := by omega
      have w2 : IntKind.i64.wrap ((a' : Int) - 1) = ((a' - 1 : Nat) : Int) := by rw [zo (by omega) (by omega)]; omega
      by_cases hlt : c e[a' - 1]! e[pv]! < 0
      · generalize hap1 : a' - 1 = ap1 at *
        have FF := fI @a0 (fI @a1 (fI @a2 (fI @a3 (fI @a4 (fI @a10 (fI @a11 (fI @a12 (fI @a13 (fI @ha0 (fI @gx (fI @gy (fI @g3 (fI @g4 (fI @w2 (fI @ht' (fI @hjs (fI @rg_cells (fI @rg_fold @hes)))))))))))))))))); refine zB ?_; clear FF
        refine PCalls.use (hcc.calls _ _) ?_
        have FF := fI @a0 (fI @a1 (fI @a2 (fI @a3 (fI @a4 (fI @a10 (fI @a11 (fI @a12 (fI @a13 (fI @ha0 (fI @gx (fI @gy (fI @g3 (fI @g4 (fI @w2 (fI @ht' (fI @hjs (fI @rg_cells (fI @rg_fold (fI @hes @hlt))))))))))))))))))); refine zB ?_; clear FF
        exact hR1 _ _ ⟨⟨by simp [a0], by simp [a1], by simp [a2], by simp [a3], by simp [a4], by simp [a10], by simp [a11]⟩, by simp [a12], by simp [a13], rfl⟩
      · obtain ⟨r1, r2, hs4, hB4, hfin⟩ := Sort.round_eq hS (Sort.partitionEqual_holds (zv c)) ha0 hap hpb (by omega) hB' (by simp [zv]; omega) hx
        generalize hap1 : a' - 1 = ap1 at *
        have FF := fI @a0 (fI @a1 (fI @a2 (fI @a3 (fI @a4 (fI @a10 (fI @a11 (fI @a12 (fI @a13 (fI @ha0 (fI @gx (fI @gy (fI @g3 (fI @g4 (fI @w2 (fI @ht' (fI @hjs (fI @rg_cells (fI @rg_fold @hes)))))))))))))))))); refine zB ?_; clear FF
        refine PCalls.use (hcc.calls _ _) ?_
        have FF := fI @a0 (fI @a1 (fI @a2 (fI @a3 (fI @a4 (fI @a10 (fI @a11 (fI @a12 (fI @a13 (fI @ha0 (fI @gx (fI @gy (fI @g3 (fI @g4 (fI @w2 (fI @ht' (fI @hjs (fI @rg_cells (fI @rg_fold (fI @hes @hlt))))))))))))))))))); refine zB ?_; clear FF
        refine ce.mono ?_
        rintro _ τ2 ⟨rfl, rfl⟩
        have FF := fI @a0 (fI @a1 (fI @a2 (fI @a3 (fI @a4 (fI @a10 (fI @a11 (fI @a12 @a13))))))); refine zB ?_; clear FF
        refine hI1 (b' - mid) _ _ (by omega) ⟨mid, b', lim, wb, wp, d4, ⟨by simp [a0], by simp, by simp [a2], by simp [a3], by simp [a4], by simp [a10], by simp [a11]⟩, rfl, by omega, by omega, by omega, hlim', hR.fr.andSet, by rw [hs4, hes], hB4, fun R q1 q2 => ?_⟩
        obtain ⟨q3, q4⟩ := hfin R q1 q2
        exact hglue R q3 q4
    · have ha0' : ¬ (0 : Int) < a' := by omega
      have ha00 : a' = 0 := by omega
      have FF := fI @a0 (fI @a1 (fI @a2 (fI @a3 (fI @a4 (fI @a10 (fI @a11 (fI @a12 (fI @a13 (fI @ha0' @ha00))))))))); refine zB ?_; clear FF
      exact hR1 _ _ ⟨⟨by simp [a0], by simp [a1], by simp [a2], by simp [a3], by simp [a4], by simp [a10], by simp [a11]⟩, by simp [a12], by simp [a13], rfl⟩
  clear a0 a1 a2 a3 a4 a10 a11 a12 a13
  rintro A _ ⟨⟨a0, a1, a2, a3, a4, a10, a11⟩, a12, a13, rfl⟩
  have v1 : IntKind.i64.wrap ((mid2 : Int) - a') = ((mid2 - a' : Nat) : Int) := by rw [zo (by omega) (by omega)]; omega
  have v2 : IntKind.i64.wrap ((b' : Int) - mid2) = ((b' - mid2 : Nat) : Int) := by rw [zo (by omega) (by omega)]; omega
  have v3 : (l : Int).tdiv 8 = ((l / 8 : Nat) : Int) := by rw [Int.tdiv_eq_ediv_of_nonneg (by omega)]; omega
  have v4 : IntKind.i64.wrap ((l / 8 : Nat) : Int) = ((l / 8 : Nat) : Int) := zo (by omega) (by omega)
  have v5 : IntKind.i64.wrap ((mid2 : Int) + 1) = ((mid2 + 1 : Nat) : Int) := by rw [zo (by omega) (by omega)]; omega
  obtain ⟨ll, hll⟩ : ∃ ll, mid2 - a' = ll := ⟨_, rfl⟩
  obtain ⟨rl, hrl⟩ : ∃ rl, b' - mid2 = rl := ⟨_, rfl⟩
  obtain ⟨m1, hm1⟩ : ∃ m1, mid2 + 1 = m1 := ⟨_, rfl⟩
  rw [hll] at v1
  rw [hrl] at v2
  rw [hm1] at v5
  generalize ((l / 8 : Nat) : Int) = l8 at *
  have hR5 := hR.fr.andSet (y := zT d5)
  have ht5 := hR5.buf hj
  by_cases hlr : ll < rl
  · have cl := ih (mid2 - a') (by omega) d5 a' mid2 lim (τ.set o (zT d5)) (by omega) g1 (by omega) (by omega) hlim' hBa ht5
    rw [hs5, hes] at cl
    have FF := fI @a0 (fI @a1 (fI @a2 (fI @a3 (fI @a4 (fI @a10 (fI @a11 (fI @a12 @a13))))))); refine zB ?_; clear FF
    refine cp.mono ?_
    rintro _ τ2 ⟨rfl, rfl⟩
    have FF := fI @a0 (fI @a1 (fI @a2 (fI @a3 (fI @a4 (fI @a10 (fI @a11 (fI @a12 (fI @a13 (fI @v1 (fI @v2 (fI @v3 (fI @v4 @hlr)))))))))))); refine zB ?_; clear FF
    refine cl.mono ?_
    rintro _ τ3 ⟨rfl, L, l1, l2, l3⟩
    have FF := fI @a0 (fI @a1 (fI @a2 (fI @a3 (fI @a4 (fI @a10 (fI @a11 (fI @a12 (fI @a13 @v5)))))))); refine zB ?_; clear FF
    obtain ⟨hBL, hfin⟩ := hleft L l1 l2
    refine hI1 (b' - m1) _ _ (by omega) ⟨m1, b', lim, _, ap, L, ⟨by simp [a0], by simp, by simp [a2], by simp [a3], by simp [a4], by simp; rfl, by simp⟩, rfl, by omega, by omega, by omega, hlim', hR5.trans l3, by rw [l1.1, hs5, hes], by rw [← hm1]; exact hBL, fun R q1 q2 => ?_⟩
    rw [← hm1] at q1 q2
    obtain ⟨q3, q4⟩ := hfin R q1 q2
    exact hglue R q3 q4
  · have cl := ih (b' - m1) (by omega) d5 m1 b' lim (τ.set o (zT d5)) (by omega) (by omega) (by omega) (by omega) hlim' (by rw [← hm1]; exact hBr) ht5
    rw [hs5, hes] at cl
    have FF := fI @a0 (fI @a1 (fI @a2 (fI @a3 (fI @a4 (fI @a10 (fI @a11 (fI @a12 @a13))))))); refine zB ?_; clear FF
    refine cp.mono ?_
    rintro _ τ2 ⟨rfl, rfl⟩
    have FF := fI @a0 (fI @a1 (fI @a2 (fI @a3 (fI @a4 (fI @a10 (fI @a11 (fI @a12 (fI @a13 (fI @v1 (fI @v2 (fI @v3 (fI @v4 (fI @hlr @v5))))))))))))); refine zB ?_; clear FF
    refine cl.mono ?_
    rintro _ τ3 ⟨rfl, L, l1, l2, l3⟩
    have FF := fI @a0 (fI @a1 (fI @a2 (fI @a3 (fI @a4 (fI @a10 (fI @a11 (fI @a12 (fI @a13 @v5)))))))); refine zB ?_; clear FF
    rw [← hm1] at l1 l2
    obtain ⟨hBL, hfin⟩ := hright L l1 l2
    refine hI1 (mid2 - a') _ _ (by omega) ⟨a', mid2, lim, _, ap, L, ⟨by simp [a0], by simp [a1], by simp, by simp [a3], by simp [a4], by simp; rfl, by simp⟩, rfl, by omega, by omega, by omega, hlim', hR5.trans l3, by rw [l1.1, hs5, hes], hBL, fun R q1 q2 => ?_⟩
    obtain ⟨q3, q4⟩ := hfin R q1 q2
    exact hglue R q3 q4
theorem zkr {g : FuncId} {c : Rg → Rg → Int} (hcc : Cmp g c) (hS : Sort.SWO (zv c)) {o : Id} (hjs : o.sz = 2) {d : Array Rg} (hsz : d.size < 2 ^ 43) {σ : St} (hj : σ.m o = some (zT d)) :
    ACalls Tryz.prog 89 [.rs o 0 d.size, .fn (.func g) [] []] σ (znw (zv c) o d 0 d.size σ) := by
  refine zaZ Tryz.func89 rfl (N := 14) rfl rfl (by simp) ?_
  have w1 : IntKind.u64.wrap (d.size : Int) = d.size := zbo (by omega) (by omega)
  have hL : Sort.bitsLen d.size ≤ 43 := (Sort.bitsLen_le_iff _ 43).2 hsz
  have cl := zpf hcc hS hjs d.size d 0 d.size (Sort.bitsLen d.size) σ (by omega) (by omega) (by omega) hsz (by omega) (.inl rfl) hj
  have cn := zhL d.size (by omega)
  generalize Sort.bitsLen d.size = L at *
  have FF := @w1; refine zB ?_; clear FF
  refine PCalls.use cn ?_
  have FF := @w1; refine zB ?_; clear FF
  refine cl.mono ?_
  rintro _ τ ⟨rfl, h⟩
  refine za0 ?_
  exact zY (x := .tup []) (.inl rfl) (by simp) ⟨rfl, h⟩
end Go.Proofs.YtpboabpapgimoaaGreat.Av.Zn
namespace Go.Proofs.YtpboabpapgimoaaGreat.Av.Zn
open Go
set_option linter.unusedSimpArgs false
set_option linter.unusedVariables false
set_option maxRecDepth 100000
set_option maxHeartbeats 4000000
set_option pp.maxSteps 300
theorem zks {z : List Rg} {full : Bool} (i : Id) (hz : z.length < 2 ^ 60) : zj8 Tryz.prog 90 [.rp i 0 0] i (.buf [zAV z full]) (z.map zp) := by
  intro b I J h1 h2 h3 σ hi h0
  rw [List.length_map]
  refine (zmv (b := b) (i := i) (I := fun k σ => I k σ ∧ σ.m i = some (.buf [zAV z full])) (J := J) hz ?_ ?_ hi ⟨h0, hi⟩).mono ?_
  · rintro k σ τ ⟨q1, q2⟩ hE; exact ⟨h1 k σ τ q1 hE, hE.m _ _ q2⟩
  · rintro k σ h ⟨q1, q2⟩
    refine YK.mono ?_ (h3 k (zp z[k]) σ _ (by simp [h]) q1 q2)
    rintro r τ (⟨e, p1, p2⟩ | p)
    · exact .inl ⟨e, p1, p2⟩
    · exact .inr p
  · rintro r τ (⟨h, _⟩ | h)
    · exact .inl h
    · exact .inr h
theorem zmA (z : List Rg) (full : Bool) {σ : St} : ACalls Tryz.prog 63 [zAV z full] σ fun r τ => ∃ i, r = .fn (.func 90) [] [.rp i 0 0] ∧ σ.m i = none ∧ τ.m i = some (.buf [zAV z full]) ∧ Ext σ τ := by
  refine zaZ Tryz.func63 rfl (N := 4) rfl rfl (by simp) ?_
  have FF := zAV.eq_1; refine zB ?_; clear FF
  refine zY (x := .fn (.func 90) [] [.rp ⟨1, σ.nx 1, 1⟩ 0 0]) (.inr rfl) (by simp) ⟨_, rfl, zc _ _ _, by simp [zAV], Ext.new _ _ _ _⟩
def zrB (i : Id) (z : List Rg) (σ : St) (r : AV) (τ : St) : Prop := But i σ τ ∧ ((z = [] ∧ r = .sl 0 [] true) ∨ (z ≠ [] ∧ ∃ j, r = .rs j 0 z.length ∧ j.sz = 2 ∧ τ.m j = some (.buf (z.map zp)) ∧ σ.m j = none))
theorem zls {f : FuncId} {caps : List AV} {i : Id} {c0 : Ob} {z : List Rg} (hit : zj8 Tryz.prog f caps i c0 (z.map zp)) (hl : z.length < 2 ^ 40) {σ : St} (hi : σ.m i = some c0) :
    ACalls Tryz.prog 88 [.fn (.func f) [] caps] σ (zrB i z σ) := by
  refine zaZ Tryz.func88 rfl (N := 5) rfl rfl (by simp) ?_
  have h := zjJ hit hl hi
  refine za0 ?_
  refine h.mono ?_
  rintro r τ ⟨hB, h⟩
  have hC : zrB i z σ r τ := ⟨hB, h⟩
  refine za0 ?_
  refine zY (x := r) (.inr rfl) (by simp) hC
theorem zlt {g : FuncId} : PCalls Tryz.prog 120 [.sl 0 [] true, .raw (.int .i64 0), .raw (.int .i64 0), .fn (.func g) [] []] (.tup []) := by
  refine zE Tryz.func120 rfl (N := 53) rfl rfl (by simp) (by simp [noIds]) fun σ => ?_
  have w0 : IntKind.i64.wrap 1 = 1 := zo (by omega) (by omega)
  have FF := @w0; refine zB ?_; clear FF
  refine zO (fun n A τ => τ = σ ∧ A 2 = .raw (.int .i64 0) ∧ A 8 = .raw (.int .i64 1)) 0 ⟨rfl, by simp, by simp [w0]⟩ ?_
  rintro n A τ ⟨rfl, a2, a8⟩ I1 hI1
  have FF := fI @a2 @a8; exact goA
theorem zqE {g : FuncId} : PCalls Tryz.prog 109 [.sl 0 [] true, .raw (.int .i64 0), .raw (.int .i64 0), .raw (.int .i64 0), .fn (.func g) [] []] (.tup []) := by
  refine zE Tryz.func109 rfl (N := 148) rfl rfl (by simp) (by simp [noIds]) fun σ => ?_
  have w0 : IntKind.i64.wrap 0 = 0 := zo (by omega) (by omega)
  refine za0 ?_
  refine zO (fun n A τ => τ = σ ∧ A 0 = .sl 0 [] true ∧ A 1 = .raw (.int .i64 0) ∧ A 2 = .raw (.int .i64 0) ∧ A 3 = .raw (.int .i64 0) ∧ A 4 = .fn (.func g) [] []) 0 ⟨rfl, by simp, by simp, by simp, by simp, by simp⟩ ?_
  rintro n A τ ⟨rfl, a0, a1, a2, a3, a4⟩ I1 hI1
  have FF := fI @a0 (fI @a1 (fI @a2 (fI @a3 (fI @a4 @w0)))); refine zB ?_; clear FF
  refine PCalls.use zlt ?_
  exact zgQ
theorem zmB {g : FuncId} : PCalls Tryz.prog 89 [.sl 0 [] true, .fn (.func g) [] []] (.tup []) := by
  refine zE Tryz.func89 rfl (N := 14) rfl rfl (by simp) (by simp [noIds]) fun σ => ?_
  have w1 : IntKind.u64.wrap 0 = 0 := zbo (by omega) (by omega)
  have hn := zhL 0 (by omega)
  have FF := @w1; refine zB ?_; clear FF
  refine PCalls.use hn ?_
  have : Sort.bitsLen 0 = 0 := rfl
  have FF := fI @w1 @this; refine zB ?_; clear FF
  refine PCalls.use zqE ?_
  exact zgQ
def zfH (c : Rg → Rg → Int) (z : List Rg) : Prop := z.Pairwise fun x y => ¬ c y x < 0
theorem zic {c : Rg → Rg → Int} {d : Array Rg} (h : Sort.SortedIn (zv c) 0 d.size d) : zfH c d.toList := by
  unfold zfH
  rw [List.pairwise_iff_getElem]
  intro i j hi hj hij
  have := h i j (by omega) hij (by simpa using hj)
  rw [getElem!_pos d i (by simpa using hi), getElem!_pos d j (by simpa using hj)] at this
  simpa [zv] using this
theorem zkt {d d' : Array Rg} (h : Sort.PermIn 0 d.size d d') : d'.toList.Perm d.toList := by
  obtain ⟨h1, _, h3⟩ := h
  have e1 : d'.extract 0 d.size = d' := by rw [← h1]; exact Array.extract_size
  rwa [e1, Array.extract_size] at h3
theorem But.frz {i j : Id} {σ τ ρ : St} {x : Ob} (h : But i σ τ) (hn : σ.m j = none) (k : Fr j x τ ρ) : But i σ ρ :=
  ⟨fun l o hl ho => by
    have := h.m l o hl ho
    have hlj : l ≠ j := fun e => by rw [e, hn] at ho; cases ho
    rw [k.m, zH hlj]; exact this, fun s => Nat.le_trans (h.nx s) (k.nx s)⟩
theorem zpg {P : Program} {A : zL} {σ : St} {fn : Func} {K : AV → St → Prop} {e : Exit} (j : Id) (he : e = .normal ∨ e = .ret) {x : AV} (h : zaR P σ.m A fn.results = some x) (hK : K (z0 (σ.del j).m σ.m x) (σ.del j)) : zhs P fn K e A σ :=
  ⟨he, x, h, σ.del j, fun i o hi => by
    by_cases e : i = j
    · simp [e] at hi
    · rwa [zU e] at hi, fun _ => Nat.le_refl _, _, Weaker.refl _, hK⟩
theorem zoh : Weaker (.sl 0 [] true) (zAV [] false) := by
  intro S v h
  simp only [VRel, zAV] at h ⊢
  obtain ⟨base, cap, e, h1, h2, h3⟩ := h
  exact ⟨base, cap, e, h1, by simp, by simp⟩
theorem zph {P : Program} {A : zL} {σ : St} {fn : Func} {K : AV → St → Prop} {e : Exit} (he : e = .normal ∨ e = .ret) {x y : AV} (h : zaR P σ.m A fn.results = some x) (hw : Weaker x y) (hK : K y σ) : zhs P fn K e A σ :=
  ⟨he, x, h, σ, fun _ _ h => h, fun _ => Nat.le_refl _, y, by rw [zd4]; exact hw, hK⟩
theorem ziS {f g : FuncId} {caps : List AV} {i : Id} {c0 : Ob} {z : List Rg} {c : Rg → Rg → Int} (hcc : Cmp g c) (hS : Sort.SWO (zv c)) (hit : zj8 Tryz.prog f caps i c0 (z.map zp)) (hl : z.length < 2 ^ 38) {σ : St} (hi : σ.m i = some c0) :
    ACalls Tryz.prog 62 [.fn (.func f) [] caps, .fn (.func g) [] []] σ fun r τ => But i σ τ ∧ ∃ z', z'.Perm z ∧ zfH c z' ∧ r = zAV z' false := by
  refine zaZ Tryz.func62 rfl (N := 12) rfl rfl (by simp) ?_
  have h := zls hit (by omega) hi
  refine za0 ?_
  refine h.mono ?_
  rintro r τ ⟨hB, ⟨rfl, rfl⟩ | ⟨hne, j, rfl, hjs, hj, hjn⟩⟩
  · refine za0 ?_
    refine PCalls.use zmB ?_
    refine za0 ?_
    exact zph (x := .sl 0 [] true) (y := zAV [] false) (.inr rfl) (by simp) zoh ⟨hB, List.Pairwise.nil, rfl⟩
  · have hs := zkr (d := z.toArray) hcc hS hjs (by simp; omega) (σ := τ) (by simpa [zT] using hj)
    rw [List.size_toArray] at hs
    refine za0 ?_
    refine hs.mono ?_
    rintro _ τ2 ⟨rfl, d', h1, h2, h3⟩
    have hsz : d'.size = z.length := by rw [h1.1]; simp
    have hp := zkt (d := z.toArray) (d' := d') (by simpa using h1)
    have hso := zic (c := c) (d := d') (by rw [hsz]; exact h2)
    have hB2 := hB.frz hjn h3
    have hj2 := h3.buf (y := .buf (z.map zp)) (by simpa [zT] using hj)
    refine za0 ?_
    refine zpg j (.inr rfl) (x := .rs j 0 z.length) (by simp) ?_
    have hgu : z0 (τ2.del j).m τ2.m (.rs j 0 z.length) = zAV d'.toList false := by
      simp only [z0, zr, zpP, hj2, zT]
      rw [if_pos (by simp [hsz])]
      simp [zAV, hjs, hsz]
      rw [List.take_of_length_le (by simp [hsz])]
    rw [hgu]
    refine ⟨⟨fun l o hl ho => ?_, hB2.nx⟩, d'.toList, by simpa using hp, hso, rfl⟩
    rw [zU (fun e => by rw [e, hjn] at ho; cases ho)]
    exact hB2.m l o hl ho
end Go.Proofs.YtpboabpapgimoaaGreat.Av.Zn
namespace Go.Proofs.YtpboabpapgimoaaGreat.Av.Zn
open Go
set_option linter.unusedSimpArgs false
set_option linter.unusedVariables false
set_option maxRecDepth 100000
set_option maxHeartbeats 4000000
set_option pp.maxSteps 300
def idxOf (p : Rg → Bool) (z : List Rg) : Int := if z.any p then (z.findIdx p : Nat) else -1
theorem idxOf_here {p : Rg → Bool} {z : List Rg} {i : Nat} {x : Rg} (hx : z[i]? = some x) (hp : p x = true) (hn : ∀ j, j < i → ∀ y, z[j]? = some y → p y = false) : idxOf p z = i := by
  unfold idxOf
  obtain ⟨hi, he⟩ := List.getElem?_eq_some_iff.1 hx
  rw [if_pos (List.any_eq_true.2 ⟨x, List.mem_of_getElem? hx, hp⟩)]
  congr 1
  rw [List.findIdx_eq hi]
  refine ⟨by rw [he]; exact hp, fun j hj => ?_⟩
  exact hn j hj _ (List.getElem?_eq_getElem (by omega))
theorem idxOf_none {p : Rg → Bool} {z : List Rg} (hn : ∀ j, j < z.length → ∀ y, z[j]? = some y → p y = false) : idxOf p z = -1 ∧ z.any p = false := by
  have : z.any p = false := by
    rw [List.any_eq_false]
    intro x hx
    obtain ⟨j, hj⟩ := List.getElem?_of_mem hx
    simp [hn j (List.getElem?_eq_some_iff.1 hj).1 x hj]
  exact ⟨by unfold idxOf; rw [this]; rfl, this⟩
theorem idxOf_any (p : Rg → Bool) (z : List Rg) : decide (0 ≤ idxOf p z) = z.any p := by
  unfold idxOf
  cases z.any p <;> simp
theorem zjN {g : FuncId} {p : Rg → Bool} (z : List Rg) (fz : Bool) (hl : z.length < 2 ^ 60) (hg : ∀ r ∈ z, PCalls Tryz.prog g [zp r] (.raw (.bool (p r)))) :
    PCalls Tryz.prog 87 [zAV z fz, .fn (.func g) [] []] (.raw (.int .i64 (idxOf p z))) := by
  refine zE Tryz.func87 rfl (N := 19) rfl rfl (by simp) (by simp [noIds]) fun σ => ?_
  have FF := zAV.eq_1; refine zB ?_; clear FF
  refine zO (fun n A τ => τ = σ ∧ A 0 = zAV z fz ∧ A 1 = .fn (.func g) [] [] ∧ A 7 = .raw (.int .i64 z.length) ∧ ∃ i : Nat, A 8 = .raw (.int .i64 i) ∧ i ≤ z.length ∧ n = z.length - i ∧ ∀ j, j < i → ∀ y, z[j]? = some y → p y = false) z.length ?_ ?_
  · exact ⟨rfl, by simp [zAV], by simp, by simp, 0, by simp, by omega, by omega, fun j h => by omega⟩
  rintro n A τ ⟨rfl, a0, a1, a7, i, a8, hi, rfl, hn⟩ I1 hI1
  by_cases hlt : i < z.length
  · have hx : z[i]? = some z[i] := List.getElem?_eq_getElem hlt
    have w1 : IntKind.i64.wrap ((i : Int) + 1) = ((i + 1 : Nat) : Int) := by rw [zo (by omega) (by omega)]; omega
    have hr : AV.agg [.raw (.int .u32 z[i].lo), .raw (.int .u32 z[i].hi)] = zp z[i] := rfl
    (try ((first | with_reducible refine zs ?_ | with_reducible refine zx ?_ | with_reducible refine zy ?_); simp [zAV, a0, a1, a7, a8, hlt, hx, rg_cells, hr])); repeat' (first | ((first | refine zm ?_ | refine zl ?_ | refine dN (by decide +kernel) ?_ | (refine zb ?_ ?_ <;> (intro hg; simp only [hg])) | fail) <;> simp [zAV, a0, a1, a7, a8, hlt, hx, rg_cells, hr]) | refine zf ?_ | refine zg ?_ | (refine zF ?_; simp only [zG]; try simp) | ((first | refine zq (by simp) ?_ | refine zu (by simp) (by simp) (by simp (maxDischargeDepth := 30) [zAV, a0, a1, a7, a8, hlt, hx, rg_cells, hr]) ?_ | fail); simp) | (refine zd (fun hc => ?_) (fun hc => ?_) <;> try simp at hc) | fail)
    refine PCalls.use (hg z[i] (List.getElem_mem _)) ?_
    cases hp : p z[i] with
    | true =>
      have FF := fI zAV.eq_1 (fI @a0 (fI @a1 (fI @a7 (fI @a8 (fI @hlt (fI @hx (fI @rg_cells @hr))))))); refine zB ?_; clear FF
      exact (idxOf_here hx hp hn).symm
    | false =>
      have FF := fI zAV.eq_1 (fI @a0 (fI @a1 (fI @a7 (fI @a8 (fI @hlt (fI @hx (fI @rg_cells @hr))))))); refine zB ?_; clear FF
      refine hI1 (z.length - (i + 1)) _ _ (by omega) ⟨rfl, by simp [a0], by simp [a1], by simp [a7], i + 1, by simp [w1], by omega, rfl, fun j hj y hy => ?_⟩
      by_cases e : j = i
      · subst e; rw [hx] at hy; injection hy with hy; subst hy; exact hp
      · exact hn j (by omega) y hy
  · have hi' : i = z.length := by omega
    subst hi'
    have w1 : IntKind.i64.wrap (-1) = -1 := zo (by omega) (by omega)
    have FF := fI zAV.eq_1 (fI @a0 (fI @a1 (fI @a7 (fI @a8 @w1)))); refine zB ?_; clear FF
    exact (idxOf_none hn).1.symm
theorem zeS {g : FuncId} {p : Rg → Bool} (z : List Rg) (fz : Bool) (hl : z.length < 2 ^ 60) (hg : ∀ r ∈ z, PCalls Tryz.prog g [zp r] (.raw (.bool (p r)))) :
    PCalls Tryz.prog 60 [zAV z fz, .fn (.func g) [] []] (.raw (.bool (z.any p))) := by
  refine zE Tryz.func60 rfl (N := 9) rfl rfl (by simp) (by simp [noIds]) fun σ => ?_
  refine za0 ?_
  refine PCalls.use (zjN z fz hl hg) ?_
  have := idxOf_any p z
  refine za0 ?_
  simpa using this
theorem zk6 (r : Rg) : PCalls Tryz.prog 61 [zp r] (.raw (.bool (decide (r.hi < r.lo)))) := by
  refine zE Tryz.func61 rfl (N := 8) rfl rfl (by simp) (by simp [noIds]) fun σ => ?_
  have FF := zp.eq_1; exact goA
theorem zpi (r s : Rg) : PCalls Tryz.prog 64 [zp r, zp s] (.raw (.int .i64 (cmpI r.lo s.lo))) := by
  refine zE Tryz.func64 rfl (N := 10) rfl rfl (by simp) (by simp [noIds]) fun σ => ?_
  have FF := zp.eq_1; refine zB ?_; clear FF
  refine PCalls.use (compare_calls .u32 r.lo s.lo) ?_
  have FF := zp.eq_1; exact goA
end Go.Proofs.YtpboabpapgimoaaGreat.Av.Zn
namespace Go.Proofs.YtpboabpapgimoaaGreat.Av.Zn
open Go
set_option linter.unusedSimpArgs false
set_option linter.unusedVariables false
set_option maxRecDepth 100000
set_option maxHeartbeats 4000000
set_option pp.maxSteps 300
theorem zhc {σ : St} {slot sz : Nat} {x y : Ob} {i : Id} (h : i ≠ ⟨slot, σ.nx slot, sz⟩) : (σ.new slot sz x).set i y = (σ.set i y).new slot sz x := by
  apply St.ext'
  · funext j
    by_cases e : j = ⟨slot, σ.nx slot, sz⟩
    · subst e
      rw [zH (Ne.symm h), zdJ]
      exact (zdJ (σ := σ.set i y)).symm
    · by_cases e2 : j = i
      · subst e2
        rw [zdf, zcb h]
        rw [zcb (σ := σ.set j y) h, zdf]
      · rw [zH e2, zcb e, zcb (σ := σ.set i y) e, zH e2]
  · rfl
theorem zrC {r : Rg} {l : List Rg} (h : ∀ x, l[0]? = some x → ¬ x.lo ≤ r.hi + 1) : mg r l = r :: zbH l := by
  cases l with
  | nil => rfl
  | cons x l => rw [mg, if_neg (h x rfl)]; rfl
theorem zku {z : List Rg} {fz : Bool} (i : Id) (his : i.sz = 1) (hz : InZ z) (hl : z.length < 2 ^ 60) : zj8 Tryz.prog 92 [.rp i 0 0] i (.buf [zAV z fz]) ((zbH z).map zp) := by
  intro b I J h1 h2 h3 σ hi h0
  refine zaZ Tryz.func92 rfl (N := 41) rfl rfl (by simp) ?_
  refine zg ?_
  refine zO (fun n A τ => ∃ k rest, A 0 = .fn (.yield b) [] [] ∧ A 1 = .rp i 0 0 ∧ τ.m i = some (.buf [zAV rest fz]) ∧ I k τ ∧ (zbH z).drop k = zbH rest ∧ k + (zbH rest).length = (zbH z).length ∧ InZ rest ∧ rest.length ≤ z.length ∧ n = rest.length) z.length ?_ ?_
  · exact ⟨0, z, by simp, by simp, hi, h0, rfl, by simp, hz, Nat.le_refl _, rfl⟩
  rintro n A τ ⟨k, rest, a0, a1, hti, hIk, hd, hkl, hin, hrl, rfl⟩ I1 hI1
  cases rest with
  | nil =>
    have FF := fI @a0 (fI @a1 (fI @hti (fI zAV.eq_1 @his))); refine zB ?_; clear FF
    refine zY (x := .tup []) (.inl rfl) (by simp) (.inl ?_)
    have hk : k = (zbH z).length := by simpa [zbH] using hkl
    rw [← hk]; exact hIk
  | cons r rest =>
    have hr := hin r (by simp)
    have hin0 : InZ rest := fun x hx => hin x (by simp [hx])
    simp only [List.length_cons] at hrl
    have c0 : ¬ (rest.length : Int) + 1 ≤ 0 := by omega
    have hiw : i ≠ ⟨3, τ.nx 3, 2⟩ := fun e => by have := zc τ 3 2; rw [← e, hti] at this; cases this
    have hB1 : ∀ l q, ((τ.set i (.buf [zAV l fz])).new 3 2 (.buf [zp q])).m ⟨3, τ.nx 3, 2⟩ = some (.buf [zp q]) := fun l q => zdJ (σ := τ.set i _)
    have hB2 : ∀ l q, ((τ.set i (.buf [zAV l fz])).new 3 2 (.buf [zp q])).m i = some (.buf [zAV l fz]) := fun l q => by rw [zcb (σ := τ.set i _) hiw, zdf, hti]; rfl
    have hB3 : ∀ l q q', ((τ.set i (.buf [zAV l fz])).new 3 2 (.buf [zp q])).set ⟨3, τ.nx 3, 2⟩ (.buf [zp q']) = (τ.set i (.buf [zAV l fz])).new 3 2 (.buf [zp q']) := fun l q q' => zdq (σ := τ.set i _)
    have hB4 : ∀ l q l', ((τ.set i (.buf [zAV l fz])).new 3 2 (.buf [zp q])).set i (.buf [zAV l' fz]) = (τ.set i (.buf [zAV l' fz])).new 3 2 (.buf [zp q]) := fun l q l' => by
      rw [zhc (σ := τ.set i _) hiw, zce]
    have hB5 : ∀ l q, I k ((τ.set i (.buf [zAV l fz])).new 3 2 (.buf [zp q])) := fun l q => h1 k _ _ (h2 k τ _ hIk (by rw [hti]; simp)) (Ext.new _ _ _ _)
    have hB0 : ((τ.new 3 2 (.buf [AV.agg [.raw (.int .u32 r.lo), .raw (.int .u32 r.hi)]])).set i (.buf [zAV rest fz])) = (τ.set i (.buf [zAV rest fz])).new 3 2 (.buf [zp r]) := by
      rw [zhc hiw]; rfl
    have hA1 : ∀ x, (τ.new 3 2 x).m ⟨3, τ.nx 3, 2⟩ = some x := fun x => zdJ
    have hA2 : ∀ x y, (τ.new 3 2 x).set ⟨3, τ.nx 3, 2⟩ y = τ.new 3 2 y := fun x y => zdq
    have hA3 : ∀ x, (τ.new 3 2 x).m i = some (.buf [zAV (r :: rest) fz]) := fun x => zaz _ _ hti
    generalize hw : (⟨3, τ.nx 3, 2⟩ : Id) = w at *
    have hws : w.sz = 2 := by rw [← hw]
    have FF := fI @a0 (fI @a1 (fI @hti (fI zAV.eq_1 (fI zp.eq_1 (fI @his (fI @c0 (fI @hw (fI @hA1 (fI @hA2 @hA3))))))))); refine goM ?_; clear FF
    clear hw hA1 hA2 hA3
    refine zaC (fun A' τ' => ∃ r' rest', A' 0 = .fn (.yield b) [] [] ∧ A' 1 = .rp i 0 0 ∧ A' 3 = .rp w 0 0 ∧ τ' = (τ.set i (.buf [zAV rest' fz])).new 3 2 (.buf [zp r']) ∧ mg r' rest' = mg r rest ∧ InZ rest' ∧ rest'.length ≤ rest.length ∧ ∀ x, rest'[0]? = some x → ¬ x.lo ≤ r'.hi + 1) ?_ ?_
    · intro R1 hR1
      refine zO (fun n A' τ' => ∃ r' rest', A' 0 = .fn (.yield b) [] [] ∧ A' 1 = .rp i 0 0 ∧ A' 3 = .rp w 0 0 ∧ τ' = (τ.set i (.buf [zAV rest' fz])).new 3 2 (.buf [zp r']) ∧ mg r' rest' = mg r rest ∧ InZ rest' ∧ r'.In ∧ n = rest'.length ∧ n ≤ rest.length) rest.length ?_ ?_
      · exact ⟨r, rest, by simp [a0], by simp [a1], by simp, hB0, rfl, hin0, hr, rfl, Nat.le_refl _⟩
      clear a0 a1 hB0
      rintro n A τ' ⟨r', rest', a0, a1, a3, rfl, hmg, hin', hr', rfl, hle⟩ I2 hI2
      have g1 := hB1 rest' r'
      have g2 := hB2 rest' r'
      cases rest' with
      | nil =>
        generalize hs1 : (τ.set i (.buf [zAV [] fz])).new 3 2 (.buf [zp r']) = s1 at *
        simp only [zAV, zp, List.map_nil] at g1 g2
        have FF := fI @a0 (fI @a1 (fI @a3 (fI @g1 (fI @g2 (fI @his @hws))))); refine zB ?_; clear FF
        exact hR1 _ _ ⟨r', [], by simp [a0], by simp [a1], by simp [a3], hs1.symm, hmg, hin', Nat.zero_le _, by simp⟩
      | cons x l =>
        have hx := hin' x (by simp)
        obtain ⟨x1, x2, x3, x4⟩ := hx
        obtain ⟨r1, r2, r3, r4⟩ := hr'
        have w1 : IntKind.u64.wrap x.lo = x.lo := zbo (by omega) (by omega)
        have w2 : IntKind.u64.wrap r'.hi = r'.hi := zbo (by omega) (by omega)
        have w3 : IntKind.u64.wrap (r'.hi + 1) = r'.hi + 1 := zbo (by omega) (by omega)
        have c1 : (0 : Int) < (l.length : Int) + 1 := by omega
        by_cases hc : x.lo ≤ r'.hi + 1
        · have g3 := hB3 (x :: l) r' ⟨r'.lo, max r'.hi x.hi⟩
          have g4 := hB4 (x :: l) ⟨r'.lo, max r'.hi x.hi⟩ l
          have g5 := hB2 (x :: l) ⟨r'.lo, max r'.hi x.hi⟩
          have hmax : (if r'.hi < x.hi then x.hi else r'.hi) = max r'.hi x.hi := by rw [Int.max_def]; split <;> split <;> omega
          have fin := hI2 l.length
          generalize hs1 : (τ.set i (.buf [zAV (x :: l) fz])).new 3 2 (.buf [zp r']) = s1 at *
          generalize hs2 : (τ.set i (.buf [zAV (x :: l) fz])).new 3 2 (.buf [zp ⟨r'.lo, max r'.hi x.hi⟩]) = s2 at *
          generalize hs3 : (τ.set i (.buf [zAV l fz])).new 3 2 (.buf [zp ⟨r'.lo, max r'.hi x.hi⟩]) = s3 at *
          simp only [zAV, zp, List.map_cons] at g1 g2 g3 g4 g5
          have FF := fI @a0 (fI @a1 (fI @a3 (fI @g1 (fI @g2 (fI @g3 (fI @g4 (fI @g5 (fI @his (fI @hws (fI @w1 (fI @w2 (fI @w3 (fI @c1 (fI @hc @hmax)))))))))))))); refine zB ?_; clear FF
          refine fin _ _ (by simp) ⟨⟨r'.lo, max r'.hi x.hi⟩, l, by simp [a0], by simp [a1], by simp [a3], hs3.symm, ?_, fun y hy => hin' y (by simp [hy]), ⟨r1, r2, by simp only []; omega, by simp only []; omega⟩, rfl, by simp at hle; omega⟩
          rw [← hmg]
          conv => rhs; rw [mg, if_pos hc]
        · have fin := hR1
          generalize hs1 : (τ.set i (.buf [zAV (x :: l) fz])).new 3 2 (.buf [zp r']) = s1 at *
          simp only [zAV, zp, List.map_cons] at g1 g2
          have FF := fI @a0 (fI @a1 (fI @a3 (fI @g1 (fI @g2 (fI @his (fI @hws (fI @w1 (fI @w2 (fI @w3 (fI @c1 @hc)))))))))); refine zB ?_; clear FF
          exact fin _ _ ⟨r', x :: l, by simp [a0], by simp [a1], by simp [a3], hs1.symm, hmg, hin', by simpa using hle, by simpa using hc⟩
    clear a0 a1 hB0
    rintro A' _ ⟨r', rest', a0, a1, a3, rfl, hmg, hin', hle, hend⟩
    have g1 := hB1 rest' r'
    have g2 := hB2 rest' r'
    have g5 := hB5 rest' r'
    rw [show zbH (r :: rest) = mg r rest from rfl, ← hmg, zrC hend] at hd hkl
    have hk : ((zbH z).map zp)[k]? = some (zp r') := by
      rw [List.getElem?_map]
      have : (zbH z)[k]? = some r' := by
        have h := congrArg (fun l => l[0]?) hd
        simpa using h
      rw [this]; rfl
    have hy := h3 k _ _ _ hk g5 g2
    generalize hs1 : (τ.set i (.buf [zAV rest' fz])).new 3 2 (.buf [zp r']) = s1 at *
    simp only [zp] at g1
    have FF := fI @a0 (fI @a1 (fI @a3 (fI @g1 (fI @his @hws)))); refine zB ?_; clear FF
    refine YK.mono ?_ hy
    rintro _ τ2 (⟨rfl, q1, q2⟩ | ⟨rfl, q⟩)
    · have FF := fI @a0 (fI @a1 @a3); refine zB ?_; clear FF
      refine hI1 rest'.length _ _ (by simp; omega) ⟨k + 1, rest', by simp [a0], by simp [a1], q2, q1, ?_, by simp at hkl; omega, hin', by omega, rfl⟩
      have h := congrArg (fun l => l.drop 1) hd
      simpa [List.drop_drop, Nat.add_comm] using h
    · have FF := fI @a0 (fI @a1 @a3); refine zB ?_; clear FF
      exact zY (x := .tup []) (.inr rfl) (by simp) (.inr q)
end Go.Proofs.YtpboabpapgimoaaGreat.Av.Zn
namespace Go.Proofs.YtpboabpapgimoaaGreat.Av.Zn
open Go
set_option linter.unusedSimpArgs false
set_option linter.unusedVariables false
set_option maxRecDepth 100000
set_option maxHeartbeats 4000000
set_option pp.maxSteps 300
theorem weaker_tup {a b : AV} {l : List AV} (h : Weaker a b) : Weaker (.tup (a :: l)) (.tup (b :: l)) := by
  intro S v hv
  simp only [VRel, LRel] at hv ⊢
  obtain ⟨m, e, u, us, h1, h2, h3⟩ := hv
  exact ⟨m, e, u, us, h1, h _ _ h2, h3⟩
theorem retP_own2 {P : Program} {A : zL} {σ σ0 : St} {fn : Func} {e : Exit} {n : Nat} {v : AV} {es : List AV} {u : Value} (he : e = .normal ∨ e = .ret) (h : zaR P σ.m A fn.results = some (.tup [v, .raw u])) (hO : OwnL σ0 σ n v es) (hE : Ext σ0 σ) : RetP P fn σ0 (.tup [.sl n es false, .raw u]) e A σ := by
  have hm : ∀ i, σ0.m i ≠ none → σ.m i = σ0.m i := fun i hi => by
    obtain ⟨o, ho⟩ := Option.ne_none_iff_exists'.1 hi
    rw [ho]; exact hE.m i o ho
  rcases hO with ⟨rfl, rfl⟩ | ⟨j, rfl, hj, hmj, hn⟩
  · exact ⟨he, hE.nx, hm, _, h, weaker_tup zaT⟩
  · refine ⟨he, hE.nx, hm, _, h, ?_⟩
    have e1 : z0 σ0.m σ.m (.tup [.rs j 0 es.length, .raw u]) = .tup [.sl n es false, .raw u] := by
      simp only [z0, zr, hn, hmj, List.map_cons, List.map_nil]
      rw [if_pos (by simp), hj]; simp
    rw [e1]; exact Weaker.refl _
theorem zlu (z : List Rg) (full : Bool) {σ : St} : ACalls Tryz.prog 66 [zAV z full] σ fun r τ => ∃ i, r = .fn (.func 92) [] [.rp i 0 0] ∧ i.sz = 1 ∧ σ.m i = none ∧ τ.m i = some (.buf [zAV z full]) ∧ Ext σ τ := by
  refine zaZ Tryz.func66 rfl (N := 4) rfl rfl (by simp) ?_
  have FF := zAV.eq_1; refine zB ?_; clear FF
  refine zY (x := .fn (.func 92) [] [.rp ⟨1, σ.nx 1, 1⟩ 0 0]) (.inr rfl) (by simp) ⟨_, rfl, rfl, zc _ _ _, by simp [zAV], Ext.new _ _ _ _⟩
theorem ztc : Cmp 64 fun r s => cmpI r.lo s.lo := ⟨zpi⟩
theorem ztd : Sort.SWO (zv fun r s => cmpI r.lo s.lo) where
  irrefl := fun x => by simp [zv, cmpI]
  trans := fun x y z => by simp only [zv, decide_eq_true_eq, cmpI_neg]; omega
  ntrans := fun x y z => by simp only [zv, decide_eq_false_iff_not, cmpI_neg]; omega
theorem zpj (z : List Rg) (b : Bool) : noIds (zAV z b) := by
  simp only [noIds, zAV, AV.ids]
  induction z with
  | nil => simp [z7]
  | cons r z ih => simp only [List.map_cons, z7]; exact ⟨by simp [zp], ih⟩
theorem zp2 (z : List Rg) (fz : Bool) (hz : InZ z) (hl : z.length < 2 ^ 38) (w : List Rg) (hw : ∀ z', z'.Perm z → zfH (fun r s => cmpI r.lo s.lo) z' → zbH z' = w) (ho : ∀ r ∈ z, r.lo ≤ r.hi) :
    PCalls Tryz.prog 32 [zAV z fz] (.tup [zAV w false, .raw (.int .i64 0)]) := by
  refine zE Tryz.func32 rfl (N := 19) rfl rfl (by simp) (by have := zpj w false; simpa [noIds] using this) fun σ => ?_
  have hany : z.any (fun r => decide (r.hi < r.lo)) = false := by
    rw [List.any_eq_false]
    intro r hr
    have := ho r hr
    simp; omega
  have hc := zeS (g := 61) (p := fun r => decide (r.hi < r.lo)) z fz (by omega) fun r _ => zk6 r
  rw [hany] at hc
  refine za0 ?_
  refine PCalls.use hc ?_
  refine za0 ?_
  refine (zmA z fz).mono ?_
  rintro _ τ1 ⟨i1, rfl, hi1n, hi1, hE1⟩
  refine za0 ?_
  refine (ziS ztc ztd (zks i1 (full := fz) (z := z) (by omega)) (by omega) hi1).mono ?_
  rintro _ τ2 ⟨hB2, z', hp, hs, rfl⟩
  have hE2 : Ext σ τ2 := ⟨fun l o h => hB2.m l o (fun e => by rw [e, hi1n] at h; cases h) (hE1.m l o h), fun s => Nat.le_trans (hE1.nx s) (hB2.nx s)⟩
  have hmz := hw z' hp hs
  have hz' : InZ z' := fun r hr => hz r (hp.mem_iff.1 hr)
  have hl' : z'.length < 2 ^ 38 := by rw [hp.length_eq]; exact hl
  have hwl : w.length < 2 ^ 38 := by
    rw [← hmz]
    cases z' with
    | nil => simp [zbH]
    | cons r l => have := zjK l r; simp [zbH] at hl' ⊢; omega
  have hw0 : σ.m ⟨4, τ2.nx 4, 1⟩ = none := zI hE2
  have hwm : (τ2.new 4 1 (.buf [.sl 0 [] true])).m ⟨4, τ2.nx 4, 1⟩ = some (.buf [.sl 0 [] true]) := by simp
  refine za0 ?_
  refine (zlu z' false).mono ?_
  rintro _ τ3 ⟨i, rfl, his, hi0, hi, hE3⟩
  have hE : Ext σ τ3 := (hE2.trans (Ext.new _ _ _ _)).trans hE3
  have hi0' : σ.m i = none := by
    cases h : σ.m i with
    | none => rfl
    | some o => have := (hE2.trans (Ext.new τ2 4 1 (.buf [.sl 0 [] true]))).m i o h; rw [hi0] at this; cases this
  have hwi : (⟨4, τ2.nx 4, 1⟩ : Id) ≠ i := fun e => by rw [← e, hwm] at hi0; cases hi0
  have hwm := hE3.m _ _ hwm
  generalize (⟨4, τ2.nx 4, 1⟩ : Id) = wv at *
  refine za0 ?_
  refine znQ (f := 92) (w := wv) (es0 := []) (n := 2) (by simp) (zku i his (fz := false) hz' (by omega)) hE hi hi0' hwm hw0 hwi OwnL.nil ⟨by simp, by simp⟩ ?_ ?_
  · intro b lo L k x τ c hlo hL0 hLi hwL hx hG hc
    rw [hmz] at hx hG ⊢
    obtain ⟨r, hr, rfl⟩ : ∃ r, w[k]? = some r ∧ x = zp r := by
      rw [List.getElem?_map] at hx
      cases h : w[k]? with
      | none => rw [h] at hx; cases hx
      | some r => rw [h] at hx; injection hx with hx; exact ⟨r, rfl, hx.symm⟩
    have hk := (List.getElem?_eq_some_iff.1 hr).1
    refine YK.of hG.lp hlo rfl ?_
    clear hlo
    have h2 := hG.lp
    obtain ⟨g1, g2, g3, g4, v, g5, g6, g7⟩ := hG.start (slot := 5) (sz := 2) (x := .buf [zp r]) (lo2 := lo .busy none) hc hL0 hwL hLi
    (try ((first | with_reducible refine zs ?_ | with_reducible refine zx ?_ | with_reducible refine zy ?_); simp [-zJ, h2, rg_cells, rg_fold])); repeat' (first | ((first | refine zm ?_ | refine zl ?_ | refine dN (by decide +kernel) ?_ | (refine zb ?_ ?_ <;> (intro hg; simp only [hg])) | fail) <;> simp [-zJ, h2, rg_cells, rg_fold]) | refine zf ?_ | refine zg ?_ | (refine zF ?_; simp only [zG]; try simp) | ((first | refine zq (by simp) ?_ | refine zu (by simp) (by simp) (by simp (maxDischargeDepth := 30) [-zJ, h2, rg_cells, rg_fold]) ?_ | fail); simp) | (refine zd (fun hc => ?_) (fun hc => ?_) <;> try simp at hc) | fail)
    generalize (τ.new 5 2 (.buf [zp r])).set L (lo .busy none) = s at *
    generalize (⟨5, τ.nx 5, 2⟩ : Id) = r5 at *
    have hvc := g6.cells
    (try ((first | with_reducible refine zs ?_ | with_reducible refine zx ?_ | with_reducible refine zy ?_); simp [-zJ, g1, g5, rg_cells, rg_fold, hvc])); repeat' (first | ((first | refine zl ?_ | refine dN (by decide +kernel) ?_ | (refine zb ?_ ?_ <;> (intro hg; simp only [hg])) | fail) <;> simp [-zJ, g1, g5, rg_cells, rg_fold, hvc]) | refine zf ?_ | refine zg ?_ | (refine zF ?_; simp only [zG]; try simp) | ((first | refine zq (by simp) ?_ | refine zu (by simp) (by simp) (by simp (maxDischargeDepth := 30) [-zJ, g1, g5, rg_cells, rg_fold, hvc]) ?_ | fail); simp) | (apply zd2; focus (simp [-zJ, g1, g5, rg_cells, rg_fold, hvc]; done)) | (apply zd3; focus (simp [-zJ, g1, g5, rg_cells, rg_fold, hvc]; done)) | fail)
    have hEs := Ext.new s 16 2 (.buf [zp r])
    refine zaV zfM (g6.ext hEs) (g4.trans hEs) (ys := [zp r]) (by simp) (.inr rfl) (by simp [zp]) (by simp; omega) ?_
    intro v' τ2 hO2 hE2 hkeep hnx
    obtain ⟨k1, k2⟩ := hkeep _ _ (hEs.m _ _ g5) g7.1
    obtain ⟨k3, k4⟩ := hkeep _ _ (hEs.m _ _ g2) g7.2.1
    obtain ⟨k5, k6⟩ := hkeep _ _ (hEs.m _ _ g3) g7.2.2
    obtain ⟨f1, f2, f3⟩ := Gath.fin (lo2 := lo .ready none) hE2 k3 k1 k5 hO2 ⟨k2, k4, k6⟩ hw0 hL0 hwL hwi hLi
    have f2 : Gath σ wv L i 2 (lo .ready none) (List.take k (w.map zp) ++ [zp r]) ((τ2.set wv (.buf [v'])).set L (lo .ready none)) := f2
    have hvc2 := hO2.cells
    have hvo2 := hO2.cellOK
    simp only [cellOK] at hvo2
    have hsp := g6.setPart (x := v')
    have FF := fI @k1 (fI @hvc (fI @hvc2 (fI @hvo2 @hsp))); refine zB ?_; clear FF
    exact ⟨f1, by simpa using f2, f3⟩
  · rintro τ' hE' ⟨v, hv, hO⟩
    rw [hmz] at hO
    have hvc := hO.cells
    have FF := fI @hv @hvc; refine zB ?_; clear FF
    refine retP_own2 (.inr rfl) (by simp) hO hE'
end Go.Proofs.YtpboabpapgimoaaGreat.Av.Zn
namespace Go.Proofs.YtpboabpapgimoaaGreat.Av.Zn
open Go
set_option linter.unusedSimpArgs false
set_option linter.unusedVariables false
set_option maxRecDepth 100000
set_option maxHeartbeats 4000000
set_option pp.maxSteps 300
end Go.Proofs.YtpboabpapgimoaaGreat.Av.Zn
namespace Go.Proofs.YtpboabpapgimoaaGreat.Av.Zn
open Go
set_option linter.unusedSimpArgs false
set_option linter.unusedVariables false
set_option maxRecDepth 100000
set_option maxHeartbeats 4000000
set_option pp.maxSteps 300
def allZ : List Rg := [⟨0, 4294967295⟩]
def zuu : List (List Rg × Bool) → List Rg
  | [] => []
  | p :: l => p.1 ++ zuu l
def pAV (p : List Rg × Bool) : AV := zAV p.1 p.2
theorem zoi {n : Nat} {l : List AV} {f : Bool} (h : ∀ a ∈ l, noIds a) : noIds (.sl n l f) := by
  simp only [noIds, AV.ids]
  induction l with
  | nil => simp [z7]
  | cons a l ih => simp only [z7]; exact ⟨h a (by simp), ih fun b hb => h b (by simp [hb])⟩
end Go.Proofs.YtpboabpapgimoaaGreat.Av.Zn
namespace Go.Proofs.YtpboabpapgimoaaGreat.Av.Zn
open Go
set_option linter.unusedSimpArgs false
set_option linter.unusedVariables false
set_option maxRecDepth 100000
set_option maxHeartbeats 4000000
set_option pp.maxSteps 300
def iAV (n : Int) : AV := .raw (.int .i64 n)
def inAV (l : List Int) (b : Bool) : AV := .sl 1 (l.map iAV) b
theorem zoj (z : List Int) (b : Bool) : noIds (inAV z b) := zoi fun a ha => by
  obtain ⟨x, _, rfl⟩ := List.mem_map.1 ha
  simp [noIds, iAV]
def cutsAll (l : List Rg) : List Int := 0 :: l.flatMap fun r => [r.lo, r.hi + 1]
def nextCut (all : List Int) (last : Int) : Int := all.foldl (fun next a => if last < a ∧ a < next then a else next) 4294967296
def cutsFrom (all : List Int) : Nat → Int → List Int
  | 0, _ => []
  | n + 1, last => if nextCut all last ≤ 4294967295 then nextCut all last :: cutsFrom all n (nextCut all last) else []
theorem zmC {l : List Rg} {i : Nat} {r : Rg} (h : l[i]? = some r) : cutsAll (l.take (i + 1)) = cutsAll (l.take i) ++ [r.lo, r.hi + 1] := by
  unfold cutsAll
  rw [List.take_add_one, h]; simp
theorem zf5 (l : List Rg) : (cutsAll l).length = 1 + 2 * l.length := by
  unfold cutsAll
  induction l with
  | nil => rfl
  | cons r l ih => simp at ih ⊢; omega
def zbK (all : List Int) (last : Int) : Nat := (all.filter fun a => decide (last < a) && decide (a < 4294967296)).length
theorem zfI (all : List Int) (last : Int) : ∀ (l : List Int) (x : Int), (∀ a ∈ l, a ∈ all) → (x = 4294967296 ∨ (x ∈ all ∧ last < x ∧ x < 4294967296)) → x ≤ 4294967296 →
    let y := l.foldl (fun next a => if last < a ∧ a < next then a else next) x
    (y = 4294967296 ∨ (y ∈ all ∧ last < y ∧ y < 4294967296)) ∧ y ≤ x ∧ ∀ a ∈ l, last < a → y ≤ a
  | [], x, _, h, hx => ⟨h, Int.le_refl _, fun a h => by cases h⟩
  | b :: l, x, hl, h, hx => by
    simp only [List.foldl_cons]
    by_cases hb : last < b ∧ b < x
    · rw [if_pos hb]
      obtain ⟨h1, h2, h3⟩ := zfI all last l b (fun a ha => hl a (by simp [ha])) (.inr ⟨hl b (by simp), hb.1, by omega⟩) (by omega)
      refine ⟨h1, by omega, fun a ha h => ?_⟩
      rcases List.mem_cons.1 ha with rfl | ha
      · exact h2
      · exact h3 a ha h
    · rw [if_neg hb]
      obtain ⟨h1, h2, h3⟩ := zfI all last l x (fun a ha => hl a (by simp [ha])) h hx
      refine ⟨h1, h2, fun a ha h => ?_⟩
      rcases List.mem_cons.1 ha with rfl | ha
      · omega
      · exact h3 a ha h
theorem zjO (all : List Int) (last : Int) : (nextCut all last = 4294967296 ∨ (nextCut all last ∈ all ∧ last < nextCut all last ∧ nextCut all last < 4294967296)) ∧ nextCut all last ≤ 4294967296 ∧ ∀ a ∈ all, last < a → nextCut all last ≤ a :=
  zfI all last all 4294967296 (fun _ h => h) (.inl rfl) (Int.le_refl _)
theorem zet {all : List Int} {last : Int} (h : nextCut all last ≤ 4294967295) : zbK all (nextCut all last) < zbK all last := by
  obtain ⟨h1, h2, h3⟩ := zjO all last
  have h1 := h1.resolve_left (by omega)
  unfold zbK
  generalize nextCut all last = x at *
  have hsub : ∀ l : List Int, (l.filter fun a => decide (x < a) && decide (a < 4294967296)).length ≤ (l.filter fun a => decide (last < a) && decide (a < 4294967296)).length := by
    intro l
    induction l with
    | nil => simp
    | cons a l ih =>
      simp only [List.filter_cons]
      by_cases ha : x < a ∧ a < 4294967296
      · have : last < a := by omega
        simp [ha.1, ha.2, this, ih]
      · have hn : (decide (x < a) && decide (a < 4294967296)) = false := by
          simp only [Bool.and_eq_false_iff, decide_eq_false_iff_not]; omega
        rw [hn]
        simp only [Bool.false_eq_true, if_false]
        split
        · simp; omega
        · exact ih
  obtain ⟨s, t, rfl⟩ := List.append_of_mem h1.1
  rw [List.filter_append, List.filter_append, List.length_append, List.length_append]
  have e1 := hsub s
  have e2 := hsub t
  simp only [List.filter_cons]
  have hn : (decide (x < x) && decide (x < 4294967296)) = false := by simp
  have hy : (decide (last < x) && decide (x < 4294967296)) = true := by simp [h1.2.1, h1.2.2]
  rw [hn, hy]
  simp
  omega
theorem zhd (all : List Int) : ∀ (n m : Nat) (last : Int), zbK all last ≤ n → zbK all last ≤ m → cutsFrom all n last = cutsFrom all m last
  | 0, 0, _, _, _ => rfl
  | 0, m + 1, last, h, _ => by
    unfold cutsFrom
    split
    · rename_i hc; have := zet hc; omega
    · rfl
  | n + 1, 0, last, _, h => by
    unfold cutsFrom
    split
    · rename_i hc; have := zet hc; omega
    · rfl
  | n + 1, m + 1, last, h1, h2 => by
    unfold cutsFrom
    split
    · rename_i hc
      have := zet hc
      rw [zhd all n m _ (by omega) (by omega)]
    · rfl
def cutsOf (l : List Rg) : List Int := cutsFrom (cutsAll l) (zbK (cutsAll l) (-1)) (-1)
theorem zp3 (all : List Int) (last : Int) : zbK all last ≤ all.length := List.length_filter_le _ _
theorem zhM (all : List Int) : ∀ (n : Nat) (last : Int), (cutsFrom all n last).length ≤ n
  | 0, _ => by simp [cutsFrom]
  | n + 1, last => by
    unfold cutsFrom
    split
    · have := zhM all n (nextCut all last); simp; omega
    · simp
theorem zmD {all : List Int} {last : Int} {i : Nat} {a : Int} (h : all[i]? = some a) : nextCut (all.take (i + 1)) last = if last < a ∧ a < nextCut (all.take i) last then a else nextCut (all.take i) last := by
  unfold nextCut
  rw [List.take_add_one, h, List.foldl_append]
  rfl
end Go.Proofs.YtpboabpapgimoaaGreat.Av.Zn
namespace Go.Proofs.YtpboabpapgimoaaGreat.Av.Zn
open Go
set_option linter.unusedSimpArgs false
set_option linter.unusedVariables false
set_option maxRecDepth 100000
set_option maxHeartbeats 4000000
set_option pp.maxSteps 300
theorem zlv {all : List Int} {last : Int} (h : nextCut all last ≤ 4294967295) : cutsFrom all (zbK all last) last = nextCut all last :: cutsFrom all (zbK all (nextCut all last)) (nextCut all last) := by
  have hlt := zet h
  obtain ⟨n, hn⟩ : ∃ n, zbK all last = n + 1 := ⟨zbK all last - 1, by omega⟩
  rw [hn, cutsFrom, if_pos h, zhd all n (zbK all (nextCut all last)) _ (by omega) (Nat.le_refl _)]
theorem zlw {all : List Int} {last : Int} (h : ¬ nextCut all last ≤ 4294967295) : cutsFrom all (zbK all last) last = [] := by
  cases zbK all last with
  | zero => rfl
  | succ n => rw [cutsFrom, if_neg h]
theorem cuts_calls (l : List Rg) (f : Bool) (hz : InZ l) (hl : l.length < 2 ^ 30) : PCalls Tryz.prog 53 [zAV l f] (inAV (cutsOf l) false) := by
  refine zE Tryz.func53 rfl (N := 67) rfl rfl (by simp) (zoj _ _) fun σ => ?_
  refine za0 ?_
  refine zaC (fun A τ => OwnL σ τ 1 (A 3) ((cutsAll l).map iAV) ∧ Ext σ τ) ?_ ?_
  · intro R1 hR1
    refine zO (fun n A τ => ∃ (i : Nat) (v : AV), A 0 = zAV l f ∧ A 4 = .raw (.int .i64 i) ∧ A 3 = v ∧ OwnL σ τ 1 v ((cutsAll (l.take i)).map iAV) ∧ Ext σ τ ∧ i ≤ l.length ∧ n = l.length - i) l.length ?_ ?_
    · exact ⟨0, .rs ⟨10, σ.nx 10, 1⟩ 0 1, by simp, by simp, by simp, OwnL.of rfl (by simp [cutsAll, iAV]) (zc _ _ _) (by simp [cutsAll]), Ext.new _ _ _ _, by omega, by omega⟩
    rintro n A τ ⟨i, v, a0, a4, a3, hO, hE, hi, rfl⟩ I1 hI1
    by_cases hlt : i < l.length
    · have hx : l[i]? = some l[i] := List.getElem?_eq_getElem hlt
      obtain ⟨x1, x2, x3, x4⟩ := hz l[i] (List.getElem_mem _)
      have ht := zmC hx
      have hlen := zf5 (l.take i)
      rw [List.length_take, Nat.min_eq_left hi] at hlen
      have w1 : IntKind.i64.wrap ((i : Int) + 1) = ((i + 1 : Nat) : Int) := by rw [zo (by omega) (by omega)]; omega
      have w2 : IntKind.i64.wrap l[i].lo = l[i].lo := zo (by omega) (by omega)
      have w3 : IntKind.i64.wrap l[i].hi = l[i].hi := zo (by omega) (by omega)
      have w4 : IntKind.i64.wrap (l[i].hi + 1) = l[i].hi + 1 := zo (by omega) (by omega)
      (try ((first | with_reducible refine zs ?_ | with_reducible refine zx ?_ | with_reducible refine zy ?_); simp [-zJ, a0, a4, a3, zAV, zp, hlt, hx, w2, w3, w4])); repeat' (first | ((first | refine zl ?_ | refine dN (by decide +kernel) ?_ | (refine zb ?_ ?_ <;> (intro hg; simp only [hg])) | fail) <;> simp [-zJ, a0, a4, a3, zAV, zp, hlt, hx, w2, w3, w4]) | refine zf ?_ | refine zg ?_ | (refine zF ?_; simp only [zG]; try simp) | ((first | refine zq (by simp) ?_ | refine zu (by simp) (by simp) (by simp (maxDischargeDepth := 30) [-zJ, a0, a4, a3, zAV, zp, hlt, hx, w2, w3, w4]) ?_ | fail); simp) | (apply zd2; focus (simp [-zJ, a0, a4, a3, zAV, zp, hlt, hx, w2, w3, w4]; done)) | (apply zd3; focus (simp [-zJ, a0, a4, a3, zAV, zp, hlt, hx, w2, w3, w4]; done)) | fail)
      have hE31 := Ext.new τ 31 1 (.buf [.raw (.int .i64 l[i].lo), .raw (.int .i64 (l[i].hi + 1))])
      refine zaV zlG (hO.ext hE31) (hE.trans hE31) (ys := [iAV l[i].lo, iAV (l[i].hi + 1)]) (by simp [iAV]) (.inr rfl) (by simp [iAV]) (by simp; omega) ?_
      intro v' τ2 hO2 hE2 hkeep hnx
      have hO3 : OwnL σ τ2 1 v' ((cutsAll (l.take (i + 1))).map iAV) := by rw [ht]; simpa using hO2
      clear hkeep
      have FF := fI @a0 (fI @a4 @w1); refine zB ?_; clear FF
      exact hI1 (l.length - (i + 1)) _ _ (by omega) ⟨i + 1, v', by simp [a0, zAV, zp], by simp, by simp, hO3, hE2, by omega, rfl⟩
    · have : i = l.length := by omega
      subst this
      rw [List.take_length] at hO
      have FF := fI @a0 (fI @a4 zAV.eq_1); refine zB ?_; clear FF
      exact hR1 _ _ ⟨by simp [a3]; exact hO, hE⟩
  · rintro A τ ⟨hO, hE⟩
    refine zgN 3 hO hE ?_
    rintro A τ hE a3 - - - - -
    have a3 : A 3 = inAV (cutsAll l) false := a3
    have hcut : cutsFrom (cutsAll l) (zbK (cutsAll l) (-1)) (-1) = cutsOf l := rfl
    have hcl : (cutsOf l).length ≤ 1 + 2 * l.length := Nat.le_trans (zhM _ _ _) (by have := zp3 (cutsAll l) (-1); rw [zf5] at this; exact this)
    have hall : (cutsAll l).length ≤ 2 ^ 32 := by rw [zf5]; omega
    generalize cutsOf l = C at *
    generalize cutsAll l = all at *
    clear hO
    have w0 : IntKind.i64.wrap (-1) = -1 := zo (by omega) (by omega)
    have FF := fI @a3 @w0; refine zB ?_; clear FF
    refine zaC (fun A τ => OwnL σ τ 1 (A 5) (C.map iAV) ∧ Ext σ τ) ?_ ?_
    · intro R1 hR1
      refine zO (fun n A τ => ∃ (last : Int) (v : AV) (out : List Int), A 3 = inAV all false ∧ A 5 = v ∧ A 6 = .raw (.int .i64 last) ∧ OwnL σ τ 1 v (out.map iAV) ∧ Ext σ τ ∧ out.length ≤ C.length ∧
        ((A 7 = .raw (.bool true) ∧ out ++ cutsFrom all (zbK all last) last = C ∧ n = zbK all last + 1) ∨ (A 7 = .raw (.bool false) ∧ out = C ∧ n = 0))) (zbK all (-1) + 1) ?_ ?_
      · exact ⟨-1, .sl 0 [] true, [], by simp [a3], by simp, by simp, OwnL.nil, hE, by simp, .inl ⟨by simp, hcut, rfl⟩⟩
      clear a3 hE
      rintro n A τ ⟨last, v, out, a3, a5, a6, hO, hE, hol, ⟨a7, hc, rfl⟩ | ⟨a7, rfl, rfl⟩⟩ I1 hI1
      · have FF := fI @a3 (fI @a5 (fI @a6 @a7)); refine zB ?_; clear FF
        refine zaC (fun A' τ' => A' 3 = inAV all false ∧ A' 5 = v ∧ A' 6 = .raw (.int .i64 last) ∧ A' 8 = .raw (.int .i64 (nextCut all last)) ∧ τ' = τ) ?_ ?_
        · intro R2 hR2
          refine zO (fun n A' τ' => ∃ i : Nat, A' 3 = inAV all false ∧ A' 5 = v ∧ A' 6 = .raw (.int .i64 last) ∧ A' 9 = .raw (.int .i64 i) ∧ A' 8 = .raw (.int .i64 (nextCut (all.take i) last)) ∧ τ' = τ ∧ i ≤ all.length ∧ n = all.length - i) all.length ?_ ?_
          · exact ⟨0, by simp [a3], by simp [a5], by simp [a6], by simp, by simp [nextCut], rfl, by omega, by omega⟩
          clear a3 a5 a6 a7
          rintro n A' τ' ⟨i, a3, a5, a6, a9, a8, rfl, hi, rfl⟩ I2 hI2
          by_cases hlt : i < all.length
          · have hx : all[i]? = some all[i] := List.getElem?_eq_getElem hlt
            have ht := zmD (last := last) hx
            have w1 : IntKind.i64.wrap ((i : Int) + 1) = ((i + 1 : Nat) : Int) := by rw [zo (by omega) (by omega)]; omega
            generalize nextCut (all.take i) last = x at *
            have hic : ∀ n, (iAV n).cells = [iAV n] := fun n => rfl
            by_cases c1 : last < all[i]
            · by_cases c2 : all[i] < x
              · rw [if_pos ⟨c1, c2⟩] at ht
                (try ((first | with_reducible refine zs ?_ | with_reducible refine zx ?_ | with_reducible refine zy ?_); simp [a3, a5, a6, a9, a8, inAV, iAV, hlt, c1, c2, w1])); repeat' (first | ((first | refine zm ?_ | refine zl ?_ | refine dN (by decide +kernel) ?_ | (refine zb ?_ ?_ <;> (intro hg; simp only [hg])) | fail) <;> simp [a3, a5, a6, a9, a8, inAV, iAV, hlt, c1, c2, w1]) | refine zf ?_ | refine zg ?_ | (refine zF ?_; simp only [zG]; try simp) | ((first | refine zq (by simp) ?_ | refine zu (by simp) (by simp) (by simp (maxDischargeDepth := 30) [a3, a5, a6, a9, a8, inAV, iAV, hlt, c1, c2, w1]) ?_ | fail); simp) | (refine zd (fun hc => ?_) (fun hc => ?_) <;> try simp at hc) | fail)
                exact hI2 (all.length - (i + 1)) _ _ (by omega) ⟨i + 1, by simp [a3, inAV, iAV], by simp [a5], by simp [a6], by simp, by simp [ht], rfl, by omega, rfl⟩
              · rw [if_neg (fun h => c2 h.2)] at ht
                (try ((first | with_reducible refine zs ?_ | with_reducible refine zx ?_ | with_reducible refine zy ?_); simp [a3, a5, a6, a9, a8, inAV, iAV, hlt, c1, c2, w1])); repeat' (first | ((first | refine zm ?_ | refine zl ?_ | refine dN (by decide +kernel) ?_ | (refine zb ?_ ?_ <;> (intro hg; simp only [hg])) | fail) <;> simp [a3, a5, a6, a9, a8, inAV, iAV, hlt, c1, c2, w1]) | refine zf ?_ | refine zg ?_ | (refine zF ?_; simp only [zG]; try simp) | ((first | refine zq (by simp) ?_ | refine zu (by simp) (by simp) (by simp (maxDischargeDepth := 30) [a3, a5, a6, a9, a8, inAV, iAV, hlt, c1, c2, w1]) ?_ | fail); simp) | (refine zd (fun hc => ?_) (fun hc => ?_) <;> try simp at hc) | fail)
                exact hI2 (all.length - (i + 1)) _ _ (by omega) ⟨i + 1, by simp [a3, inAV, iAV], by simp [a5], by simp [a6], by simp, by simp [a8, ht], rfl, by omega, rfl⟩
            · rw [if_neg (fun h => c1 h.1)] at ht
              (try ((first | with_reducible refine zs ?_ | with_reducible refine zx ?_ | with_reducible refine zy ?_); simp [a3, a5, a6, a9, a8, inAV, iAV, hlt, c1, w1])); repeat' (first | ((first | refine zm ?_ | refine zl ?_ | refine dN (by decide +kernel) ?_ | (refine zb ?_ ?_ <;> (intro hg; simp only [hg])) | fail) <;> simp [a3, a5, a6, a9, a8, inAV, iAV, hlt, c1, w1]) | refine zf ?_ | refine zg ?_ | (refine zF ?_; simp only [zG]; try simp) | ((first | refine zq (by simp) ?_ | refine zu (by simp) (by simp) (by simp (maxDischargeDepth := 30) [a3, a5, a6, a9, a8, inAV, iAV, hlt, c1, w1]) ?_ | fail); simp) | (refine zd (fun hc => ?_) (fun hc => ?_) <;> try simp at hc) | fail)
              exact hI2 (all.length - (i + 1)) _ _ (by omega) ⟨i + 1, by simp [a3, inAV, iAV], by simp [a5], by simp [a6], by simp, by simp [a8, ht], rfl, by omega, rfl⟩
          · have : i = all.length := by omega
            subst this
            rw [List.take_length] at a8
            have FF := fI @a3 (fI @a5 (fI @a6 (fI @a9 (fI @a8 inAV.eq_1)))); refine zB ?_; clear FF
            exact hR2 _ _ ⟨by simp [a3, inAV], by simp [a5], by simp [a6], by simp [a8], rfl⟩
        · clear a3 a5 a6 a7
          rintro A τ' ⟨a3, a5, a6, a8, rfl⟩
          by_cases hn : nextCut all last ≤ 4294967295
          · have hlt := zet hn
            rw [zlv hn] at hc
            generalize nextCut all last = x at *
            have hlc := congrArg List.length hc
            simp only [List.length_append, List.length_cons] at hlc
            (try ((first | with_reducible refine zs ?_ | with_reducible refine zx ?_ | with_reducible refine zy ?_); simp [-zJ, a3, a5, a6, a8, hn])); repeat' (first | ((first | refine zl ?_ | refine dN (by decide +kernel) ?_ | (refine zb ?_ ?_ <;> (intro hg; simp only [hg])) | fail) <;> simp [-zJ, a3, a5, a6, a8, hn]) | refine zf ?_ | refine zg ?_ | (refine zF ?_; simp only [zG]; try simp) | ((first | refine zq (by simp) ?_ | refine zu (by simp) (by simp) (by simp (maxDischargeDepth := 30) [-zJ, a3, a5, a6, a8, hn]) ?_ | fail); simp) | (apply zd2; focus (simp [-zJ, a3, a5, a6, a8, hn]; done)) | (apply zd3; focus (simp [-zJ, a3, a5, a6, a8, hn]; done)) | fail)
            have hE63 := Ext.new τ' 63 1 (.buf [.raw (.int .i64 x)])
            refine zaV zlG (hO.ext hE63) (hE.trans hE63) (ys := [iAV x]) (by simp [iAV]) (.inr rfl) (by simp [iAV]) (by simp; omega) ?_
            intro v' τ2 hO2 hE2 hkeep hnx
            have hO3 : OwnL σ τ2 1 v' ((out ++ [x]).map iAV) := by simpa using hO2
            clear hkeep
            have FF := fI @a3 @a8; refine zB ?_; clear FF
            exact hI1 (zbK all x + 1) _ _ (by omega) ⟨x, v', out ++ [x], by simp [a3], by simp, by simp, hO3, hE2, by simp; omega, .inl ⟨by simp, by simpa using hc, rfl⟩⟩
          · rw [zlw hn, List.append_nil] at hc
            subst hc
            generalize nextCut all last = x at *
            have FF := fI @a3 (fI @a5 (fI @a6 (fI @a8 @hn))); refine zB ?_; clear FF
            exact hI1 0 _ _ (by omega) ⟨last, v, out, by simp [a3], by simp [a5], by simp [a6], hO, hE, Nat.le_refl _, .inr ⟨by simp, rfl, rfl⟩⟩
      · have FF := fI @a3 (fI @a5 (fI @a6 @a7)); refine zB ?_; clear FF
        exact hR1 _ _ ⟨by simp [a5]; exact hO, hE⟩
    · rintro A τ ⟨hO, hE⟩
      generalize ha5 : A 5 = v at *
      have FF := @ha5; refine goC ?_; clear FF
      exact ziH (.inr rfl) (by simp) hO hE
end Go.Proofs.YtpboabpapgimoaaGreat.Av.Zn
namespace Go.Proofs.YtpboabpapgimoaaGreat.Av.Zn
open Go
set_option linter.unusedSimpArgs false
set_option linter.unusedVariables false
set_option maxRecDepth 100000
set_option maxHeartbeats 4000000
set_option pp.maxSteps 300
def zdD (C : List Int) (i : Nat) : Int := match C[i + 1]? with | some x => x - 1 | none => 4294967295
theorem end_calls (C : List Int) (f : Bool) (i : Nat) (hl : C.length < 2 ^ 60) (hi : i < 2 ^ 60) (hC : ∀ x ∈ C, 0 ≤ x ∧ x ≤ 4294967296) : PCalls Tryz.prog 54 [inAV C f, .raw (.int .i64 i)] (.raw (.int .i64 (zdD C i))) := by
  refine zE Tryz.func54 rfl (N := 16) rfl rfl (by simp) (by simp [noIds]) fun σ => ?_
  have w1 : IntKind.i64.wrap ((i : Int) + 1) = ((i + 1 : Nat) : Int) := by rw [zo (by omega) (by omega)]; omega
  obtain ⟨k, hk⟩ : ∃ k, i + 1 = k := ⟨_, rfl⟩
  rw [hk] at w1
  unfold zdD
  rw [hk]
  by_cases hlt : k < C.length
  · have hx : C[k]? = some C[k] := List.getElem?_eq_getElem hlt
    obtain ⟨x1, x2⟩ := hC C[k] (List.getElem_mem _)
    have w2 : IntKind.i64.wrap (C[k] - 1) = C[k] - 1 := zo (by omega) (by omega)
    (try ((first | with_reducible refine zs ?_ | with_reducible refine zx ?_ | with_reducible refine zy ?_); simp [inAV, iAV, w1, hlt, w2])); repeat' (first | ((first | refine zm ?_ | refine zl ?_ | refine dN (by decide +kernel) ?_ | (refine zb ?_ ?_ <;> (intro hg; simp only [hg])) | fail) <;> simp [inAV, iAV, w1, hlt, w2]) | refine zf ?_ | refine zg ?_ | (refine zF ?_; simp only [zG]; try simp) | ((first | refine zq (by simp) ?_ | refine zu (by simp) (by simp) (by simp (maxDischargeDepth := 30) [inAV, iAV, w1, hlt, w2]) ?_ | fail); simp) | (refine zd (fun hc => ?_) (fun hc => ?_) <;> try simp at hc) | fail)
  · have hx : C[k]? = none := List.getElem?_eq_none (by omega)
    rw [hx]
    have FF := fI inAV.eq_1 (fI iAV.eq_1 (fI @w1 @hlt)); exact goA
def joinZ (z : List Rg) (f t : Int) : List Rg :=
  match z[z.length - 1]? with
  | some r => if r.hi + 1 = f then z.set (z.length - 1) ⟨r.lo, t⟩ else z ++ [⟨f, t⟩]
  | none => z ++ [⟨f, t⟩]
theorem joinZ_len (z : List Rg) (f t : Int) : (joinZ z f t).length ≤ z.length + 1 := by
  unfold joinZ
  split
  · split <;> simp
  · simp
theorem joinZ_in {z : List Rg} {f t : Int} (hz : InZ z) (hf : 0 ≤ f ∧ f < 4294967296) (ht : 0 ≤ t ∧ t < 4294967296) : InZ (joinZ z f t) := by
  unfold joinZ
  have hn : InZ (z ++ [⟨f, t⟩]) := fun s hs => by
    rcases List.mem_append.1 hs with hs | hs
    · exact hz s hs
    · simp only [List.mem_singleton] at hs; subst hs; exact ⟨hf.1, hf.2, ht.1, ht.2⟩
  split
  · rename_i r hr
    have hrz := hz r (List.mem_of_getElem? hr)
    split
    · intro s hs
      rcases List.mem_or_eq_of_mem_set hs with h | h
      · exact hz s h
      · subst h; exact ⟨hrz.1, hrz.2.1, ht.1, ht.2⟩
    · exact hn
  · exact hn
theorem join_calls {σ0 σ : St} {v : AV} {z : List Rg} {f t : Int} (hE : Ext σ0 σ) (hO : OwnL σ0 σ 2 v (z.map zp)) (hz : InZ z) (hf : 0 ≤ f ∧ f < 4294967296) (ht : 0 ≤ t ∧ t < 4294967296) (hl : z.length < 2 ^ 36) :
    ACalls Tryz.prog 36 [v, .raw (.int .i64 f), .raw (.int .i64 t)] σ fun v' τ => OwnL σ0 τ 2 v' ((joinZ z f t).map zp) ∧ Ext σ0 τ := by
  refine zaZ Tryz.func36 rfl (N := 40) rfl rfl (by simp) ?_
  have wf : IntKind.u32.wrap f = f := zc1 (by omega) (by omega)
  have wt : IntKind.u32.wrap t = t := zc1 (by omega) (by omega)
  have app : ∀ τ : St, τ = σ.new 38 2 (.buf [zp ⟨f, t⟩]) → ∀ k : AV → St → Prop, (∀ v' τ', OwnL σ0 τ' 2 v' ((z ++ [(⟨f, t⟩ : Rg)]).map zp) → Ext σ0 τ' → k v' τ') →
      OKr (zJ Tryz.prog τ.m 31 v (.rs ⟨38, σ.nx 38, 2⟩ 0 1)) (Res.go 39 τ k) := by
    rintro τ rfl k hk
    have hE38 := Ext.new σ 38 2 (.buf [zp ⟨f, t⟩])
    refine zaV zfM (hO.ext hE38) (hE.trans hE38) (ys := [zp ⟨f, t⟩]) (by simp) (.inr rfl) (by simp [zp]) (by simp; omega) ?_
    intro v' τ' h1 h2 _ _
    exact hk v' τ' (by simpa using h1) h2
  rcases Nat.eq_zero_or_pos z.length with h0 | hpos
  · have hz0 : z = [] := List.eq_nil_of_length_eq_zero h0
    subst hz0
    have hj : joinZ [] f t = [] ++ [⟨f, t⟩] := rfl
    rw [hj]
    rcases hO with ⟨_, rfl⟩ | ⟨j, rfl, hjs, hm, hn⟩
    · (try ((first | with_reducible refine zs ?_ | with_reducible refine zx ?_ | with_reducible refine zy ?_); simp [-zJ, wf, wt])); repeat' (first | ((first | refine zm ?_ | refine zl ?_ | refine dN (by decide +kernel) ?_ | (refine zb ?_ ?_ <;> (intro hg; simp only [hg])) | fail) <;> simp [-zJ, wf, wt]) | refine zf ?_ | refine zg ?_ | (refine zF ?_; simp only [zG]; try simp) | (refine zd (fun hc => ?_) (fun hc => ?_) <;> try simp at hc) | fail)
      refine app _ rfl _ fun v' τ' h1 h2 => ?_
      refine znV ?_
      exact zY (x := v') (.inr rfl) (by simp) ⟨h1, h2⟩
    · (try ((first | with_reducible refine zs ?_ | with_reducible refine zx ?_ | with_reducible refine zy ?_); simp [-zJ, wf, wt])); repeat' (first | ((first | refine zm ?_ | refine zl ?_ | refine dN (by decide +kernel) ?_ | (refine zb ?_ ?_ <;> (intro hg; simp only [hg])) | fail) <;> simp [-zJ, wf, wt]) | refine zf ?_ | refine zg ?_ | (refine zF ?_; simp only [zG]; try simp) | (refine zd (fun hc => ?_) (fun hc => ?_) <;> try simp at hc) | fail)
      refine app _ rfl _ fun v' τ' h1 h2 => ?_
      refine znV ?_
      exact zY (x := v') (.inr rfl) (by simp) ⟨h1, h2⟩
  · obtain ⟨k, hk⟩ : ∃ k, z.length = k + 1 := ⟨z.length - 1, by omega⟩
    have hx : z[k]? = some (z[k]'(by omega)) := List.getElem?_eq_getElem (by omega)
    obtain ⟨x1, x2, x3, x4⟩ := hz (z[k]'(by omega)) (List.getElem_mem _)
    have hj : joinZ z f t = if (z[k]'(by omega)).hi + 1 = f then z.set k ⟨(z[k]'(by omega)).lo, t⟩ else z ++ [⟨f, t⟩] := by
      unfold joinZ
      rw [show z.length - 1 = k by omega, hx]
    rw [hj]
    generalize z[k]'(by omega) = r at *
    rcases hO with ⟨hz0, rfl⟩ | ⟨j, rfl, hjs, hm, hn⟩
    · simp at hz0; subst hz0; simp at hk
    · rw [List.length_map, hk] at app ⊢
      have w1 : IntKind.i64.wrap (k : Int) = (k : Int) := zo (by omega) (by omega)
      have w2 : IntKind.i64.wrap r.hi = r.hi := zo (by omega) (by omega)
      have w3 : IntKind.i64.wrap (r.hi + 1) = r.hi + 1 := zo (by omega) (by omega)
      have w4 : IntKind.i64.wrap f = f := zo (by omega) (by omega)
      have c1 : (0 : Int) < (k : Int) + 1 := by omega
      have c2 : (k : Int) < (k : Int) + 1 := by omega
      have hsp : setPart (zp r) 1 [AV.raw (.int .u32 t)] = zp ⟨r.lo, t⟩ := rfl
      have hm' : σ.m j = some (.buf (z.map zp)) := hm
      by_cases hc : r.hi + 1 = f
      · rw [if_pos hc]
        (try ((first | with_reducible refine zs ?_ | with_reducible refine zx ?_ | with_reducible refine zy ?_); simp [-zJ, wf, wt, w1, w2, w3, w4, c1, c2, hm', hx, hjs, rg_cells, hc])); repeat' (first | ((first | refine zm ?_ | refine zl ?_ | refine dN (by decide +kernel) ?_ | (refine zb ?_ ?_ <;> (intro hg; simp only [hg])) | fail) <;> simp [-zJ, wf, wt, w1, w2, w3, w4, c1, c2, hm', hx, hjs, rg_cells, hc]) | refine zf ?_ | refine zg ?_ | (refine zF ?_; simp only [zG]; try simp) | (refine zd (fun hc => ?_) (fun hc => ?_) <;> try simp at hc) | fail)
        refine zY (x := .rs j 0 (k + 1)) (.inr rfl) (by simp) ⟨OwnL.of hjs (by simp [hm', hsp]) hn (by simp [hk]), ⟨fun i o h => ?_, hE.nx⟩⟩
        rw [zH (fun e => by rw [e, hn] at h; cases h)]; exact hE.m i o h
      · rw [if_neg hc]
        (try ((first | with_reducible refine zs ?_ | with_reducible refine zx ?_ | with_reducible refine zy ?_); simp [-zJ, wf, wt, w1, w2, w3, w4, c1, c2, hm', hx, hjs, rg_cells, hc])); repeat' (first | ((first | refine zm ?_ | refine zl ?_ | refine dN (by decide +kernel) ?_ | (refine zb ?_ ?_ <;> (intro hg; simp only [hg])) | fail) <;> simp [-zJ, wf, wt, w1, w2, w3, w4, c1, c2, hm', hx, hjs, rg_cells, hc]) | refine zf ?_ | refine zg ?_ | (refine zF ?_; simp only [zG]; try simp) | (refine zd (fun hc => ?_) (fun hc => ?_) <;> try simp at hc) | fail)
        refine app _ rfl _ fun v' τ' h1 h2 => ?_
        refine znV ?_
        exact zY (x := v') (.inr rfl) (by simp) ⟨by simpa using h1, h2⟩
def zcV (p : Int → Bool) (C : List Int) : Nat → List Rg
  | 0 => []
  | i + 1 => match C[i]? with
    | some c => if p c then joinZ (zcV p C i) c (zdD C i) else zcV p C i
    | none => zcV p C i
theorem zp4 {C : List Int} (hC : ∀ x ∈ C, 0 ≤ x ∧ x < 4294967296) (hp : ∀ i x, C[i + 1]? = some x → 0 < x) (i : Nat) : 0 ≤ zdD C i ∧ zdD C i < 4294967296 := by
  unfold zdD
  split
  · rename_i x hx
    have h1 := hC x (List.mem_of_getElem? hx)
    have h2 := hp i x hx
    omega
  · omega
theorem zmE {p : Int → Bool} {C : List Int} (hC : ∀ x ∈ C, 0 ≤ x ∧ x < 4294967296) (hp : ∀ i x, C[i + 1]? = some x → 0 < x) : ∀ i, InZ (zcV p C i)
  | 0 => by intro r h; simp [zcV] at h
  | i + 1 => by
    have ih := zmE (p := p) hC hp i
    unfold zcV
    split
    · rename_i c hc
      split
      · exact joinZ_in ih (hC c (List.mem_of_getElem? hc)) (zp4 hC hp i)
      · exact ih
    · exact ih
theorem zjP {P : Program} {f : FuncId} {as_ bs : List AV} {σ : St} {K : AV → St → Prop} (hw : ∀ S vs, LRel S as_ vs → LRel S bs vs) (h : ACalls P f bs σ K) : ACalls P f as_ σ K :=
  ⟨h.1, fun S vs hS hl => h.2 S vs hS (hw S vs hl)⟩
theorem zp5 {a b : AV} (h : Weaker a b) : ∀ S vs, LRel S [a] vs → LRel S [b] vs := fun S vs hl => by
  simp only [LRel] at hl ⊢
  obtain ⟨v, us, e, h1, h2⟩ := hl
  exact ⟨v, us, e, h _ _ h1, h2⟩
theorem _root_.Go.Proofs.YtpboabpapgimoaaGreat.Av.PCalls.useOwn {P : Program} {f : FuncId} {σ0 σ : St} {n : Nat} {v r : AV} {es : List AV} {K : AV → St → Prop} (h : PCalls P f [.sl n es false] r) (hO : OwnL σ0 σ n v es) (hE : Ext σ0 σ) (k : ∀ τ', Ext σ0 τ' → K r τ') : ACalls P f [v] σ K := by
  rcases hO with ⟨rfl, rfl⟩ | ⟨j, rfl, hj, hm, hn⟩
  · exact zjP (zp5 zaT) (h.use (k _ hE))
  · refine ACalls.freeze j ?_
    have e1 : [AV.rs j 0 es.length].map (zr (σ.del j).m σ.m) = [.sl n es false] := by
      simp only [List.map_cons, List.map_nil]
      rw [zeU hm (by simp), hj]; simp
    rw [e1]
    refine h.use (k _ ⟨fun i o hi => ?_, hE.nx⟩)
    rw [zU (fun e => by rw [e, hn] at hi; cases hi)]; exact hE.m i o hi
def zuv (how : Int) (p q : Bool) : Bool := (how == 1 && p && q) || (how == 2 && (p || q)) || (how == 3 && p && !q)
end Go.Proofs.YtpboabpapgimoaaGreat.Av.Zn
namespace Go.Proofs.YtpboabpapgimoaaGreat.Av.Zn
set_option linter.unusedSimpArgs false
set_option linter.unusedVariables false
theorem zpk (f t : Int) : joinZ [] f t = [⟨f, t⟩] := rfl
theorem zpl (r : Rg) (f t : Int) : joinZ [r] f t = if r.hi + 1 = f then [⟨r.lo, t⟩] else [r, ⟨f, t⟩] := rfl
theorem zok (r s : Rg) (z : List Rg) (f t : Int) : joinZ (r :: s :: z) f t = r :: joinZ (s :: z) f t := by
  unfold joinZ
  have e1 : (r :: s :: z)[(r :: s :: z).length - 1]? = (s :: z)[(s :: z).length - 1]? := by simp
  rw [e1]
  have e2 : ∀ q, (r :: s :: z).set ((r :: s :: z).length - 1) q = r :: (s :: z).set ((s :: z).length - 1) q := fun q => by simp
  split
  · split
    · rw [e2]
    · rfl
  · rfl
theorem joinZ_spec : ∀ (z : List Rg) (b f t : Int), RZ b z → (∀ r ∈ z, r.hi < f) → b < f → f ≤ t → RZ b (joinZ z f t) ∧ (∀ a, MZ (joinZ z f t) a ↔ MZ z a ∨ (f ≤ a ∧ a ≤ t)) ∧ ∀ r ∈ joinZ z f t, r.hi ≤ t
  | [], b, f, t, _, _, h1, h2 => by
    rw [zpk]
    refine ⟨⟨h1, h2, trivial⟩, fun a => ?_, fun r hr => by simp at hr; subst hr; exact Int.le_refl _⟩
    rw [mz_cons]
    constructor
    · rintro (h | h); exact .inr h; exact .inl h
    · rintro (h | h); exact .inr h; exact .inl h
  | [r], b, f, t, h, h0, h1, h2 => by
    obtain ⟨k1, k2, _⟩ := h
    have hr := h0 r (by simp)
    rw [zpl]
    split
    · rename_i e
      refine ⟨⟨k1, by simp only []; omega, trivial⟩, fun a => ?_, fun s hs => by simp at hs; subst hs; exact Int.le_refl _⟩
      rw [mz_cons, mz_cons]
      simp only []
      constructor
      · rintro (h | h)
        · by_cases a ≤ r.hi
          · exact .inl (.inl ⟨h.1, by assumption⟩)
          · exact .inr ⟨by omega, h.2⟩
        · exact absurd h mz_nil
      · rintro ((h | h) | h)
        · exact .inl ⟨h.1, by omega⟩
        · exact absurd h mz_nil
        · exact .inl ⟨by omega, h.2⟩
    · rename_i e
      refine ⟨⟨k1, k2, by simp only []; omega, h2, trivial⟩, fun a => ?_, fun s hs => ?_⟩
      · rw [mz_cons, mz_cons, mz_cons]
        constructor
        · rintro (h | h | h)
          · exact .inl (.inl h)
          · exact .inr h
          · exact absurd h mz_nil
        · rintro ((h | h) | h)
          · exact .inl h
          · exact absurd h mz_nil
          · exact .inr (.inl h)
      · simp at hs
        rcases hs with rfl | rfl
        · omega
        · exact Int.le_refl _
  | r :: s :: z, b, f, t, h, h0, h1, h2 => by
    obtain ⟨k1, k2, k3⟩ := h
    have hr := h0 s (by simp)
    have k3' := k3
    obtain ⟨l1, l2, _⟩ := k3
    obtain ⟨q1, q2, q3⟩ := joinZ_spec (s :: z) (r.hi + 1) f t k3' (fun x hx => h0 x (by simp [hx])) (by omega) h2
    rw [zok]
    refine ⟨⟨k1, k2, q1⟩, fun a => ?_, fun x hx => ?_⟩
    · rw [mz_cons, q2, mz_cons (r := r), or_assoc]
    · rcases List.mem_cons.1 hx with rfl | hx
      · have := h0 x (by simp); omega
      · exact q3 x hx
theorem znx (all : List Int) : ∀ (n : Nat) (last : Int), zbK all last ≤ n →
    (∀ c ∈ cutsFrom all n last, c ∈ all ∧ last < c ∧ c < 4294967296) ∧
    (∀ a ∈ all, last < a → a < 4294967296 → ∃ d, (cutsFrom all n last)[0]? = some d ∧ d ≤ a) ∧
    (∀ (i : Nat) (c : Int), (cutsFrom all n last)[i]? = some c → ∀ a ∈ all, c < a → a < 4294967296 → ∃ d, (cutsFrom all n last)[i + 1]? = some d ∧ d ≤ a) ∧
    (∀ (i : Nat) (c d : Int), (cutsFrom all n last)[i]? = some c → (cutsFrom all n last)[i + 1]? = some d → c < d)
  | 0, last, h => by
    refine ⟨(fun c hc => by simp [cutsFrom] at hc), fun a ha h1 h2 => ?_, (fun i c hc => by simp [cutsFrom] at hc), (fun i c d hc => by simp [cutsFrom] at hc)⟩
    have : 0 < zbK all last := by
      unfold zbK
      exact List.length_pos_of_mem (List.mem_filter.2 ⟨ha, by simp [h1, h2]⟩)
    omega
  | n + 1, last, h => by
    obtain ⟨n1, n2, n3⟩ := zjO all last
    unfold cutsFrom
    by_cases hx : nextCut all last ≤ 4294967295
    · rw [if_pos hx]
      have hlt := zet hx
      have n1 := n1.resolve_left (by omega)
      obtain ⟨h1, h2, h3, h4⟩ := znx all n (nextCut all last) (by omega)
      generalize nextCut all last = x at *
      refine ⟨fun c hc => ?_, fun a ha q1 q2 => ⟨x, rfl, n3 a ha q1⟩, fun i c hc a ha q1 q2 => ?_, fun i c d hc hd => ?_⟩
      · rcases List.mem_cons.1 hc with rfl | hc
        · exact n1
        · have := h1 c hc; exact ⟨this.1, by omega, this.2.2⟩
      · cases i with
        | zero => simp at hc; subst hc; simpa using h2 a ha q1 q2
        | succ i => simpa using h3 i c (by simpa using hc) a ha q1 q2
      · cases i with
        | zero =>
          simp at hc; subst hc
          have := h1 d (List.mem_of_getElem? (by simpa using hd))
          exact this.2.1
        | succ i => exact h4 i c d (by simpa using hc) (by simpa using hd)
    · rw [if_neg hx]
      refine ⟨(fun c hc => by cases hc), fun a ha q1 q2 => ?_, (fun i c hc => by simp at hc), (fun i c d hc => by simp at hc)⟩
      have := n3 a ha q1; omega
theorem cutsAll_mem {l : List Rg} {a : Int} : a ∈ cutsAll l ↔ a = 0 ∨ ∃ r ∈ l, a = r.lo ∨ a = r.hi + 1 := by
  unfold cutsAll; simp
structure Cuts (l : List Rg) (C : List Int) : Prop where
  rng : ∀ c ∈ C, 0 ≤ c ∧ c < 4294967296
  zero : C[0]? = some 0
  up : ∀ (i : Nat) (c d : Int), C[i]? = some c → C[i + 1]? = some d → c < d
  full : ∀ (i : Nat) (c : Int), C[i]? = some c → ∀ a ∈ cutsAll l, c < a → a < 4294967296 → ∃ d, C[i + 1]? = some d ∧ d ≤ a
theorem cuts_of (l : List Rg) (hz : InZ l) : Cuts l (cutsOf l) := by
  obtain ⟨h1, h2, h3, h4⟩ := znx (cutsAll l) (zbK (cutsAll l) (-1)) (-1) (Nat.le_refl _)
  have hr : ∀ c ∈ cutsOf l, 0 ≤ c ∧ c < 4294967296 := fun c hc => by have := h1 c hc; omega
  refine ⟨hr, ?_, h4, h3⟩
  obtain ⟨d, hd, hle⟩ := h2 0 (cutsAll_mem.2 (.inl rfl)) (by omega) (by omega)
  have := hr d (List.mem_of_getElem? hd)
  rw [show (cutsOf l)[0]? = some d from hd, show d = 0 by omega]
theorem Cuts.pos {l : List Rg} {C : List Int} (h : Cuts l C) : ∀ i c, C[i + 1]? = some c → 0 < c := fun i c hc => by
  have hi := (List.getElem?_eq_some_iff.1 hc).1
  have hx : C[i]? = some C[i] := List.getElem?_eq_getElem (by omega)
  have := h.up i _ _ hx hc
  have := h.rng C[i] (List.getElem_mem _)
  omega
def zci (C : List Int) (i : Nat) : Int := match C[i]? with | some c => c | none => 4294967296
theorem zg4 (C : List Int) (i : Nat) : zdD C i = zci C (i + 1) - 1 := by
  unfold zdD zci
  cases C[i + 1]? <;> simp
theorem Cuts.hasB {l m : List Rg} {C : List Int} (h : Cuts l C) (hm : ∀ r ∈ m, r ∈ l) (hz : InZ m) {i : Nat} {c a : Int} (hc : C[i]? = some c) (h1 : c ≤ a) (h2 : a ≤ zdD C i) : hasB m a = hasB m c := by
  have no : ∀ x ∈ cutsAll l, ¬ (c < x ∧ x ≤ a) := fun x hx k => by
    have ha : a < 4294967296 := by
      rw [zg4] at h2
      have : zci C (i + 1) ≤ 4294967296 := by
        unfold zci; split
        · rename_i d hd; have := h.rng d (List.mem_of_getElem? hd); omega
        · omega
      omega
    obtain ⟨d, hd, hle⟩ := h.full i c hc x hx k.1 (by omega)
    rw [zg4] at h2
    unfold zci at h2
    rw [hd] at h2
    simp only [] at h2
    omega
  unfold Zn.hasB
  rw [Bool.eq_iff_iff, List.any_eq_true, List.any_eq_true]
  have hc0 := h.rng c (List.mem_of_getElem? hc)
  constructor
  · rintro ⟨r, hr, k⟩
    refine ⟨r, hr, ?_⟩
    simp only [Bool.and_eq_true, decide_eq_true_eq] at k ⊢
    have n1 := no r.lo (cutsAll_mem.2 (.inr ⟨r, hm r hr, .inl rfl⟩))
    omega
  · rintro ⟨r, hr, k⟩
    refine ⟨r, hr, ?_⟩
    simp only [Bool.and_eq_true, decide_eq_true_eq] at k ⊢
    have n1 := no (r.hi + 1) (cutsAll_mem.2 (.inr ⟨r, hm r hr, .inr rfl⟩))
    omega
theorem zjQ {l : List Rg} {C : List Int} (h : Cuts l C) (p : Int → Bool) (hp : ∀ (i : Nat) (c a : Int), C[i]? = some c → c ≤ a → a ≤ zdD C i → p a = p c) : ∀ i, i ≤ C.length →
    RZ (-1) (zcV p C i) ∧ (∀ r ∈ zcV p C i, r.hi < zci C i) ∧ ∀ a, MZ (zcV p C i) a ↔ 0 ≤ a ∧ a < zci C i ∧ p a = true
  | 0, _ => by
    have : zci C 0 = 0 := by unfold zci; rw [h.zero]
    rw [this]
    exact ⟨trivial, fun r hr => by simp [zcV] at hr, fun a => ⟨fun k => absurd k mz_nil, fun k => by omega⟩⟩
  | i + 1, hi => by
    obtain ⟨h1, h2, h3⟩ := zjQ h p hp i (by omega)
    have hx : C[i]? = some C[i] := List.getElem?_eq_getElem (by omega)
    have hn : zci C i = C[i] := by unfold zci; rw [hx]
    have hCi := h.rng C[i] (List.getElem_mem _)
    have he := zg4 C i
    have hup : C[i] < zci C (i + 1) := by
      unfold zci
      split
      · rename_i d hd; exact h.up i _ _ hx hd
      · omega
    rw [hn] at h2 h3
    rw [zcV, hx]
    simp only []
    by_cases hpc : p C[i] = true
    · rw [if_pos hpc]
      obtain ⟨q1, q2, q3⟩ := joinZ_spec _ (-1) C[i] (zdD C i) h1 h2 (by omega) (by omega)
      refine ⟨q1, fun r hr => by have := q3 r hr; omega, fun a => ?_⟩
      rw [q2, h3]
      constructor
      · rintro (k | k)
        · exact ⟨k.1, by omega, k.2.2⟩
        · exact ⟨by omega, by omega, by rw [hp i _ a hx k.1 k.2]; exact hpc⟩
      · rintro ⟨k1, k2, k3⟩
        by_cases hlt : a < C[i]
        · exact .inl ⟨k1, hlt, k3⟩
        · exact .inr ⟨by omega, by omega⟩
    · rw [if_neg hpc]
      refine ⟨h1, fun r hr => by have := h2 r hr; omega, fun a => ?_⟩
      rw [h3]
      constructor
      · exact fun k => ⟨k.1, by omega, k.2.2⟩
      · rintro ⟨k1, k2, k3⟩
        refine ⟨k1, ?_, k3⟩
        apply Int.lt_of_not_ge
        intro hge
        exact hpc ((hp i _ a hx hge (by omega)) ▸ k3)
theorem zpm {l : List Rg} {C : List Int} (h : Cuts l C) (p : Int → Bool) (hp : ∀ (i : Nat) (c a : Int), C[i]? = some c → c ≤ a → a ≤ zdD C i → p a = p c) :
    RZ (-1) (zcV p C C.length) ∧ ∀ a, MZ (zcV p C C.length) a ↔ 0 ≤ a ∧ a < 4294967296 ∧ p a = true := by
  obtain ⟨h1, _, h3⟩ := zjQ h p hp C.length (Nat.le_refl _)
  have : zci C C.length = 4294967296 := by unfold zci; rw [List.getElem?_eq_none (by omega)]
  rw [this] at h3
  exact ⟨h1, h3⟩
theorem zpn {z : List Rg} (hz : InZ z) {a : Int} (h : MZ z a) : 0 ≤ a ∧ a < 4294967296 := by
  obtain ⟨r, hr, k⟩ := h
  obtain ⟨a, b, c, d⟩ := hz r hr
  omega
def refOfZ (l : List Rg) : List Rg := zcV (hasB l) (cutsOf l) (cutsOf l).length
theorem refOfZ_spec {l : List Rg} (hz : InZ l) : RZ (-1) (refOfZ l) ∧ (∀ a, MZ (refOfZ l) a ↔ MZ l a) ∧ InZ (refOfZ l) := by
  have hC := cuts_of l hz
  obtain ⟨h1, h2⟩ := zpm hC (hasB l) (fun i c a hc k1 k2 => hC.hasB (fun r h => h) hz hc k1 k2)
  refine ⟨h1, fun a => ?_, zmE hC.rng hC.pos _⟩
  rw [refOfZ, h2, hasB_iff]
  exact ⟨fun k => k.2.2, fun k => ⟨(zpn hz k).1, (zpn hz k).2, k⟩⟩
def zuw (how : Int) (x y : List Rg) : List Rg := zcV (fun a => zuv how (hasB x a) (hasB y a)) (cutsOf (x ++ y)) (cutsOf (x ++ y)).length
theorem zone_eq {x y : List Rg} (h : RZ (-1) x) (k : RZ (-1) y) (e : ∀ a, MZ x a ↔ MZ y a) : x = y := h.ext k e
theorem zte {z : List Rg} (hz : InZ z) (ho : ∀ r ∈ z, r.lo ≤ r.hi) : ∀ z', z'.Perm z → zfH (fun r s => cmpI r.lo s.lo) z' → zbH z' = refOfZ z := by
  intro z' hp hs
  obtain ⟨h1, h2, h3⟩ := refOfZ_spec hz
  have hs' : z'.Pairwise fun x y => x.lo ≤ y.lo := hs.imp fun h => by rw [cmpI_neg] at h; omega
  obtain ⟨k1, k2, _⟩ := znd (fun r hr => hz r (hp.mem_iff.1 hr)) (fun r hr => ho r (hp.mem_iff.1 hr)) hs'
  refine zone_eq k1 h1 fun a => ?_
  rw [k2, h2]
  unfold MZ
  constructor
  · rintro ⟨r, hr, k⟩; exact ⟨r, hp.mem_iff.1 hr, k⟩
  · rintro ⟨r, hr, k⟩; exact ⟨r, hp.mem_iff.2 hr, k⟩
end Go.Proofs.YtpboabpapgimoaaGreat.Av.Zn
namespace Go.Proofs.YtpboabpapgimoaaGreat.Av.Zn
open Go
set_option linter.unusedSimpArgs false
set_option linter.unusedVariables false
set_option maxRecDepth 100000
set_option maxHeartbeats 4000000
set_option pp.maxSteps 300
def zmF (l : List Rg) : AV := if l.any (fun r => decide (r.hi < r.lo)) then .tup [.sl 0 [] true, .raw (.int .i64 31)] else .tup [zAV (refOfZ l) false, .raw (.int .i64 0)]
theorem ofAV_ok {l : List Rg} (ho : ∀ r ∈ l, r.lo ≤ r.hi) : zmF l = .tup [zAV (refOfZ l) false, .raw (.int .i64 0)] := by
  unfold zmF
  rw [if_neg]
  rw [List.any_eq_true]
  rintro ⟨r, hr, k⟩
  have := ho r hr
  simp at k; omega
theorem zp6 {l : List Rg} (ho : l.any (fun r => decide (r.hi < r.lo)) = true) : zmF l = .tup [.sl 0 [] true, .raw (.int .i64 31)] := by
  unfold zmF; rw [if_pos ho]
theorem zqF (l : List Rg) : l.any (fun r => decide (r.hi < r.lo)) = true ∨ ∀ r ∈ l, r.lo ≤ r.hi := by
  cases h : l.any (fun r => decide (r.hi < r.lo)) with
  | true => exact .inl rfl
  | false =>
    refine .inr fun r hr => ?_
    have := List.any_eq_false.1 h r hr
    simp at this; exact this
theorem zoneOf_calls (z : List Rg) (fz : Bool) (hz : InZ z) (hl : z.length < 2 ^ 38) : PCalls Tryz.prog 32 [zAV z fz] (zmF z) := by
  rcases zqF z with h | h
  · rw [zp6 h]
    refine zE Tryz.func32 rfl (N := 19) rfl rfl (by simp) (by simp [noIds]) fun σ => ?_
    have hc := zeS (g := 61) (p := fun r => decide (r.hi < r.lo)) z fz (by omega) fun r _ => zk6 r
    rw [h] at hc
    refine za0 ?_
    refine PCalls.use hc ?_
    exact zgQ
  · rw [ofAV_ok h]
    exact zp2 z fz hz hl _ (zte hz h) h
structure Good (n : Nat) (z : List Rg) : Prop where
  inz : InZ z
  rz : RZ (-1) z
  len : z.length ≤ n
theorem Good.mono {n m : Nat} {z : List Rg} (h : Good n z) (hm : n ≤ m) : Good m z := ⟨h.inz, h.rz, Nat.le_trans h.len hm⟩
theorem _root_.Go.Proofs.YtpboabpapgimoaaGreat.Av.PCalls.useLent {P : Program} {f : FuncId} {σ0 σ : St} {n : Nat} {a v r : AV} {es : List AV} {K : AV → St → Prop} (h : PCalls P f [a, .sl n es false] r) (hr : r.plain = true) (hO : OwnL σ0 σ n v es) (k : K r σ) : ACalls P f [a, v] σ K := by
  rcases hO with ⟨rfl, rfl⟩ | ⟨j, rfl, hj, hm, hn⟩
  · refine zjP (bs := [a, .sl n [] false]) (fun S vs hl => ?_) (h.use k)
    simp only [LRel] at hl ⊢
    obtain ⟨v, us, e, h1, w, ws, e2, h2, h3⟩ := hl
    exact ⟨v, us, e, h1, w, ws, e2, zaT _ _ h2, h3⟩
  · refine RCalls.use (.inr ⟨[a, .sl n es false], ?_, h, hr⟩) k
    simp only [zdp]
    exact ⟨a, _, rfl, .inl rfl, _, _, rfl, .inr ⟨es, hm, by simp, by simp [hj]⟩, rfl⟩
instance (r : Rg) : Decidable r.In := by unfold Rg.In; infer_instance
instance (z : List Rg) : Decidable (InZ z) := by unfold InZ; infer_instance
end Go.Proofs.YtpboabpapgimoaaGreat.Av.Zn
namespace Go.Proofs.YtpboabpapgimoaaGreat.Av
open Go
set_option linter.unusedSimpArgs false
set_option linter.unusedVariables false
set_option maxRecDepth 100000
set_option maxHeartbeats 4000000
set_option pp.maxSteps 600
theorem ze9 (n : Nw) (f : Fl) (l : List Int) (fl : Bool) (hl : l.length < 2 ^ 60) : PCalls Tryz.prog 30 [zR n f, zh l fl] (.raw (.bool (!l.any (zas n)))) := by
  have hc := zia (g := 59) (caps := [.pp (zR n f).cells 0]) (p := zas n) l fl hl (fun d _ => zmu n f d)
  refine zE Tryz.func30 rfl (N := 9) rfl rfl (by simp) (by simp [noIds]) fun σ => ?_
  repeat (refine zf ?_)
  refine zl ?_
  simp [-cellOK, ze]
  generalize hA0 : put 9 _ _ _ = A0
  have d1 : A0 1 = zh l fl := by rw [← hA0]; simp [za]
  have d2 : A0 2 = .rp ⟨2, σ.nx 2, 3⟩ 0 0 := by rw [← hA0]; simp [za]
  clear hA0
  refine z8 ⟨2, σ.nx 2, 3⟩ ?_
  generalize hτ : St.del _ _ = τ
  generalize hA : (fun t => zr _ _ _) = A
  have a1 : A 1 = zh l fl := by rw [← hA, ← hτ]; simp [zr, d1, zh]
  have a2 : A 2 = .pp (zR n f).cells 0 := by rw [← hA, ← hτ]; simp [zr, St.new, St.del, ze, d2]
  have hE : Ext σ τ := by
    rw [← hτ]
    exact ⟨fun i o h => by rw [zU (fun e => by rw [e, zc] at h; cases h)]; exact zaz _ _ h, fun s => St.new_le σ 2 3 (.buf [zR n f]) s⟩
  clear hτ hA d1 d2
  generalize l.any (zas n) = bb at hc
  have FF := fI @a1 @a2; exact gxA
theorem zlx {g : FuncId} {caps : List AV} {p : Rg → Bool} (z : List Rg) (fz : Bool) (hl : z.length < 2 ^ 60) (hg : ∀ r ∈ z, PCalls Tryz.prog g (zp r :: caps) (.raw (.bool (p r)))) :
    PCalls Tryz.prog 87 [z9 z fz, .fn (.func g) [] caps] (.raw (.int .i64 (idxOf p z))) := by
  refine zE Tryz.func87 rfl (N := 19) rfl rfl (by simp) (by simp [noIds]) fun σ => ?_
  (try ((first | with_reducible refine zs ?_ | with_reducible refine zx ?_ | with_reducible refine zy ?_); simp [z9])); repeat' (first | ((first | refine zm ?_ | refine zl ?_ | refine dN (by decide +kernel) ?_ | (refine zb ?_ ?_ <;> (intro hg; simp only [hg])) | fail) <;> simp [z9]) | refine zf ?_ | refine zg ?_ | (refine zF ?_; simp only [zG]; try simp) | ((first | refine zq (by simp) ?_ | refine zu (by simp) (by simp) (by simp (maxDischargeDepth := 30) [z9]) ?_ | fail); simp) | (refine zd (fun hc => ?_) (fun hc => ?_) <;> try simp at hc) | fail)
  refine zO (fun n A τ => τ = σ ∧ A 0 = z9 z fz ∧ A 1 = .fn (.func g) [] caps ∧ A 7 = .raw (.int .i64 z.length) ∧ ∃ i : Nat, A 8 = .raw (.int .i64 i) ∧ i ≤ z.length ∧ n = z.length - i ∧ ∀ j, j < i → ∀ y, z[j]? = some y → p y = false) z.length ?_ ?_
  · exact ⟨rfl, by simp [z9], by simp, by simp, 0, by simp, by omega, by omega, fun j h => by omega⟩
  rintro n A τ ⟨rfl, a0, a1, a7, i, a8, hi, rfl, hn⟩ I1 hI1
  by_cases hlt : i < z.length
  · have hx : z[i]? = some z[i] := List.getElem?_eq_getElem hlt
    have w1 : IntKind.i64.wrap ((i : Int) + 1) = ((i + 1 : Nat) : Int) := by rw [zo (by omega) (by omega)]; omega
    have hr : AV.agg [.raw (.int .u32 z[i].lo), .raw (.int .u32 z[i].hi)] = zp z[i] := rfl
    (try ((first | with_reducible refine zs ?_ | with_reducible refine zx ?_ | with_reducible refine zy ?_); simp [z9, a0, a1, a7, a8, hlt, hx, rg_cells, hr])); repeat' (first | ((first | refine zm ?_ | refine zl ?_ | refine dN (by decide +kernel) ?_ | (refine zb ?_ ?_ <;> (intro hg; simp only [hg])) | fail) <;> simp [z9, a0, a1, a7, a8, hlt, hx, rg_cells, hr]) | refine zf ?_ | refine zg ?_ | (refine zF ?_; simp only [zG]; try simp) | ((first | refine zq (by simp) ?_ | refine zu (by simp) (by simp) (by simp (maxDischargeDepth := 30) [z9, a0, a1, a7, a8, hlt, hx, rg_cells, hr]) ?_ | fail); simp) | (refine zd (fun hc => ?_) (fun hc => ?_) <;> try simp at hc) | fail)
    refine PCalls.use (hg z[i] (List.getElem_mem _)) ?_
    cases hp : p z[i] with
    | true =>
      have FF := fI z9.eq_1 (fI @a0 (fI @a1 (fI @a7 (fI @a8 (fI @hlt (fI @hx (fI @rg_cells @hr))))))); refine zB ?_; clear FF
      exact (idxOf_here hx hp hn).symm
    | false =>
      have FF := fI z9.eq_1 (fI @a0 (fI @a1 (fI @a7 (fI @a8 (fI @hlt (fI @hx (fI @rg_cells @hr))))))); refine zB ?_; clear FF
      refine hI1 (z.length - (i + 1)) _ _ (by omega) ⟨rfl, by simp [a0], by simp [a1], by simp [a7], i + 1, by simp [w1], by omega, rfl, fun j hj y hy => ?_⟩
      by_cases e : j = i
      · subst e; rw [hx] at hy; injection hy with hy; subst hy; exact hp
      · exact hn j (by omega) y hy
  · have hi' : i = z.length := by omega
    subst hi'
    have w1 : IntKind.i64.wrap (-1) = -1 := zo (by omega) (by omega)
    have FF := fI z9.eq_1 (fI @a0 (fI @a1 (fI @a7 (fI @a8 @w1)))); refine zB ?_; clear FF
    exact (idxOf_none hn).1.symm
theorem zkv {g : FuncId} {caps : List AV} {p : Rg → Bool} (l : List Rg) {σ0 σ : St} {v : AV} {K : AV → St → Prop} (hO : OwnL σ0 σ 2 v (l.map zp)) (hE : Ext σ0 σ) (hl : l.length < 2 ^ 40)
    (hg : ∀ r ∈ l, PCalls Tryz.prog g (zp r :: caps) (.raw (.bool (p r)))) (h : ∀ v' τ, OwnP σ0 τ 2 v' ((l.filter fun r => !p r).map zp) → Ext σ0 τ → K v' τ) : ACalls Tryz.prog 81 [v, .fn (.func g) [] caps] σ K := by
  refine zaZ Tryz.func81 rfl (N := 42) rfl rfl (by simp) ?_
  refine za0 ?_
  refine PCalls.useP (zlx l false (by omega) hg) rfl hO.toP ?_
  cases ha : l.any p with
  | false =>
    have hi : idxOf p l = -1 := by unfold idxOf; rw [ha]; rfl
    have hfl : (l.filter fun r => !p r) = l := by
      rw [List.filter_eq_self]
      intro r hr
      rw [List.any_eq_false] at ha
      simpa using ha r hr
    have w1 : IntKind.i64.wrap (-1) = -1 := zo (by omega) (by omega)
    rw [hfl] at h
    have FF := fI @hi @w1; refine goC ?_; clear FF
    exact zY (.inr rfl) (by simp) (h _ _ hO.toP hE)
  | true =>
    have hi : idxOf p l = (l.findIdx p : Nat) := by unfold idxOf; rw [ha]; rfl
    have hlt0 : l.findIdx p < l.length := List.findIdx_lt_length.2 (by simpa using ha)
    obtain ⟨i0, hi0⟩ : ∃ i0, l.findIdx p = i0 := ⟨_, rfl⟩
    rw [hi0] at hi hlt0
    have hne : ¬ ((i0 : Int) = -1) := by omega
    have w0 : IntKind.i64.wrap ((i0 : Int) + 1) = ((i0 + 1 : Nat) : Int) := by rw [zo (by omega) (by omega)]; omega
    have w1 : IntKind.i64.wrap (-1) = -1 := zo (by omega) (by omega)
    rcases hO with ⟨he, _⟩ | ⟨j, hv, hj, hm, hn⟩
    · have : l = [] := by simpa using he
      subst this
      simp at ha
    rw [List.length_map] at hv
    subst hv
    have FF := fI @hi (fI @w1 (fI @hne @w0)); refine zB ?_; clear FF
    have hfirst : ∀ r ∈ l.take i0, p r = false := fun r hr => by
      obtain ⟨q, hq⟩ := List.getElem?_of_mem hr
      obtain ⟨hq1, hq2⟩ := List.getElem?_eq_some_iff.1 hq
      rw [List.length_take] at hq1
      rw [List.getElem_take] at hq2
      have := List.not_of_lt_findIdx (p := p) (xs := l) (i := q) (by omega)
      rw [hq2] at this
      simpa using this
    have hp0 : p l[i0] = true := by
      have := List.findIdx_getElem (p := p) (xs := l) (w := by omega)
      simpa only [hi0] using this
    have htk : ∀ k, (hk : k < l.length) → (l.take (k + 1)).filter (fun r => !p r) = (l.take k).filter (fun r => !p r) ++ if p l[k] = true then [] else [l[k]] := fun k hk => by
      rw [List.take_add_one, List.getElem?_eq_getElem hk, List.filter_append]
      congr 1
      cases hb : p l[k] <;> simp [hb]
    refine zO (fun n A τ => A 0 = .rs j 0 l.length ∧ A 1 = .fn (.func g) [] caps ∧ Ext σ0 τ ∧ ∃ (k : Nat) (q : List Rg), A 6 = .raw (.int .i64 k) ∧ A 5 = .raw (.int .i64 (((l.take k).filter fun r => !p r).length : Nat)) ∧ k ≤ l.length ∧
      ((l.take k).filter fun r => !p r).length < k ∧ q.length = l.length ∧ q.take ((l.take k).filter fun r => !p r).length = (l.take k).filter (fun r => !p r) ∧ q.drop k = l.drop k ∧ τ.m j = some (.buf (q.map zp)) ∧ n = l.length - k) (l.length - (i0 + 1)) ?_ ?_
    · have e1 : (l.take (i0 + 1)).filter (fun r => !p r) = l.take i0 := by
        rw [htk i0 hlt0, if_pos hp0, List.append_nil, List.filter_eq_self]
        intro r hr; simp [hfirst r hr]
      refine ⟨by simp, by simp, hE, i0 + 1, l, by simp, ?_, by omega, ?_, rfl, ?_, rfl, hm, rfl⟩
      · rw [e1, List.length_take, Nat.min_eq_left (by omega)]; simp
      · rw [e1, List.length_take, Nat.min_eq_left (by omega)]; omega
      · rw [e1, List.length_take, Nat.min_eq_left (by omega)]
    rintro n A τ ⟨a0, a1, hE, k, q, a6, a5, hk, hik, hq, hq1, hq2, hmq, rfl⟩ I1 hI1
    obtain ⟨i, hii⟩ : ∃ i, ((l.take k).filter fun r => !p r).length = i := ⟨_, rfl⟩
    rw [hii] at a5 hik hq1
    by_cases hlt : k < l.length
    · have hx : q[k]? = some l[k] := by
        have := congrArg (·[0]?) hq2
        simpa [List.getElem?_drop, List.getElem?_eq_getElem hlt] using this
      have hxi : q[i]? = some q[i] := List.getElem?_eq_getElem (by omega)
      have w2 : IntKind.i64.wrap ((k : Int) + 1) = ((k + 1 : Nat) : Int) := by rw [zo (by omega) (by omega)]; omega
      have w3 : IntKind.i64.wrap ((i : Int) + 1) = ((i + 1 : Nat) : Int) := by rw [zo (by omega) (by omega)]; omega
      have hjf : j ≠ ⟨7, τ.nx 7, 2⟩ := fun e => by rw [e, zc] at hmq; cases hmq
      have hil : i < l.length := by omega
      have FF := fI @a0 (fI @a1 (fI @a6 (fI @a5 (fI @hlt (fI @hx (fI @hmq (fI @hj (fI @hjf (fI @rg_cells (fI @rg_fold (fI @w2 @w3))))))))))); refine zB ?_; clear FF
      refine PCalls.use (hg l[k] (List.getElem_mem _)) ?_
      cases hpk : p l[k] with
      | true =>
        have FF := fI @a0 (fI @a1 (fI @a6 (fI @a5 (fI @hlt (fI @hx (fI @hmq (fI @hj (fI @hjf (fI @rg_cells (fI @rg_fold (fI @w2 @w3))))))))))); refine zB ?_; clear FF
        have e := htk k hlt
        rw [if_pos hpk, List.append_nil] at e
        refine hI1 (l.length - (k + 1)) _ _ (by omega) ⟨by simp [a0], by simp [a1], by simp [hE], k + 1, q, by simp, by rw [e, hii]; simp [a5], by omega, by rw [e, hii]; omega, hq, by rw [e, hii]; exact hq1, ?_, by simp [St.set, St.new, hjf, hmq], rfl⟩
        have := congrArg (List.drop 1) hq2
        simpa [List.drop_drop, Nat.add_comm] using this
      | false =>
        have hsp : setPart (zp q[i]) 0 (zp l[k]).cells = zp l[k] := rfl
        rw [rg_cells] at hsp
        have FF := fI @a0 (fI @a1 (fI @a6 (fI @a5 (fI @hlt (fI @hil (fI @hx (fI @hxi (fI @hmq (fI @hj (fI @hjf (fI @rg_cells (fI @rg_fold (fI @hsp (fI @w2 @w3)))))))))))))); refine zB ?_; clear FF
        have e := htk k hlt
        rw [if_neg (by simp [hpk])] at e
        have el : (((l.take k).filter fun r => !p r) ++ [l[k]]).length = i + 1 := by rw [List.length_append, hii]; rfl
        refine hI1 (l.length - (k + 1)) _ _ (by omega) ⟨by simp [a0], by simp [a1], Ext.setF (by simp [hE]) hn, k + 1, q.set i l[k], by simp, by rw [e, el]; simp, by omega, by rw [e, el]; omega, by simpa using hq, ?_, ?_, by simp [St.set, St.new, hjf, hmq, List.map_set], rfl⟩
        · rw [e, el, ← hq1, List.take_succ_eq_append_getElem (by simp; omega)]
          simp
          rw [List.take_set, List.set_eq_of_length_le (by simp; omega)]
        · have := congrArg (List.drop 1) hq2
          rw [List.drop_set_of_lt (by omega)]
          simpa [List.drop_drop, Nat.add_comm] using this
    · have : k = l.length := by omega
      subst this
      rw [List.take_length] at *
      have hil : i ≤ l.length := by omega
      obtain ⟨m, hm'⟩ : ∃ m, l.length - i = m + 1 := ⟨l.length - i - 1, by omega⟩
      have ecut : zdl j 0 i l.length = .rs j i (m + 1) := by unfold zdl; rw [if_pos (.inr (by omega)), hm', Nat.zero_add]
      obtain ⟨rest, hcl⟩ : ∃ rest, zdM Tryz.prog τ.m 31 (.rs j i (m + 1)) = some (.wrv j ((l.filter fun r => !p r).map zp ++ rest) (.tup [])) := by
        have hle : i + (m + 1) ≤ q.length := by omega
        refine ⟨List.replicate (m + 1) (zp ⟨0, 0⟩) ++ (q.map zp).drop (i + (m + 1)), ?_⟩
        rw [← hq1, List.map_take]
        simp [zdM, hmq, hj, zak, cellOK, hle, zp]
      have FF := fI @a0 (fI @a1 (fI @a6 (fI @a5 (fI @hj (fI @hil (fI @ecut @hcl)))))); refine goC ?_; clear FF
      have ec0 : zdl j 0 0 i = .rs j 0 ((l.filter fun r => !p r).map zp).length := by
        unfold zdl; rw [if_pos (.inl rfl), List.length_map, hii]; simp
      exact zY (.inr rfl) (x := zdl j 0 0 i) (by simp) (by
        rw [ec0]
        exact h _ _ (.inr ⟨j, rest, rfl, hj, zka hmq, hn⟩) (Ext.setF hE hn))
end Go.Proofs.YtpboabpapgimoaaGreat.Av
namespace Go.Proofs.YtpboabpapgimoaaGreat.Av
open Go
set_option linter.unusedSimpArgs false
set_option linter.unusedVariables false
set_option maxRecDepth 100000
set_option maxHeartbeats 4000000
set_option pp.maxSteps 600
theorem PCalls.useOwnP {P : Program} {f : FuncId} {σ0 σ : St} {n : Nat} {v r : AV} {es : List AV} {K : AV → St → Prop} (h : PCalls P f [.sl n es false] r) (hO : OwnP σ0 σ n v es) (hE : Ext σ0 σ) (k : ∀ τ', Ext σ0 τ' → K r τ') : ACalls P f [v] σ K := by
  rcases hO with ⟨rfl, rfl⟩ | ⟨j, rest, rfl, hj, hm, hn⟩
  · refine ACalls.args (bs := [.sl n [] false]) (fun S vs hl => ?_) (h.use (k _ hE))
    simp only [LRel] at hl ⊢
    obtain ⟨w, ws, e2, h2, e3⟩ := hl
    exact ⟨w, ws, e2, zaT _ _ h2, e3⟩
  · refine ACalls.freeze j ?_
    have e1 : zr (σ.del j).m σ.m (.rs j 0 es.length) = .sl n es false := by
      rw [zbf (by simp [St.del]) hm (by simp), hj]; simp
    rw [List.map_cons, List.map_nil, e1]
    exact h.use (k _ ⟨fun i o hi => by rw [zU (fun e => by rw [e, hn] at hi; cases hi)]; exact hE.m i o hi, hE.nx⟩)
theorem zkw {g : FuncId} {caps : List AV} {w : Int → Bool} (r : Rg) (hg : PCalls Tryz.prog g (.raw (.int .u32 r.lo) :: caps) (.raw (.bool (w r.lo)))) :
    PCalls Tryz.prog 82 [zp r, .pp [.fn (.func g) [] caps] 0] (.raw (.bool (!w r.lo))) := by
  refine zE Tryz.func82 rfl (N := 9) rfl rfl (by simp) (by simp [noIds]) fun σ => ?_
  have FF := fI @rg_cells (fI @zt @za); exact gxA
theorem ziu {σ0 σ : St} {v : AV} {P : List Rg} (hO : OwnL σ0 σ 2 v (P.map zp)) (hE : Ext σ0 σ) (hlen : P.length < 2 ^ 38) (hz : Zn.InZ P) (ho : ∀ r ∈ P, r.lo ≤ r.hi) {g : FuncId} {caps : List AV} {w : Int → Bool}
    (hg : ∀ r ∈ P, PCalls Tryz.prog g (.raw (.int .u32 r.lo) :: caps) (.raw (.bool (w r.lo)))) {K : AV → St → Prop} (hK : ∀ τ, Ext σ0 τ → K (Zn.zAV (Zn.refOfZ (P.filter fun r => w r.lo)) false) τ) :
    ACalls Tryz.prog 49 [v, .fn (.func g) [] caps] σ K := by
  refine zaZ Tryz.func49 rfl (N := 15) rfl rfl (by simp) ?_
  have hv3 : ∀ a k, v ≠ .rs ⟨3, σ.nx 3, 1⟩ a k := fun a k e => by
    rcases hO with ⟨_, rfl⟩ | ⟨j, rfl, h2, _⟩
    · cases e
    · injection e with e; rw [e] at h2; cases h2
  repeat (refine zf ?_)
  refine zl ?_
  simp [-cellOK]
  generalize hA0 : put 15 _ _ _ = A0
  have d0 : A0 0 = v := by rw [← hA0]; simp
  have d3 : A0 3 = .rp ⟨3, σ.nx 3, 1⟩ 0 0 := by rw [← hA0]; simp
  clear hA0
  refine z8 ⟨3, σ.nx 3, 1⟩ ?_
  generalize hτ : St.del _ _ = τ
  generalize hA : (fun t => zr _ _ _) = A
  have a3 : A 3 = .pp [.fn (.func g) [] caps] 0 := by rw [← hA, ← hτ]; simp [zr, St.new, St.del, d3]
  have hE2 : Ext σ0 τ := hE.trans (by
    rw [← hτ]
    exact ⟨fun i o h => by rw [zU (fun e => by rw [e, zc] at h; cases h)]; exact zaz _ _ h, fun s => St.new_le σ 3 1 (.buf [.fn (.func g) [] caps]) s⟩)
  have a0 : A 0 = v := by
    rw [← hA]
    show zr _ _ (A0 0) = _
    rw [d0]
    rcases hO with ⟨_, rfl⟩ | ⟨j, rfl, h2, _⟩
    · rfl
    · rw [← hτ]; exact zfy (fun e => hv3 0 _ (by rw [e]))
  have hO2 : OwnL σ0 τ 2 v (P.map zp) := by
    rcases hO with h | ⟨j, h1, h2, h3, h4⟩
    · exact .inl h
    · refine .inr ⟨j, h1, h2, ?_, h4⟩
      rw [← hτ, zU (fun e => hv3 0 _ (by rw [h1, e]))]; exact zaz _ _ h3
  clear hτ hA d0 d3 hO hE
  have FF := fI @a0 @a3; refine gxC ?_; clear FF
  refine zkv (p := fun r => !w r.lo) P hO2 hE2 (by omega) (fun r hr => zkw r (hg r hr)) fun v' τ' hP hE' => ?_
  have hfl : (P.filter fun r => !!w r.lo) = P.filter fun r => w r.lo := by simp
  rw [hfl] at hP
  have hsub : ∀ r ∈ P.filter (fun r => w r.lo), r ∈ P := fun r hr => (List.mem_filter.1 hr).1
  have hz' : Zn.InZ (P.filter fun r => w r.lo) := fun r hr => hz r (hsub r hr)
  have hof := Zn.zoneOf_calls (P.filter fun r => w r.lo) false hz' (Nat.lt_of_le_of_lt (List.length_filter_le _ _) hlen)
  rw [Zn.ofAV_ok fun r hr => ho r (hsub r hr)] at hof
  generalize P.filter (fun r => w r.lo) = Q at *
  have FF := fI @a0 @a3; refine gxC ?_; clear FF
  refine hof.useOwnP hP hE' fun τ2 hE2 => ?_
  (try ((first | with_reducible refine zs ?_ | with_reducible refine zx ?_ | with_reducible refine zy ?_); simp [-cellOK, Zn.zAV])); repeat' (first | ((first | refine zm ?_ | refine zl ?_ | refine dN (by decide +kernel) ?_ | refine dC (by decide +kernel) ?_ | (refine zb ?_ ?_ <;> (intro hg; simp only [hg])) | fail) <;> simp [-cellOK, Zn.zAV]) | refine zf ?_ | refine zg ?_ | (refine zF ?_; simp only [zG]; try simp) | (refine zd (fun hc => ?_) (fun hc => ?_) <;> try simp at hc) | fail)
  exact zY (x := Zn.zAV (Zn.refOfZ Q) false) (.inr rfl) (by simp [Zn.zAV]) (hK _ hE2)
end Go.Proofs.YtpboabpapgimoaaGreat.Av
