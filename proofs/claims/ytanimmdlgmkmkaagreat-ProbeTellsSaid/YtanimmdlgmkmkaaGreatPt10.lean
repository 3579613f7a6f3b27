/- Probe: ProbeTells. Part 10 of 15: AvZ7, AvZ8, AvZ9, AvZA, AvZB, AvZC, AvZD, AvZE, AvZF, AvZG, AvZH, AvZI, AvZJ, AvZK, AvZL, AvZM, AvZN, AvZO, AvZP, AvZQ, AvZR, AvZS, AvL20, AvQ1, AvQ0, AvQ2, AvQ3, AvP4, AvL21, AvL22, AvQ4, AvQ5, AvBJ, AvBK, AvBC, AvBG. -/
import Derived.Test.YtanimmdlgmkmkaaGreatPt6
import Derived.Test.YtanimmdlgmkmkaaGreatPt7
import Derived.Test.YtanimmdlgmkmkaaGreatPt8
import Derived.Test.YtanimmdlgmkmkaaGreatPt9
import Derived.Sort.AssemblyPlain
namespace Go.Proofs.YtanimmdlgmkmkaaGreat.Av.Zn
open Go
set_option linter.unusedSimpArgs false
set_option linter.unusedVariables false
set_option maxRecDepth 100000
set_option pp.maxSteps 300
instance : Inhabited Rg := ⟨⟨0, 0⟩⟩
def zer (d : Array Rg) : Ob := .buf (d.toList.map zat)
@[simp] theorem zub {σ : St} {i : Id} {o o' : Ob} : (σ.set i o).set i o' = σ.set i o' := by
  apply St.ext'
  · funext j
    by_cases h : j = i
    · subst h; cases hm : σ.m j <;> simp [hm]
    · rw [zav h, zav h, zav h]
  · rfl
structure Cmp (g : FuncId) (c : Rg → Rg → Int) : Prop where
  calls : ∀ x y, PCalls Tryz.prog g [zat x, zat y] (.raw (.int .i64 (c x y)))
def ltOf (c : Rg → Rg → Int) (x y : Rg) : Bool := decide (c x y < 0)
end Go.Proofs.YtanimmdlgmkmkaaGreat.Av.Zn
namespace Go.Proofs.YtanimmdlgmkmkaaGreat.Av.Zn
open Go
set_option linter.unusedSimpArgs false
set_option linter.unusedVariables false
set_option maxRecDepth 100000
set_option pp.maxSteps 300
end Go.Proofs.YtanimmdlgmkmkaaGreat.Av.Zn
namespace Go.Proofs.YtanimmdlgmkmkaaGreat.Av.Zn
open Go
set_option linter.unusedSimpArgs false
set_option linter.unusedVariables false
set_option maxRecDepth 100000
set_option pp.maxSteps 300
end Go.Proofs.YtanimmdlgmkmkaaGreat.Av.Zn
namespace Go.Proofs.YtanimmdlgmkmkaaGreat.Av.Zn
open Go
set_option linter.unusedSimpArgs false
set_option linter.unusedVariables false
set_option maxRecDepth 100000
set_option pp.maxSteps 300
end Go.Proofs.YtanimmdlgmkmkaaGreat.Av.Zn
namespace Go.Proofs.YtanimmdlgmkmkaaGreat.Av.Zn
open Go
set_option linter.unusedSimpArgs false
set_option linter.unusedVariables false
set_option maxRecDepth 100000
set_option pp.maxSteps 150
def PR (o : Id) (d : Array Rg) (σ : St) (g : FuncId) (a : Nat) (e : Array Rg) (i j : Nat) (A : zQ) (τ : St) : Prop :=
  τ.m o = some (zer e) ∧ τ.set o (zer d) = σ ∧ A 0 = .rs o 0 d.size ∧ A 1 = .raw (.int .i64 a) ∧ A 4 = .fn (.func g) [] [] ∧ A 12 = .raw (.int .i64 i) ∧ A 13 = .raw (.int .i64 j)
end Go.Proofs.YtanimmdlgmkmkaaGreat.Av.Zn
namespace Go.Proofs.YtanimmdlgmkmkaaGreat.Av.Zn
open Go
set_option linter.unusedSimpArgs false
set_option linter.unusedVariables false
set_option maxRecDepth 100000
set_option pp.maxSteps 150
def PQ (o : Id) (d : Array Rg) (σ : St) (g : FuncId) (a : Nat) (e : Array Rg) (i j : Nat) (A : zQ) (τ : St) : Prop :=
  τ.m o = some (zer e) ∧ τ.set o (zer d) = σ ∧ A 0 = .rs o 0 d.size ∧ A 1 = .raw (.int .i64 a) ∧ A 4 = .fn (.func g) [] [] ∧ A 11 = .raw (.int .i64 i) ∧ A 12 = .raw (.int .i64 j)
end Go.Proofs.YtanimmdlgmkmkaaGreat.Av.Zn
namespace Go.Proofs.YtanimmdlgmkmkaaGreat.Av.Zn
open Go
set_option linter.unusedSimpArgs false
set_option linter.unusedVariables false
set_option maxRecDepth 100000
set_option pp.maxSteps 150
def PI (o : Id) (d : Array Rg) (σ : St) (g : FuncId) (a b : Nat) (e : Array Rg) (i s : Nat) (A : zQ) (τ : St) : Prop :=
  τ.m o = some (zer e) ∧ τ.set o (zer d) = σ ∧ A 0 = .rs o 0 d.size ∧ A 1 = .raw (.int .i64 a) ∧ A 2 = .raw (.int .i64 b) ∧ A 3 = .fn (.func g) [] [] ∧ A 9 = .raw (.int .i64 i) ∧ A 10 = .raw (.int .i64 ((5 : Int) - s))
def PJ (o : Id) (d : Array Rg) (σ : St) (g : FuncId) (a b : Nat) (e : Array Rg) (i : Nat) (x : Int) (A : zQ) (τ : St) : Prop :=
  τ.m o = some (zer e) ∧ τ.set o (zer d) = σ ∧ A 0 = .rs o 0 d.size ∧ A 1 = .raw (.int .i64 a) ∧ A 2 = .raw (.int .i64 b) ∧ A 3 = .fn (.func g) [] [] ∧ A 9 = .raw (.int .i64 i) ∧ A 10 = .raw (.int .i64 x)
end Go.Proofs.YtanimmdlgmkmkaaGreat.Av.Zn
namespace Go.Proofs.YtanimmdlgmkmkaaGreat.Av.Zn
open Go
set_option linter.unusedSimpArgs false
set_option linter.unusedVariables false
set_option maxRecDepth 100000
set_option pp.maxSteps 150
end Go.Proofs.YtanimmdlgmkmkaaGreat.Av.Zn
namespace Go.Proofs.YtanimmdlgmkmkaaGreat.Av.Zn
open Go
set_option linter.unusedSimpArgs false
set_option linter.unusedVariables false
set_option maxRecDepth 100000
set_option maxHeartbeats 4000000
set_option pp.maxSteps 150
def zyE : Sort.Hint → Int
  | .unknown => 0
  | .increasing => 1
  | .decreasing => 2
end Go.Proofs.YtanimmdlgmkmkaaGreat.Av.Zn
namespace Go.Proofs.YtanimmdlgmkmkaaGreat.Av.Zn
open Go
set_option linter.unusedSimpArgs false
set_option linter.unusedVariables false
set_option maxRecDepth 100000
set_option maxHeartbeats 4000000
set_option pp.maxSteps 150
def zwm : ByteArray := ⟨#[0, 1, 2, 2, 3, 3, 3, 3, 4, 4, 4, 4, 4, 4, 4, 4, 5, 5, 5, 5, 5, 5, 5, 5, 5, 5, 5, 5, 5, 5, 5, 5, 6, 6, 6, 6, 6, 6, 6, 6, 6, 6, 6, 6, 6, 6, 6, 6, 6, 6, 6, 6, 6, 6, 6, 6, 6, 6, 6, 6, 6, 6, 6, 6, 7, 7, 7, 7, 7, 7, 7, 7, 7, 7, 7, 7, 7, 7, 7, 7, 7, 7, 7, 7, 7, 7, 7, 7, 7, 7, 7, 7, 7, 7, 7, 7, 7, 7, 7, 7, 7, 7, 7, 7, 7, 7, 7, 7, 7, 7, 7, 7, 7, 7, 7, 7, 7, 7, 7, 7, 7, 7, 7, 7, 7, 7, 7, 7, 8, 8, 8, 8, 8, 8, 8, 8, 8, 8, 8, 8, 8, 8, 8, 8, 8, 8, 8, 8, 8, 8, 8, 8, 8, 8, 8, 8, 8, 8, 8, 8, 8, 8, 8, 8, 8, 8, 8, 8, 8, 8, 8, 8, 8, 8, 8, 8, 8, 8, 8, 8, 8, 8, 8, 8, 8, 8, 8, 8, 8, 8, 8, 8, 8, 8, 8, 8, 8, 8, 8, 8, 8, 8, 8, 8, 8, 8, 8, 8, 8, 8, 8, 8, 8, 8, 8, 8, 8, 8, 8, 8, 8, 8, 8, 8, 8, 8, 8, 8, 8, 8, 8, 8, 8, 8, 8, 8, 8, 8, 8, 8, 8, 8, 8, 8, 8, 8, 8, 8, 8, 8, 8, 8, 8, 8, 8, 8]⟩
end Go.Proofs.YtanimmdlgmkmkaaGreat.Av.Zn
namespace Go.Proofs.YtanimmdlgmkmkaaGreat.Av.Zn
open Go
set_option linter.unusedSimpArgs false
set_option linter.unusedVariables false
set_option maxRecDepth 100000
set_option maxHeartbeats 4000000
set_option pp.maxSteps 1500
end Go.Proofs.YtanimmdlgmkmkaaGreat.Av.Zn
namespace Go.Proofs.YtanimmdlgmkmkaaGreat.Av.Zn
open Go
set_option linter.unusedSimpArgs false
set_option linter.unusedVariables false
set_option maxRecDepth 100000
set_option maxHeartbeats 4000000
set_option pp.maxSteps 1500
def brk (a l m i : Nat) (st : UInt64 × Array Rg) : Nat → UInt64 × Array Rg
  | 0 => st
  | k + 1 => Sort.breakStep a l m (brk a l m i st k) (i + k)
end Go.Proofs.YtanimmdlgmkmkaaGreat.Av.Zn
namespace Go.Proofs.YtanimmdlgmkmkaaGreat.Av.Zn
open Go
set_option linter.unusedSimpArgs false
set_option linter.unusedVariables false
set_option maxRecDepth 100000
set_option maxHeartbeats 8000000
set_option pp.maxSteps 600
structure Fr (o : Id) (x : Ob) (σ τ : St) : Prop where
  m : τ.m = (σ.set o x).m
  nx : ∀ s, σ.nx s ≤ τ.nx s
theorem Fr.set (o : Id) (x : Ob) (σ : St) : Fr o x σ (σ.set o x) := ⟨rfl, fun _ => Nat.le_refl _⟩
theorem Fr.buf {o : Id} {x y : Ob} {σ τ : St} (h : Fr o x σ τ) (hy : σ.m o = some y) : τ.m o = some x := by rw [h.m, zgf, hy]; rfl
theorem Fr.trans {o : Id} {x y : Ob} {σ τ ρ : St} (h : Fr o x σ τ) (k : Fr o y τ ρ) : Fr o y σ ρ := by
  refine ⟨?_, fun s => Nat.le_trans (h.nx s) (k.nx s)⟩
  rw [k.m]
  funext i
  by_cases e : i = o
  · subst e
    rw [zgf, zgf, h.m, zgf]
    cases σ.m i <;> rfl
  · rw [zav e, h.m, zav e, zav e]
def zuc (lt : Rg → Rg → Bool) (o : Id) (d : Array Rg) (a b : Nat) (σ : St) (r : AV) (τ : St) : Prop :=
  r = .tup [] ∧ ∃ d', Sort.PermIn a b d d' ∧ Sort.SortedIn lt a b d' ∧ Fr o (zer d') σ τ
def PdI (o : Id) (n a b lim : Nat) (g : FuncId) (wb wp : Bool) (A : zQ) : Prop :=
  A 0 = .rs o 0 n ∧ A 1 = .raw (.int .i64 a) ∧ A 2 = .raw (.int .i64 b) ∧ A 3 = .raw (.int .i64 lim) ∧ A 4 = .fn (.func g) [] [] ∧ A 10 = .raw (.bool wb) ∧ A 11 = .raw (.bool wp)
structure Rd (lt : Rg → Rg → Bool) (o : Id) (d : Array Rg) (a b : Nat) (σ : St) (a' b' : Nat) (e : Array Rg) (τ : St) : Prop where
  fr : Fr o (zer e) σ τ
  size : e.size = d.size
  below : Sort.Below lt a' b' e
  glue : ∀ R, Sort.PermIn a' b' e R → Sort.SortedIn lt a' b' R → Sort.PermIn a b d R ∧ Sort.SortedIn lt a b R
end Go.Proofs.YtanimmdlgmkmkaaGreat.Av.Zn
namespace Go.Proofs.YtanimmdlgmkmkaaGreat.Av.Zn
open Go
set_option linter.unusedSimpArgs false
set_option linter.unusedVariables false
set_option maxRecDepth 100000
set_option maxHeartbeats 4000000
set_option pp.maxSteps 300
def Coll (i : Id) (z : List Rg) (σ : St) (r : AV) (τ : St) : Prop := But i σ τ ∧ ((z = [] ∧ r = .sl 0 [] true) ∨ (z ≠ [] ∧ ∃ j, r = .rs j 0 z.length ∧ j.sz = 2 ∧ τ.m j = some (.buf (z.map zat)) ∧ σ.m j = none))
def ztk (c : Rg → Rg → Int) (z : List Rg) : Prop := z.Pairwise fun x y => ¬ c y x < 0
end Go.Proofs.YtanimmdlgmkmkaaGreat.Av.Zn
namespace Go.Proofs.YtanimmdlgmkmkaaGreat.Av.Zn
open Go
set_option linter.unusedSimpArgs false
set_option linter.unusedVariables false
set_option maxRecDepth 100000
set_option maxHeartbeats 4000000
set_option pp.maxSteps 300
def idxOf (p : Rg → Bool) (z : List Rg) : Int := if z.any p then (z.findIdx p : Nat) else -1
end Go.Proofs.YtanimmdlgmkmkaaGreat.Av.Zn
namespace Go.Proofs.YtanimmdlgmkmkaaGreat.Av.Zn
open Go
set_option linter.unusedSimpArgs false
set_option linter.unusedVariables false
set_option maxRecDepth 100000
set_option maxHeartbeats 4000000
set_option pp.maxSteps 300
end Go.Proofs.YtanimmdlgmkmkaaGreat.Av.Zn
namespace Go.Proofs.YtanimmdlgmkmkaaGreat.Av.Zn
open Go
set_option linter.unusedSimpArgs false
set_option linter.unusedVariables false
set_option maxRecDepth 100000
set_option maxHeartbeats 4000000
set_option pp.maxSteps 300
end Go.Proofs.YtanimmdlgmkmkaaGreat.Av.Zn
namespace Go.Proofs.YtanimmdlgmkmkaaGreat.Av.Zn
open Go
set_option linter.unusedSimpArgs false
set_option linter.unusedVariables false
set_option maxRecDepth 100000
set_option maxHeartbeats 4000000
set_option pp.maxSteps 300
end Go.Proofs.YtanimmdlgmkmkaaGreat.Av.Zn
namespace Go.Proofs.YtanimmdlgmkmkaaGreat.Av.Zn
open Go
set_option linter.unusedSimpArgs false
set_option linter.unusedVariables false
set_option maxRecDepth 100000
set_option maxHeartbeats 4000000
set_option pp.maxSteps 300
def allZ : List Rg := [⟨0, 4294967295⟩]
def ztl : List (List Rg × Bool) → List Rg
  | [] => []
  | p :: l => p.1 ++ ztl l
def pAV (p : List Rg × Bool) : AV := zAV p.1 p.2
theorem zm7 {n : Nat} {l : List AV} {f : Bool} (h : ∀ a ∈ l, noIds a) : noIds (.sl n l f) := by
  simp only [noIds, AV.ids]
  induction l with
  | nil => simp [zaj]
  | cons a l ih => simp only [zaj]; exact ⟨h a (by simp), ih fun b hb => h b (by simp [hb])⟩
end Go.Proofs.YtanimmdlgmkmkaaGreat.Av.Zn
namespace Go.Proofs.YtanimmdlgmkmkaaGreat.Av.Zn
open Go
set_option linter.unusedSimpArgs false
set_option linter.unusedVariables false
set_option maxRecDepth 100000
set_option maxHeartbeats 4000000
set_option pp.maxSteps 300
def iAV (n : Int) : AV := .raw (.int .i64 n)
def inAV (l : List Int) (b : Bool) : AV := .sl 1 (l.map iAV) b
theorem zm8 (z : List Int) (b : Bool) : noIds (inAV z b) := zm7 fun a ha => by
  obtain ⟨x, _, rfl⟩ := List.mem_map.1 ha
  simp [noIds, iAV]
def cutsAll (l : List Rg) : List Int := 0 :: l.flatMap fun r => [r.lo, r.hi + 1]
def nextCut (all : List Int) (last : Int) : Int := all.foldl (fun next a => if last < a ∧ a < next then a else next) 4294967296
def cutsFrom (all : List Int) : Nat → Int → List Int
  | 0, _ => []
  | n + 1, last => if nextCut all last ≤ 4294967295 then nextCut all last :: cutsFrom all n (nextCut all last) else []
theorem zlA {l : List Rg} {i : Nat} {r : Rg} (h : l[i]? = some r) : cutsAll (l.take (i + 1)) = cutsAll (l.take i) ++ [r.lo, r.hi + 1] := by
  unfold cutsAll
  rw [List.take_add_one, h]; simp
theorem zfz (l : List Rg) : (cutsAll l).length = 1 + 2 * l.length := by
  unfold cutsAll
  induction l with
  | nil => rfl
  | cons r l ih => simp at ih ⊢; omega
def zbH (all : List Int) (last : Int) : Nat := (all.filter fun a => decide (last < a) && decide (a < 4294967296)).length
theorem zfb (all : List Int) (last : Int) : ∀ (l : List Int) (x : Int), (∀ a ∈ l, a ∈ all) → (x = 4294967296 ∨ (x ∈ all ∧ last < x ∧ x < 4294967296)) → x ≤ 4294967296 →
    let y := l.foldl (fun next a => if last < a ∧ a < next then a else next) x
    (y = 4294967296 ∨ (y ∈ all ∧ last < y ∧ y < 4294967296)) ∧ y ≤ x ∧ ∀ a ∈ l, last < a → y ≤ a
  | [], x, _, h, hx => ⟨h, Int.le_refl _, fun a h => by cases h⟩
  | b :: l, x, hl, h, hx => by
    simp only [List.foldl_cons]
    by_cases hb : last < b ∧ b < x
    · rw [if_pos hb]
      obtain ⟨h1, h2, h3⟩ := zfb all last l b (fun a ha => hl a (by simp [ha])) (.inr ⟨hl b (by simp), hb.1, by omega⟩) (by omega)
      refine ⟨h1, by omega, fun a ha h => ?_⟩
      rcases List.mem_cons.1 ha with rfl | ha
      · exact h2
      · exact h3 a ha h
    · rw [if_neg hb]
      obtain ⟨h1, h2, h3⟩ := zfb all last l x (fun a ha => hl a (by simp [ha])) h hx
      refine ⟨h1, h2, fun a ha h => ?_⟩
      rcases List.mem_cons.1 ha with rfl | ha
      · omega
      · exact h3 a ha h
theorem zje (all : List Int) (last : Int) : (nextCut all last = 4294967296 ∨ (nextCut all last ∈ all ∧ last < nextCut all last ∧ nextCut all last < 4294967296)) ∧ nextCut all last ≤ 4294967296 ∧ ∀ a ∈ all, last < a → nextCut all last ≤ a :=
  zfb all last all 4294967296 (fun _ h => h) (.inl rfl) (Int.le_refl _)
theorem zed {all : List Int} {last : Int} (h : nextCut all last ≤ 4294967295) : zbH all (nextCut all last) < zbH all last := by
  obtain ⟨h1, h2, h3⟩ := zje all last
  have h1 := h1.resolve_left (by omega)
  unfold zbH
  generalize nextCut all last = x at *
  have hsub : ∀ l : List Int, (l.filter fun a => decide (x < a) && decide (a < 4294967296)).length ≤ (l.filter fun a => decide (last < a) && decide (a < 4294967296)).length := by
    intro l
    induction l with
    | nil => simp
    | cons a l ih =>
      simp only [List.filter_cons]
      by_cases ha : x < a ∧ a < 4294967296
      · have : last < a := by omega
        simp [ha.1, ha.2, this, ih]
      · have hn : (decide (x < a) && decide (a < 4294967296)) = false := by
          simp only [Bool.and_eq_false_iff, decide_eq_false_iff_not]; omega
        rw [hn]
        simp only [Bool.false_eq_true, if_false]
        split
        · simp; omega
        · exact ih
  obtain ⟨s, t, rfl⟩ := List.append_of_mem h1.1
  rw [List.filter_append, List.filter_append, List.length_append, List.length_append]
  have e1 := hsub s
  have e2 := hsub t
  simp only [List.filter_cons]
  have hn : (decide (x < x) && decide (x < 4294967296)) = false := by simp
  have hy : (decide (last < x) && decide (x < 4294967296)) = true := by simp [h1.2.1, h1.2.2]
  rw [hn, hy]
  simp
  omega
theorem zgH (all : List Int) : ∀ (n m : Nat) (last : Int), zbH all last ≤ n → zbH all last ≤ m → cutsFrom all n last = cutsFrom all m last
  | 0, 0, _, _, _ => rfl
  | 0, m + 1, last, h, _ => by
    unfold cutsFrom
    split
    · rename_i hc; have := zed hc; omega
    · rfl
  | n + 1, 0, last, _, h => by
    unfold cutsFrom
    split
    · rename_i hc; have := zed hc; omega
    · rfl
  | n + 1, m + 1, last, h1, h2 => by
    unfold cutsFrom
    split
    · rename_i hc
      have := zed hc
      rw [zgH all n m _ (by omega) (by omega)]
    · rfl
def cutsOf (l : List Rg) : List Int := cutsFrom (cutsAll l) (zbH (cutsAll l) (-1)) (-1)
theorem zoI (all : List Int) (last : Int) : zbH all last ≤ all.length := List.length_filter_le _ _
theorem zhi (all : List Int) : ∀ (n : Nat) (last : Int), (cutsFrom all n last).length ≤ n
  | 0, _ => by simp [cutsFrom]
  | n + 1, last => by
    unfold cutsFrom
    split
    · have := zhi all n (nextCut all last); simp; omega
    · simp
theorem zlB {all : List Int} {last : Int} {i : Nat} {a : Int} (h : all[i]? = some a) : nextCut (all.take (i + 1)) last = if last < a ∧ a < nextCut (all.take i) last then a else nextCut (all.take i) last := by
  unfold nextCut
  rw [List.take_add_one, h, List.foldl_append]
  rfl
end Go.Proofs.YtanimmdlgmkmkaaGreat.Av.Zn
namespace Go.Proofs.YtanimmdlgmkmkaaGreat.Av.Zn
open Go
set_option linter.unusedSimpArgs false
set_option linter.unusedVariables false
set_option maxRecDepth 100000
set_option maxHeartbeats 4000000
set_option pp.maxSteps 300
theorem zkq {all : List Int} {last : Int} (h : nextCut all last ≤ 4294967295) : cutsFrom all (zbH all last) last = nextCut all last :: cutsFrom all (zbH all (nextCut all last)) (nextCut all last) := by
  have hlt := zed h
  obtain ⟨n, hn⟩ : ∃ n, zbH all last = n + 1 := ⟨zbH all last - 1, by omega⟩
  rw [hn, cutsFrom, if_pos h, zgH all n (zbH all (nextCut all last)) _ (by omega) (Nat.le_refl _)]
theorem zkr {all : List Int} {last : Int} (h : ¬ nextCut all last ≤ 4294967295) : cutsFrom all (zbH all last) last = [] := by
  cases zbH all last with
  | zero => rfl
  | succ n => rw [cutsFrom, if_neg h]
theorem cuts_calls (l : List Rg) (f : Bool) (hz : InZ l) (hl : l.length < 2 ^ 30) : PCalls Tryz.prog 113 [zAV l f] (inAV (cutsOf l) false) := by
  refine zK Tryz.func113 rfl (N := 67) rfl rfl (by simp) (zm8 _ _) fun σ => ?_
  (try ((first | with_reducible refine zk ?_ | with_reducible refine zm ?_ | with_reducible refine zo ?_); simp)); repeat' (first | ((first | refine zd ?_ | refine zh ?_ | refine dN (by decide +kernel) ?_ | (refine za ?_ ?_ <;> (intro hg; simp only [hg])) | fail) <;> simp) | refine zg ?_ | refine zc ?_ | (refine zs ?_; simp only [zt]; try simp) | ((first | refine zl (by simp) ?_ | refine zw (by simp) (by simp) (by simp (maxDischargeDepth := 30)) ?_ | fail); simp) | (refine zb (fun hc => ?_) (fun hc => ?_) <;> try simp at hc) | fail)
  refine zcD (fun A τ => OwnL σ τ 1 (A 3) ((cutsAll l).map iAV) ∧ Ext σ τ) ?_ ?_
  · intro R1 hR1
    refine zab (fun n A τ => ∃ (i : Nat) (v : AV), A 0 = zAV l f ∧ A 4 = .raw (.int .i64 i) ∧ A 3 = v ∧ OwnL σ τ 1 v ((cutsAll (l.take i)).map iAV) ∧ Ext σ τ ∧ i ≤ l.length ∧ n = l.length - i) l.length ?_ ?_
    · exact ⟨0, .rs ⟨10, σ.nx 10, 1⟩ 0 1, by simp, by simp, by simp, OwnL.of rfl (by simp [cutsAll, iAV]) (zf _ _ _) (by simp [cutsAll]), Ext.new _ _ _ _, by omega, by omega⟩
    rintro n A τ ⟨i, v, a0, a4, a3, hO, hE, hi, rfl⟩ I1 hI1
    by_cases hlt : i < l.length
    · have hx : l[i]? = some l[i] := List.getElem?_eq_getElem hlt
      obtain ⟨x1, x2, x3, x4⟩ := hz l[i] (List.getElem_mem _)
      have ht := zlA hx
      have hlen := zfz (l.take i)
      rw [List.length_take, Nat.min_eq_left hi] at hlen
      have w1 : IntKind.i64.wrap ((i : Int) + 1) = ((i + 1 : Nat) : Int) := by rw [zU (by omega) (by omega)]; omega
      have w2 : IntKind.i64.wrap l[i].lo = l[i].lo := zU (by omega) (by omega)
      have w3 : IntKind.i64.wrap l[i].hi = l[i].hi := zU (by omega) (by omega)
      have w4 : IntKind.i64.wrap (l[i].hi + 1) = l[i].hi + 1 := zU (by omega) (by omega)
      (try ((first | with_reducible refine zk ?_ | with_reducible refine zm ?_ | with_reducible refine zo ?_); simp [-zO, a0, a4, a3, zAV, zat, hlt, hx, w2, w3, w4])); repeat' (first | ((first | refine zh ?_ | refine dN (by decide +kernel) ?_ | (refine za ?_ ?_ <;> (intro hg; simp only [hg])) | fail) <;> simp [-zO, a0, a4, a3, zAV, zat, hlt, hx, w2, w3, w4]) | refine zg ?_ | refine zc ?_ | (refine zs ?_; simp only [zt]; try simp) | ((first | refine zl (by simp) ?_ | refine zw (by simp) (by simp) (by simp (maxDischargeDepth := 30) [-zO, a0, a4, a3, zAV, zat, hlt, hx, w2, w3, w4]) ?_ | fail); simp) | (apply ziT; focus (simp [-zO, a0, a4, a3, zAV, zat, hlt, hx, w2, w3, w4]; done)) | (apply ziU; focus (simp [-zO, a0, a4, a3, zAV, zat, hlt, hx, w2, w3, w4]; done)) | fail)
      have hE31 := Ext.new τ 31 1 (.buf [.raw (.int .i64 l[i].lo), .raw (.int .i64 (l[i].hi + 1))])
      refine zaV zel (hO.ext hE31) (hE.trans hE31) (ys := [iAV l[i].lo, iAV (l[i].hi + 1)]) (by simp [iAV]) (.inr rfl) (by simp [iAV]) (by simp; omega) ?_
      intro v' τ2 hO2 hE2 hkeep hnx
      have hO3 : OwnL σ τ2 1 v' ((cutsAll (l.take (i + 1))).map iAV) := by rw [ht]; simpa using hO2
      clear hkeep
      (try ((first | with_reducible refine zk ?_ | with_reducible refine zm ?_ | with_reducible refine zo ?_); simp [a0, a4, w1])); repeat' (first | ((first | refine zd ?_ | refine zh ?_ | refine dN (by decide +kernel) ?_ | (refine za ?_ ?_ <;> (intro hg; simp only [hg])) | fail) <;> simp [a0, a4, w1]) | refine zg ?_ | refine zc ?_ | (refine zs ?_; simp only [zt]; try simp) | ((first | refine zl (by simp) ?_ | refine zw (by simp) (by simp) (by simp (maxDischargeDepth := 30) [a0, a4, w1]) ?_ | fail); simp) | (refine zb (fun hc => ?_) (fun hc => ?_) <;> try simp at hc) | fail)
      exact hI1 (l.length - (i + 1)) _ _ (by omega) ⟨i + 1, v', by simp [a0, zAV, zat], by simp, by simp, hO3, hE2, by omega, rfl⟩
    · have : i = l.length := by omega
      subst this
      rw [List.take_length] at hO
      (try ((first | with_reducible refine zk ?_ | with_reducible refine zm ?_ | with_reducible refine zo ?_); simp [a0, a4, zAV])); repeat' (first | ((first | refine zd ?_ | refine zh ?_ | refine dN (by decide +kernel) ?_ | (refine za ?_ ?_ <;> (intro hg; simp only [hg])) | fail) <;> simp [a0, a4, zAV]) | refine zg ?_ | refine zc ?_ | (refine zs ?_; simp only [zt]; try simp) | ((first | refine zl (by simp) ?_ | refine zw (by simp) (by simp) (by simp (maxDischargeDepth := 30) [a0, a4, zAV]) ?_ | fail); simp) | (refine zb (fun hc => ?_) (fun hc => ?_) <;> try simp at hc) | fail)
      exact hR1 _ _ ⟨by simp [a3]; exact hO, hE⟩
  · rintro A τ ⟨hO, hE⟩
    refine zgg 3 hO hE ?_
    rintro A τ hE a3 - - - - -
    have a3 : A 3 = inAV (cutsAll l) false := a3
    have hcut : cutsFrom (cutsAll l) (zbH (cutsAll l) (-1)) (-1) = cutsOf l := rfl
    have hcl : (cutsOf l).length ≤ 1 + 2 * l.length := Nat.le_trans (zhi _ _ _) (by have := zoI (cutsAll l) (-1); rw [zfz] at this; exact this)
    have hall : (cutsAll l).length ≤ 2 ^ 32 := by rw [zfz]; omega
    generalize cutsOf l = C at *
    generalize cutsAll l = all at *
    clear hO
    have w0 : IntKind.i64.wrap (-1) = -1 := zU (by omega) (by omega)
    (try ((first | with_reducible refine zk ?_ | with_reducible refine zm ?_ | with_reducible refine zo ?_); simp [a3, w0])); repeat' (first | ((first | refine zd ?_ | refine zh ?_ | refine dN (by decide +kernel) ?_ | (refine za ?_ ?_ <;> (intro hg; simp only [hg])) | fail) <;> simp [a3, w0]) | refine zg ?_ | refine zc ?_ | (refine zs ?_; simp only [zt]; try simp) | ((first | refine zl (by simp) ?_ | refine zw (by simp) (by simp) (by simp (maxDischargeDepth := 30) [a3, w0]) ?_ | fail); simp) | (refine zb (fun hc => ?_) (fun hc => ?_) <;> try simp at hc) | fail)
    refine zcD (fun A τ => OwnL σ τ 1 (A 5) (C.map iAV) ∧ Ext σ τ) ?_ ?_
    · intro R1 hR1
      refine zab (fun n A τ => ∃ (last : Int) (v : AV) (out : List Int), A 3 = inAV all false ∧ A 5 = v ∧ A 6 = .raw (.int .i64 last) ∧ OwnL σ τ 1 v (out.map iAV) ∧ Ext σ τ ∧ out.length ≤ C.length ∧
        ((A 7 = .raw (.bool true) ∧ out ++ cutsFrom all (zbH all last) last = C ∧ n = zbH all last + 1) ∨ (A 7 = .raw (.bool false) ∧ out = C ∧ n = 0))) (zbH all (-1) + 1) ?_ ?_
      · exact ⟨-1, .sl 0 [] true, [], by simp [a3], by simp, by simp, OwnL.nil, hE, by simp, .inl ⟨by simp, hcut, rfl⟩⟩
      clear a3 hE
      rintro n A τ ⟨last, v, out, a3, a5, a6, hO, hE, hol, ⟨a7, hc, rfl⟩ | ⟨a7, rfl, rfl⟩⟩ I1 hI1
      · (try ((first | with_reducible refine zk ?_ | with_reducible refine zm ?_ | with_reducible refine zo ?_); simp [a3, a5, a6, a7])); repeat' (first | ((first | refine zd ?_ | refine zh ?_ | refine dN (by decide +kernel) ?_ | (refine za ?_ ?_ <;> (intro hg; simp only [hg])) | fail) <;> simp [a3, a5, a6, a7]) | refine zg ?_ | refine zc ?_ | (refine zs ?_; simp only [zt]; try simp) | ((first | refine zl (by simp) ?_ | refine zw (by simp) (by simp) (by simp (maxDischargeDepth := 30) [a3, a5, a6, a7]) ?_ | fail); simp) | (refine zb (fun hc => ?_) (fun hc => ?_) <;> try simp at hc) | fail)
        refine zcD (fun A' τ' => A' 3 = inAV all false ∧ A' 5 = v ∧ A' 6 = .raw (.int .i64 last) ∧ A' 8 = .raw (.int .i64 (nextCut all last)) ∧ τ' = τ) ?_ ?_
        · intro R2 hR2
          refine zab (fun n A' τ' => ∃ i : Nat, A' 3 = inAV all false ∧ A' 5 = v ∧ A' 6 = .raw (.int .i64 last) ∧ A' 9 = .raw (.int .i64 i) ∧ A' 8 = .raw (.int .i64 (nextCut (all.take i) last)) ∧ τ' = τ ∧ i ≤ all.length ∧ n = all.length - i) all.length ?_ ?_
          · exact ⟨0, by simp [a3], by simp [a5], by simp [a6], by simp, by simp [nextCut], rfl, by omega, by omega⟩
          clear a3 a5 a6 a7
          rintro n A' τ' ⟨i, a3, a5, a6, a9, a8, rfl, hi, rfl⟩ I2 hI2
          by_cases hlt : i < all.length
          · have hx : all[i]? = some all[i] := List.getElem?_eq_getElem hlt
            have ht := zlB (last := last) hx
            have w1 : IntKind.i64.wrap ((i : Int) + 1) = ((i + 1 : Nat) : Int) := by rw [zU (by omega) (by omega)]; omega
            generalize nextCut (all.take i) last = x at *
            have hic : ∀ n, (iAV n).cells = [iAV n] := fun n => rfl
            by_cases c1 : last < all[i]
            · by_cases c2 : all[i] < x
              · rw [if_pos ⟨c1, c2⟩] at ht
                (try ((first | with_reducible refine zk ?_ | with_reducible refine zm ?_ | with_reducible refine zo ?_); simp [a3, a5, a6, a9, a8, inAV, iAV, hlt, c1, c2, w1])); repeat' (first | ((first | refine zd ?_ | refine zh ?_ | refine dN (by decide +kernel) ?_ | (refine za ?_ ?_ <;> (intro hg; simp only [hg])) | fail) <;> simp [a3, a5, a6, a9, a8, inAV, iAV, hlt, c1, c2, w1]) | refine zg ?_ | refine zc ?_ | (refine zs ?_; simp only [zt]; try simp) | ((first | refine zl (by simp) ?_ | refine zw (by simp) (by simp) (by simp (maxDischargeDepth := 30) [a3, a5, a6, a9, a8, inAV, iAV, hlt, c1, c2, w1]) ?_ | fail); simp) | (refine zb (fun hc => ?_) (fun hc => ?_) <;> try simp at hc) | fail)
                exact hI2 (all.length - (i + 1)) _ _ (by omega) ⟨i + 1, by simp [a3, inAV, iAV], by simp [a5], by simp [a6], by simp, by simp [ht], rfl, by omega, rfl⟩
              · rw [if_neg (fun h => c2 h.2)] at ht
                (try ((first | with_reducible refine zk ?_ | with_reducible refine zm ?_ | with_reducible refine zo ?_); simp [a3, a5, a6, a9, a8, inAV, iAV, hlt, c1, c2, w1])); repeat' (first | ((first | refine zd ?_ | refine zh ?_ | refine dN (by decide +kernel) ?_ | (refine za ?_ ?_ <;> (intro hg; simp only [hg])) | fail) <;> simp [a3, a5, a6, a9, a8, inAV, iAV, hlt, c1, c2, w1]) | refine zg ?_ | refine zc ?_ | (refine zs ?_; simp only [zt]; try simp) | ((first | refine zl (by simp) ?_ | refine zw (by simp) (by simp) (by simp (maxDischargeDepth := 30) [a3, a5, a6, a9, a8, inAV, iAV, hlt, c1, c2, w1]) ?_ | fail); simp) | (refine zb (fun hc => ?_) (fun hc => ?_) <;> try simp at hc) | fail)
                exact hI2 (all.length - (i + 1)) _ _ (by omega) ⟨i + 1, by simp [a3, inAV, iAV], by simp [a5], by simp [a6], by simp, by simp [a8, ht], rfl, by omega, rfl⟩
            · rw [if_neg (fun h => c1 h.1)] at ht
              (try ((first | with_reducible refine zk ?_ | with_reducible refine zm ?_ | with_reducible refine zo ?_); simp [a3, a5, a6, a9, a8, inAV, iAV, hlt, c1, w1])); repeat' (first | ((first | refine zd ?_ | refine zh ?_ | refine dN (by decide +kernel) ?_ | (refine za ?_ ?_ <;> (intro hg; simp only [hg])) | fail) <;> simp [a3, a5, a6, a9, a8, inAV, iAV, hlt, c1, w1]) | refine zg ?_ | refine zc ?_ | (refine zs ?_; simp only [zt]; try simp) | ((first | refine zl (by simp) ?_ | refine zw (by simp) (by simp) (by simp (maxDischargeDepth := 30) [a3, a5, a6, a9, a8, inAV, iAV, hlt, c1, w1]) ?_ | fail); simp) | (refine zb (fun hc => ?_) (fun hc => ?_) <;> try simp at hc) | fail)
              exact hI2 (all.length - (i + 1)) _ _ (by omega) ⟨i + 1, by simp [a3, inAV, iAV], by simp [a5], by simp [a6], by simp, by simp [a8, ht], rfl, by omega, rfl⟩
          · have : i = all.length := by omega
            subst this
            rw [List.take_length] at a8
            (try ((first | with_reducible refine zk ?_ | with_reducible refine zm ?_ | with_reducible refine zo ?_); simp [a3, a5, a6, a9, a8, inAV])); repeat' (first | ((first | refine zd ?_ | refine zh ?_ | refine dN (by decide +kernel) ?_ | (refine za ?_ ?_ <;> (intro hg; simp only [hg])) | fail) <;> simp [a3, a5, a6, a9, a8, inAV]) | refine zg ?_ | refine zc ?_ | (refine zs ?_; simp only [zt]; try simp) | ((first | refine zl (by simp) ?_ | refine zw (by simp) (by simp) (by simp (maxDischargeDepth := 30) [a3, a5, a6, a9, a8, inAV]) ?_ | fail); simp) | (refine zb (fun hc => ?_) (fun hc => ?_) <;> try simp at hc) | fail)
            exact hR2 _ _ ⟨by simp [a3, inAV], by simp [a5], by simp [a6], by simp [a8], rfl⟩
        · clear a3 a5 a6 a7
          rintro A τ' ⟨a3, a5, a6, a8, rfl⟩
          by_cases hn : nextCut all last ≤ 4294967295
          · have hlt := zed hn
            rw [zkq hn] at hc
            generalize nextCut all last = x at *
            have hlc := congrArg List.length hc
            simp only [List.length_append, List.length_cons] at hlc
            (try ((first | with_reducible refine zk ?_ | with_reducible refine zm ?_ | with_reducible refine zo ?_); simp [-zO, a3, a5, a6, a8, hn])); repeat' (first | ((first | refine zh ?_ | refine dN (by decide +kernel) ?_ | (refine za ?_ ?_ <;> (intro hg; simp only [hg])) | fail) <;> simp [-zO, a3, a5, a6, a8, hn]) | refine zg ?_ | refine zc ?_ | (refine zs ?_; simp only [zt]; try simp) | ((first | refine zl (by simp) ?_ | refine zw (by simp) (by simp) (by simp (maxDischargeDepth := 30) [-zO, a3, a5, a6, a8, hn]) ?_ | fail); simp) | (apply ziT; focus (simp [-zO, a3, a5, a6, a8, hn]; done)) | (apply ziU; focus (simp [-zO, a3, a5, a6, a8, hn]; done)) | fail)
            have hE63 := Ext.new τ' 63 1 (.buf [.raw (.int .i64 x)])
            refine zaV zel (hO.ext hE63) (hE.trans hE63) (ys := [iAV x]) (by simp [iAV]) (.inr rfl) (by simp [iAV]) (by simp; omega) ?_
            intro v' τ2 hO2 hE2 hkeep hnx
            have hO3 : OwnL σ τ2 1 v' ((out ++ [x]).map iAV) := by simpa using hO2
            clear hkeep
            (try ((first | with_reducible refine zk ?_ | with_reducible refine zm ?_ | with_reducible refine zo ?_); simp [a3, a8])); repeat' (first | ((first | refine zd ?_ | refine zh ?_ | refine dN (by decide +kernel) ?_ | (refine za ?_ ?_ <;> (intro hg; simp only [hg])) | fail) <;> simp [a3, a8]) | refine zg ?_ | refine zc ?_ | (refine zs ?_; simp only [zt]; try simp) | ((first | refine zl (by simp) ?_ | refine zw (by simp) (by simp) (by simp (maxDischargeDepth := 30) [a3, a8]) ?_ | fail); simp) | (refine zb (fun hc => ?_) (fun hc => ?_) <;> try simp at hc) | fail)
            exact hI1 (zbH all x + 1) _ _ (by omega) ⟨x, v', out ++ [x], by simp [a3], by simp, by simp, hO3, hE2, by simp; omega, .inl ⟨by simp, by simpa using hc, rfl⟩⟩
          · rw [zkr hn, List.append_nil] at hc
            subst hc
            generalize nextCut all last = x at *
            (try ((first | with_reducible refine zk ?_ | with_reducible refine zm ?_ | with_reducible refine zo ?_); simp [a3, a5, a6, a8, hn])); repeat' (first | ((first | refine zd ?_ | refine zh ?_ | refine dN (by decide +kernel) ?_ | (refine za ?_ ?_ <;> (intro hg; simp only [hg])) | fail) <;> simp [a3, a5, a6, a8, hn]) | refine zg ?_ | refine zc ?_ | (refine zs ?_; simp only [zt]; try simp) | ((first | refine zl (by simp) ?_ | refine zw (by simp) (by simp) (by simp (maxDischargeDepth := 30) [a3, a5, a6, a8, hn]) ?_ | fail); simp) | (refine zb (fun hc => ?_) (fun hc => ?_) <;> try simp at hc) | fail)
            exact hI1 0 _ _ (by omega) ⟨last, v, out, by simp [a3], by simp [a5], by simp [a6], hO, hE, Nat.le_refl _, .inr ⟨by simp, rfl, rfl⟩⟩
      · (try ((first | with_reducible refine zk ?_ | with_reducible refine zm ?_ | with_reducible refine zo ?_); simp [a3, a5, a6, a7])); repeat' (first | ((first | refine zd ?_ | refine zh ?_ | refine dN (by decide +kernel) ?_ | (refine za ?_ ?_ <;> (intro hg; simp only [hg])) | fail) <;> simp [a3, a5, a6, a7]) | refine zg ?_ | refine zc ?_ | (refine zs ?_; simp only [zt]; try simp) | ((first | refine zl (by simp) ?_ | refine zw (by simp) (by simp) (by simp (maxDischargeDepth := 30) [a3, a5, a6, a7]) ?_ | fail); simp) | (refine zb (fun hc => ?_) (fun hc => ?_) <;> try simp at hc) | fail)
        exact hR1 _ _ ⟨by simp [a5]; exact hO, hE⟩
    · rintro A τ ⟨hO, hE⟩
      generalize ha5 : A 5 = v at *
      (try ((first | with_reducible refine zk ?_ | with_reducible refine zm ?_ | with_reducible refine zo ?_); simp [ha5])); repeat' (first | ((first | refine zd ?_ | refine zh ?_ | refine dN (by decide +kernel) ?_ | (refine za ?_ ?_ <;> (intro hg; simp only [hg])) | fail) <;> simp [ha5]) | refine zg ?_ | refine zc ?_ | (refine zs ?_; simp only [zt]; try simp) | (refine zb (fun hc => ?_) (fun hc => ?_) <;> try simp at hc) | fail)
      exact zds (.inr rfl) (by simp) hO hE
end Go.Proofs.YtanimmdlgmkmkaaGreat.Av.Zn
namespace Go.Proofs.YtanimmdlgmkmkaaGreat.Av.Zn
open Go
set_option linter.unusedSimpArgs false
set_option linter.unusedVariables false
set_option maxRecDepth 100000
set_option maxHeartbeats 4000000
set_option pp.maxSteps 300
def zhA (C : List Int) (i : Nat) : Int := match C[i + 1]? with | some x => x - 1 | none => 4294967295
theorem end_calls (C : List Int) (f : Bool) (i : Nat) (hl : C.length < 2 ^ 60) (hi : i < 2 ^ 60) (hC : ∀ x ∈ C, 0 ≤ x ∧ x ≤ 4294967296) : PCalls Tryz.prog 114 [inAV C f, .raw (.int .i64 i)] (.raw (.int .i64 (zhA C i))) := by
  refine zK Tryz.func114 rfl (N := 16) rfl rfl (by simp) (by simp [noIds]) fun σ => ?_
  have w1 : IntKind.i64.wrap ((i : Int) + 1) = ((i + 1 : Nat) : Int) := by rw [zU (by omega) (by omega)]; omega
  obtain ⟨k, hk⟩ : ∃ k, i + 1 = k := ⟨_, rfl⟩
  rw [hk] at w1
  unfold zhA
  rw [hk]
  by_cases hlt : k < C.length
  · have hx : C[k]? = some C[k] := List.getElem?_eq_getElem hlt
    obtain ⟨x1, x2⟩ := hC C[k] (List.getElem_mem _)
    have w2 : IntKind.i64.wrap (C[k] - 1) = C[k] - 1 := zU (by omega) (by omega)
    (try ((first | with_reducible refine zk ?_ | with_reducible refine zm ?_ | with_reducible refine zo ?_); simp [inAV, iAV, w1, hlt, w2])); repeat' (first | ((first | refine zd ?_ | refine zh ?_ | refine dN (by decide +kernel) ?_ | (refine za ?_ ?_ <;> (intro hg; simp only [hg])) | fail) <;> simp [inAV, iAV, w1, hlt, w2]) | refine zg ?_ | refine zc ?_ | (refine zs ?_; simp only [zt]; try simp) | ((first | refine zl (by simp) ?_ | refine zw (by simp) (by simp) (by simp (maxDischargeDepth := 30) [inAV, iAV, w1, hlt, w2]) ?_ | fail); simp) | (refine zb (fun hc => ?_) (fun hc => ?_) <;> try simp at hc) | fail)
  · have hx : C[k]? = none := List.getElem?_eq_none (by omega)
    rw [hx]
    (try ((first | with_reducible refine zk ?_ | with_reducible refine zm ?_ | with_reducible refine zo ?_); simp [inAV, iAV, w1, hlt])); repeat' (first | ((first | refine zd ?_ | refine zh ?_ | refine dN (by decide +kernel) ?_ | (refine za ?_ ?_ <;> (intro hg; simp only [hg])) | fail) <;> simp [inAV, iAV, w1, hlt]) | refine zg ?_ | refine zc ?_ | (refine zs ?_; simp only [zt]; try simp) | ((first | refine zl (by simp) ?_ | refine zw (by simp) (by simp) (by simp (maxDischargeDepth := 30) [inAV, iAV, w1, hlt]) ?_ | fail); simp) | (refine zb (fun hc => ?_) (fun hc => ?_) <;> try simp at hc) | fail)
def zrP (z : List Rg) (f t : Int) : List Rg :=
  match z[z.length - 1]? with
  | some r => if r.hi + 1 = f then z.set (z.length - 1) ⟨r.lo, t⟩ else z ++ [⟨f, t⟩]
  | none => z ++ [⟨f, t⟩]
def zjf (p : Int → Bool) (C : List Int) : Nat → List Rg
  | 0 => []
  | i + 1 => match C[i]? with
    | some c => if p c then zrP (zjf p C i) c (zhA C i) else zjf p C i
    | none => zjf p C i
def ztm (how : Int) (p q : Bool) : Bool := (how == 1 && p && q) || (how == 2 && (p || q)) || (how == 3 && p && !q)
end Go.Proofs.YtanimmdlgmkmkaaGreat.Av.Zn
namespace Go.Proofs.YtanimmdlgmkmkaaGreat.Av
open Go
set_option linter.unusedSimpArgs false
set_option linter.unusedVariables false
set_option maxRecDepth 100000
set_option maxHeartbeats 4000000
set_option pp.maxSteps 600
theorem zks (x y : List Int) (fx fy : Bool) (hl : x.length < 2 ^ 60) (hl2 : y.length < 2 ^ 60) : PCalls Tryz.prog 121 [zq x fx, zq y fy] (.raw (.bool (decide (x = y)))) := by
  refine zK Tryz.func121 rfl (N := 26) rfl rfl (by simp) (by simp [noIds]) fun σ => ?_
  by_cases hlen : x.length = y.length
  · have hli : (x.length : Int) = (y.length : Int) := by omega
    (try ((first | with_reducible refine zk ?_ | with_reducible refine zm ?_ | with_reducible refine zo ?_); simp [zq, hlen, hli])); repeat' (first | ((first | refine zd ?_ | refine zh ?_ | refine dN (by decide +kernel) ?_ | (refine za ?_ ?_ <;> (intro hg; simp only [hg])) | fail) <;> simp [zq, hlen, hli]) | refine zg ?_ | refine zc ?_ | (refine zs ?_; simp only [zt]; try simp) | ((first | refine zl (by simp) ?_ | refine zw (by simp) (by simp) (by simp (maxDischargeDepth := 30) [zq, hlen, hli]) ?_ | fail); simp) | (refine zb (fun hc => ?_) (fun hc => ?_) <;> try simp at hc) | fail)
    refine zab (fun n A τ => τ = σ ∧ A 0 = zq x fx ∧ A 1 = zq y fy ∧ ∃ i : Nat, A 5 = .raw (.int .i64 i) ∧ i ≤ y.length ∧ n = y.length - i ∧ x.take i = y.take i) y.length ?_ ?_
    · exact ⟨rfl, by simp [zq], by simp [zq], 0, by simp, by omega, by omega, by simp⟩
    rintro n A τ ⟨rfl, a0, a1, i, a5, hi, rfl, htk⟩ I1 hI1
    by_cases hlt : i < y.length
    · have hlx : i < x.length := by omega
      have hx : x[i]? = some x[i] := List.getElem?_eq_getElem hlx
      have hy : y[i]? = some y[i] := List.getElem?_eq_getElem hlt
      have w1 : IntKind.i64.wrap ((i : Int) + 1) = ((i + 1 : Nat) : Int) := by rw [zU (by omega) (by omega)]; omega
      by_cases he : x[i] = y[i]
      · skip
        (try ((first | with_reducible refine zk ?_ | with_reducible refine zm ?_ | with_reducible refine zo ?_); simp [zq, iAV, a0, a1, a5, hlt, hlx, hlen, hx, hy, zay, he, w1])); repeat' (first | ((first | refine zd ?_ | refine zh ?_ | refine dN (by decide +kernel) ?_ | (refine za ?_ ?_ <;> (intro hg; simp only [hg])) | fail) <;> simp [zq, iAV, a0, a1, a5, hlt, hlx, hlen, hx, hy, zay, he, w1]) | refine zg ?_ | refine zc ?_ | (refine zs ?_; simp only [zt]; try simp) | ((first | refine zl (by simp) ?_ | refine zw (by simp) (by simp) (by simp (maxDischargeDepth := 30) [zq, iAV, a0, a1, a5, hlt, hlx, hlen, hx, hy, zay, he, w1]) ?_ | fail); simp) | (refine zb (fun hc => ?_) (fun hc => ?_) <;> try simp at hc) | fail)
        all_goals exact hI1 (y.length - (i + 1)) _ _ (by omega) ⟨rfl, by simp [a0, zq, iAV], by simp [a1, zq, iAV], i + 1, by simp [w1], by omega, rfl, zfN htk hx (by rw [hy, he])⟩
      · skip
        (try ((first | with_reducible refine zk ?_ | with_reducible refine zm ?_ | with_reducible refine zo ?_); simp [zq, iAV, a0, a1, a5, hlt, hlx, hlen, hx, hy, zay, he, w1])); repeat' (first | ((first | refine zd ?_ | refine zh ?_ | refine dN (by decide +kernel) ?_ | (refine za ?_ ?_ <;> (intro hg; simp only [hg])) | fail) <;> simp [zq, iAV, a0, a1, a5, hlt, hlx, hlen, hx, hy, zay, he, w1]) | refine zg ?_ | refine zc ?_ | (refine zs ?_; simp only [zt]; try simp) | ((first | refine zl (by simp) ?_ | refine zw (by simp) (by simp) (by simp (maxDischargeDepth := 30) [zq, iAV, a0, a1, a5, hlt, hlx, hlen, hx, hy, zay, he, w1]) ?_ | fail); simp) | (refine zb (fun hc => ?_) (fun hc => ?_) <;> try simp at hc) | fail)
        all_goals (rintro rfl; exact he rfl)
    · have : i = y.length := by omega
      subst this
      have hxy : x = y := by
        rw [List.take_length, ← hlen, List.take_length] at htk; exact htk
      (try ((first | with_reducible refine zk ?_ | with_reducible refine zm ?_ | with_reducible refine zo ?_); simp [zq, a0, a1, a5, hlen])); repeat' (first | ((first | refine zd ?_ | refine zh ?_ | refine dN (by decide +kernel) ?_ | (refine za ?_ ?_ <;> (intro hg; simp only [hg])) | fail) <;> simp [zq, a0, a1, a5, hlen]) | refine zg ?_ | refine zc ?_ | (refine zs ?_; simp only [zt]; try simp) | ((first | refine zl (by simp) ?_ | refine zw (by simp) (by simp) (by simp (maxDischargeDepth := 30) [zq, a0, a1, a5, hlen]) ?_ | fail); simp) | (refine zb (fun hc => ?_) (fun hc => ?_) <;> try simp at hc) | fail)
      all_goals first | exact hxy | simp [hxy]
  · have hli : ¬ ((x.length : Int) = (y.length : Int)) := by omega
    (try ((first | with_reducible refine zk ?_ | with_reducible refine zm ?_ | with_reducible refine zo ?_); simp [zq, hlen, hli])); repeat' (first | ((first | refine zd ?_ | refine zh ?_ | refine dN (by decide +kernel) ?_ | (refine za ?_ ?_ <;> (intro hg; simp only [hg])) | fail) <;> simp [zq, hlen, hli]) | refine zg ?_ | refine zc ?_ | (refine zs ?_; simp only [zt]; try simp) | ((first | refine zl (by simp) ?_ | refine zw (by simp) (by simp) (by simp (maxDischargeDepth := 30) [zq, hlen, hli]) ?_ | fail); simp) | (refine zb (fun hc => ?_) (fun hc => ?_) <;> try simp at hc) | fail)
    all_goals (rintro rfl; exact hlen rfl)
theorem zeC (l : List Int) (f : Bool) (x : Int) (hl : l.length < 2 ^ 60) : PCalls Tryz.prog 118 [zq l f, .raw (.int .i64 x)] (.raw (.bool (decide (x ∈ l)))) := by
  refine zK Tryz.func118 rfl (N := 18) rfl rfl (by simp) (by simp [noIds]) fun σ => ?_
  (try ((first | with_reducible refine zk ?_ | with_reducible refine zm ?_ | with_reducible refine zo ?_); simp [zq])); repeat' (first | ((first | refine zd ?_ | refine zh ?_ | refine dN (by decide +kernel) ?_ | (refine za ?_ ?_ <;> (intro hg; simp only [hg])) | fail) <;> simp [zq]) | refine zg ?_ | refine zc ?_ | (refine zs ?_; simp only [zt]; try simp) | ((first | refine zl (by simp) ?_ | refine zw (by simp) (by simp) (by simp (maxDischargeDepth := 30) [zq]) ?_ | fail); simp) | (refine zb (fun hc => ?_) (fun hc => ?_) <;> try simp at hc) | fail)
  refine zab (fun n A τ => τ = σ ∧ A 0 = zq l f ∧ A 1 = .raw (.int .i64 x) ∧ ∃ i : Nat, A 5 = .raw (.int .i64 i) ∧ i ≤ l.length ∧ n = l.length - i ∧ x ∉ l.take i) l.length ?_ ?_
  · exact ⟨rfl, by simp [zq], by simp, 0, by simp, by omega, by omega, by simp⟩
  rintro n A τ ⟨rfl, a0, a1, i, a5, hi, rfl, htk⟩ I1 hI1
  by_cases hlt : i < l.length
  · have hx : l[i]? = some l[i] := List.getElem?_eq_getElem hlt
    have w1 : IntKind.i64.wrap ((i : Int) + 1) = ((i + 1 : Nat) : Int) := by rw [zU (by omega) (by omega)]; omega
    by_cases he : l[i] = x
    · have hm : x ∈ l := he ▸ List.getElem_mem hlt
      (try ((first | with_reducible refine zk ?_ | with_reducible refine zm ?_ | with_reducible refine zo ?_); simp [zq, iAV, a0, a1, a5, hlt, hx, zay, he, w1, hm])); repeat' (first | ((first | refine zd ?_ | refine zh ?_ | refine dN (by decide +kernel) ?_ | (refine za ?_ ?_ <;> (intro hg; simp only [hg])) | fail) <;> simp [zq, iAV, a0, a1, a5, hlt, hx, zay, he, w1, hm]) | refine zg ?_ | refine zc ?_ | (refine zs ?_; simp only [zt]; try simp) | ((first | refine zl (by simp) ?_ | refine zw (by simp) (by simp) (by simp (maxDischargeDepth := 30) [zq, iAV, a0, a1, a5, hlt, hx, zay, he, w1, hm]) ?_ | fail); simp) | (refine zb (fun hc => ?_) (fun hc => ?_) <;> try simp at hc) | fail)
      all_goals exact hm
    · skip
      (try ((first | with_reducible refine zk ?_ | with_reducible refine zm ?_ | with_reducible refine zo ?_); simp [zq, iAV, a0, a1, a5, hlt, hx, zay, he, w1])); repeat' (first | ((first | refine zd ?_ | refine zh ?_ | refine dN (by decide +kernel) ?_ | (refine za ?_ ?_ <;> (intro hg; simp only [hg])) | fail) <;> simp [zq, iAV, a0, a1, a5, hlt, hx, zay, he, w1]) | refine zg ?_ | refine zc ?_ | (refine zs ?_; simp only [zt]; try simp) | ((first | refine zl (by simp) ?_ | refine zw (by simp) (by simp) (by simp (maxDischargeDepth := 30) [zq, iAV, a0, a1, a5, hlt, hx, zay, he, w1]) ?_ | fail); simp) | (refine zb (fun hc => ?_) (fun hc => ?_) <;> try simp at hc) | fail)
      all_goals refine hI1 (l.length - (i + 1)) _ _ (by omega) ⟨rfl, by simp [a0, zq, iAV], by simp [a1], i + 1, by simp [w1], by omega, rfl, ?_⟩
      rw [List.take_add_one, hx]
      intro hm
      rcases List.mem_append.1 hm with hm | hm
      · exact htk hm
      · simp at hm; exact he hm.symm
  · have : i = l.length := by omega
    subst this
    rw [List.take_length] at htk
    (try ((first | with_reducible refine zk ?_ | with_reducible refine zm ?_ | with_reducible refine zo ?_); simp [zq, a0, a1, a5, htk])); repeat' (first | ((first | refine zd ?_ | refine zh ?_ | refine dN (by decide +kernel) ?_ | (refine za ?_ ?_ <;> (intro hg; simp only [hg])) | fail) <;> simp [zq, a0, a1, a5, htk]) | refine zg ?_ | refine zc ?_ | (refine zs ?_; simp only [zt]; try simp) | ((first | refine zl (by simp) ?_ | refine zw (by simp) (by simp) (by simp (maxDischargeDepth := 30) [zq, a0, a1, a5, htk]) ?_ | fail); simp) | (refine zb (fun hc => ?_) (fun hc => ?_) <;> try simp at hc) | fail)
    all_goals exact htk
theorem zkt (x y : Tp) (fx fy : Fl) (h1 : x.ports.length < 2 ^ 60) (h2 : y.ports.length < 2 ^ 60) (h3 : x.links.length < 2 ^ 60) (h4 : y.links.length < 2 ^ 60) : PCalls Tryz.prog 68 [zaT x fx, zaT y fy] (.raw (.bool (decide (x = y)))) := by
  refine zK Tryz.func68 rfl (N := 59) rfl rfl (by simp) (by simp [noIds]) fun σ => ?_
  have f2 : σ.m ⟨2, σ.nx 2, 2⟩ = none := zf _ _ _
  have f3 : σ.m ⟨3, σ.nx 3, 2⟩ = none := zf _ _ _
  refine zg ?_
  refine zh ?_
  simp [zM]
  refine zY ⟨2, σ.nx 2, 2⟩ ?_
  refine zY ⟨3, σ.nx 3, 2⟩ ?_
  generalize hτ : St.del _ _ = τ
  generalize hA : (fun t => zD _ _ _) = A
  have a2 : A 2 = .pp (zaT x fx).cells 0 := by rw [← hA, ← hτ]; simp [zD, St.new, St.del, zM, ze]
  have a3 : A 3 = .pp (zaT y fy).cells 0 := by rw [← hA, ← hτ]; simp [zD, St.new, St.del, zM, ze]
  have hE : Ext σ τ := by
    rw [← hτ]
    refine ⟨fun i o h => ?_, fun s => ?_⟩
    · have q2 : i ≠ ⟨2, σ.nx 2, 2⟩ := fun e => by rw [e, f2] at h; cases h
      have q3 : i ≠ ⟨3, σ.nx 3, 2⟩ := fun e => by rw [e, f3] at h; cases h
      simp [St.del, St.new, q2, q3, h]
    · simp only [St.del, St.new]
      repeat' split
      all_goals omega
  clear hτ hA
  have no : (¬ x.ports.length = y.ports.length ∨ ¬ x.links.length = y.links.length) → ¬ x = y := fun h e => by subst e; simp at h
  by_cases hlen : x.ports.length = y.ports.length
  · have hli : (x.ports.length : Int) = (y.ports.length : Int) := by omega
    by_cases hlen2 : x.links.length = y.links.length
    · have hli2 : (x.links.length : Int) = (y.links.length : Int) := by omega
      clear no
      (try ((first | with_reducible refine zk ?_ | with_reducible refine zm ?_ | with_reducible refine zo ?_); simp [-cellOK, zq, zy, a2, a3, zM, hlen, hli, hlen2, hli2])); repeat' (first | ((first | refine zd ?_ | refine zh ?_ | refine dN (by decide +kernel) ?_ | refine dC (by decide +kernel) ?_ | (refine za ?_ ?_ <;> (intro hg; simp only [hg])) | fail) <;> simp [-cellOK, zq, zy, a2, a3, zM, hlen, hli, hlen2, hli2]) | refine zg ?_ | refine zc ?_ | (refine zs ?_; simp only [zt]; try simp) | (refine zl (by simp) ?_; simp) | (refine zx (by simp) (by simp [noIds]) (by repeat (first | assumption | exact Ext.refl _ | refine zu ?_ | refine Ext.setF ?_ (by first | assumption | (simp [ze, St.set, zf]; done) | exact zp (by assumption)))) ?_; simp [-cellOK, zq, zy, a2, a3, zM, hlen, hli, hlen2, hli2, zL]) | (refine zb (fun hc => ?_) (fun hc => ?_) <;> try simp at hc) | fail)
      refine zcD (fun B ρ => ρ = τ ∧ B 2 = .pp (zaT x fx).cells 0 ∧ B 3 = .pp (zaT y fy).cells 0 ∧ x.ports = y.ports) ?_ ?_
      · intro R1 hR1
        refine zab (fun n B ρ => ρ = τ ∧ B 2 = .pp (zaT x fx).cells 0 ∧ B 3 = .pp (zaT y fy).cells 0 ∧ ∃ i : Nat, B 5 = .raw (.int .i64 i) ∧ i ≤ y.ports.length ∧ n = y.ports.length - i ∧ x.ports.take i = y.ports.take i) y.ports.length ?_ ?_
        · exact ⟨rfl, by simp [a2], by simp [a3], 0, by simp, by omega, by omega, by simp⟩
        rintro n B ρ ⟨rfl, a2, a3, i, a5, hi, rfl, htk⟩ I1 hI1
        by_cases hlt : i < y.ports.length
        · have hlx : i < x.ports.length := by omega
          have hx : x.ports[i]? = some x.ports[i] := List.getElem?_eq_getElem hlx
          have hy : y.ports[i]? = some y.ports[i] := List.getElem?_eq_getElem hlt
          have w1 : IntKind.i64.wrap ((i : Int) + 1) = ((i + 1 : Nat) : Int) := by rw [zU (by omega) (by omega)]; omega
          by_cases he : x.ports[i] = y.ports[i]
          · skip
            (try ((first | with_reducible refine zk ?_ | with_reducible refine zm ?_ | with_reducible refine zo ?_); simp [-cellOK, zM, zq, iAV, a2, a3, a5, hlt, hlx, hlen, hx, hy, zay, he, w1])); repeat' (first | ((first | refine zd ?_ | refine zh ?_ | refine dN (by decide +kernel) ?_ | refine dC (by decide +kernel) ?_ | (refine za ?_ ?_ <;> (intro hg; simp only [hg])) | fail) <;> simp [-cellOK, zM, zq, iAV, a2, a3, a5, hlt, hlx, hlen, hx, hy, zay, he, w1]) | refine zg ?_ | refine zc ?_ | (refine zs ?_; simp only [zt]; try simp) | (refine zl (by simp) ?_; simp) | (refine zx (by simp) (by simp [noIds]) (by repeat (first | assumption | exact Ext.refl _ | refine zu ?_ | refine Ext.setF ?_ (by first | assumption | (simp [ze, St.set, zf]; done) | exact zp (by assumption)))) ?_; simp [-cellOK, zM, zq, iAV, a2, a3, a5, hlt, hlx, hlen, hx, hy, zay, he, w1, zL]) | (refine zb (fun hc => ?_) (fun hc => ?_) <;> try simp at hc) | fail)
            all_goals exact hI1 (y.ports.length - (i + 1)) _ _ (by omega) ⟨rfl, by simp [a2], by simp [a3], i + 1, by simp [w1], by omega, rfl, zfN htk hx (by rw [hy, he])⟩
          · have hne : ¬ x = y := fun e => he (by subst e; rfl)
            (try ((first | with_reducible refine zk ?_ | with_reducible refine zm ?_ | with_reducible refine zo ?_); simp [-cellOK, zM, zq, iAV, a2, a3, a5, hlt, hlx, hlen, hx, hy, zay, he, w1, hne])); repeat' (first | ((first | refine zd ?_ | refine zh ?_ | refine dN (by decide +kernel) ?_ | refine dC (by decide +kernel) ?_ | (refine za ?_ ?_ <;> (intro hg; simp only [hg])) | fail) <;> simp [-cellOK, zM, zq, iAV, a2, a3, a5, hlt, hlx, hlen, hx, hy, zay, he, w1, hne]) | refine zg ?_ | refine zc ?_ | (refine zs ?_; simp only [zt]; try simp) | (refine zl (by simp) ?_; simp) | (refine zx (by simp) (by simp [noIds]) (by repeat (first | assumption | exact Ext.refl _ | refine zu ?_ | refine Ext.setF ?_ (by first | assumption | (simp [ze, St.set, zf]; done) | exact zp (by assumption)))) ?_; simp [-cellOK, zM, zq, iAV, a2, a3, a5, hlt, hlx, hlen, hx, hy, zay, he, w1, hne, zL]) | (refine zb (fun hc => ?_) (fun hc => ?_) <;> try simp at hc) | fail)
        · have : i = y.ports.length := by omega
          subst this
          have hxy : x.ports = y.ports := by
            rw [List.take_length, ← hlen, List.take_length] at htk; exact htk
          (try ((first | with_reducible refine zk ?_ | with_reducible refine zm ?_ | with_reducible refine zo ?_); simp [-cellOK, zM, zq, a2, a3, a5, hlen])); repeat' (first | ((first | refine zd ?_ | refine zh ?_ | refine dN (by decide +kernel) ?_ | refine dC (by decide +kernel) ?_ | (refine za ?_ ?_ <;> (intro hg; simp only [hg])) | fail) <;> simp [-cellOK, zM, zq, a2, a3, a5, hlen]) | refine zg ?_ | refine zc ?_ | (refine zs ?_; simp only [zt]; try simp) | (refine zl (by simp) ?_; simp) | (refine zx (by simp) (by simp [noIds]) (by repeat (first | assumption | exact Ext.refl _ | refine zu ?_ | refine Ext.setF ?_ (by first | assumption | (simp [ze, St.set, zf]; done) | exact zp (by assumption)))) ?_; simp [-cellOK, zM, zq, a2, a3, a5, hlen, zL]) | (refine zb (fun hc => ?_) (fun hc => ?_) <;> try simp at hc) | fail)
          all_goals exact hR1 _ _ ⟨rfl, by simp [a2], by simp [a3], hxy⟩
      · rintro B ρ ⟨rfl, a2, a3, hp⟩
        (try ((first | with_reducible refine zk ?_ | with_reducible refine zm ?_ | with_reducible refine zo ?_); simp [-cellOK, zq, zy, a2, a3, zM])); repeat' (first | ((first | refine zd ?_ | refine zh ?_ | refine dN (by decide +kernel) ?_ | refine dC (by decide +kernel) ?_ | (refine za ?_ ?_ <;> (intro hg; simp only [hg])) | fail) <;> simp [-cellOK, zq, zy, a2, a3, zM]) | refine zg ?_ | refine zc ?_ | (refine zs ?_; simp only [zt]; try simp) | (refine zl (by simp) ?_; simp) | (refine zx (by simp) (by simp [noIds]) (by repeat (first | assumption | exact Ext.refl _ | refine zu ?_ | refine Ext.setF ?_ (by first | assumption | (simp [ze, St.set, zf]; done) | exact zp (by assumption)))) ?_; simp [-cellOK, zq, zy, a2, a3, zM, zL]) | (refine zb (fun hc => ?_) (fun hc => ?_) <;> try simp at hc) | fail)
        refine zab (fun n B π => π = ρ ∧ B 2 = .pp (zaT x fx).cells 0 ∧ B 3 = .pp (zaT y fy).cells 0 ∧ ∃ i : Nat, B 6 = .raw (.int .i64 i) ∧ i ≤ y.links.length ∧ n = y.links.length - i ∧ x.links.take i = y.links.take i) y.links.length ?_ ?_
        · exact ⟨rfl, by simp [a2], by simp [a3], 0, by simp, by omega, by omega, by simp⟩
        rintro n B π ⟨rfl, a2, a3, i, a6, hi, rfl, htk⟩ I1 hI1
        by_cases hlt : i < y.links.length
        · have hlx : i < x.links.length := by omega
          have hx : x.links[i]? = some x.links[i] := List.getElem?_eq_getElem hlx
          have hy : y.links[i]? = some y.links[i] := List.getElem?_eq_getElem hlt
          have w1 : IntKind.i64.wrap ((i : Int) + 1) = ((i + 1 : Nat) : Int) := by rw [zU (by omega) (by omega)]; omega
          have fx_ : AV.agg [.raw (.int .i64 x.links[i].a.dev), .raw (.int .i64 x.links[i].a.port), .raw (.int .i64 x.links[i].b.dev), .raw (.int .i64 x.links[i].b.port)] = zcw x.links[i] := rfl
          have fy_ : AV.agg [.raw (.int .i64 y.links[i].a.dev), .raw (.int .i64 y.links[i].a.port), .raw (.int .i64 y.links[i].b.dev), .raw (.int .i64 y.links[i].b.port)] = zcw y.links[i] := rfl
          by_cases he : x.links[i] = y.links[i]
          · skip
            (try ((first | with_reducible refine zk ?_ | with_reducible refine zm ?_ | with_reducible refine zo ?_); simp [-cellOK, zM, zy, a2, a3, a6, hlt, hlx, hlen2, hx, hy, zb3, fx_, fy_, zcL, zae, -zas, he, w1])); repeat' (first | ((first | refine zd ?_ | refine zh ?_ | refine dN (by decide +kernel) ?_ | refine dC (by decide +kernel) ?_ | (refine za ?_ ?_ <;> (intro hg; simp only [hg])) | fail) <;> simp [-cellOK, zM, zy, a2, a3, a6, hlt, hlx, hlen2, hx, hy, zb3, fx_, fy_, zcL, zae, -zas, he, w1]) | refine zg ?_ | refine zc ?_ | (refine zs ?_; simp only [zt]; try simp) | (refine zl (by simp) ?_; simp) | (refine zx (by simp) (by simp [noIds]) (by repeat (first | assumption | exact Ext.refl _ | refine zu ?_ | refine Ext.setF ?_ (by first | assumption | (simp [ze, St.set, zf]; done) | exact zp (by assumption)))) ?_; simp [-cellOK, zM, zy, a2, a3, a6, hlt, hlx, hlen2, hx, hy, zb3, fx_, fy_, zcL, zae, -zas, he, w1, zL]) | (refine zb (fun hc => ?_) (fun hc => ?_) <;> try simp at hc) | fail)
            all_goals exact hI1 (y.links.length - (i + 1)) _ _ (by omega) ⟨rfl, by simp [a2], by simp [a3], i + 1, by simp [w1], by omega, rfl, zfN htk hx (by rw [hy, he])⟩
          · have hne : ¬ x = y := fun e => he (by subst e; rfl)
            (try ((first | with_reducible refine zk ?_ | with_reducible refine zm ?_ | with_reducible refine zo ?_); simp [-cellOK, zM, zy, a2, a3, a6, hlt, hlx, hlen2, hx, hy, zb3, fx_, fy_, zcL, zae, -zas, he, w1, hne])); repeat' (first | ((first | refine zd ?_ | refine zh ?_ | refine dN (by decide +kernel) ?_ | refine dC (by decide +kernel) ?_ | (refine za ?_ ?_ <;> (intro hg; simp only [hg])) | fail) <;> simp [-cellOK, zM, zy, a2, a3, a6, hlt, hlx, hlen2, hx, hy, zb3, fx_, fy_, zcL, zae, -zas, he, w1, hne]) | refine zg ?_ | refine zc ?_ | (refine zs ?_; simp only [zt]; try simp) | (refine zl (by simp) ?_; simp) | (refine zx (by simp) (by simp [noIds]) (by repeat (first | assumption | exact Ext.refl _ | refine zu ?_ | refine Ext.setF ?_ (by first | assumption | (simp [ze, St.set, zf]; done) | exact zp (by assumption)))) ?_; simp [-cellOK, zM, zy, a2, a3, a6, hlt, hlx, hlen2, hx, hy, zb3, fx_, fy_, zcL, zae, -zas, he, w1, hne, zL]) | (refine zb (fun hc => ?_) (fun hc => ?_) <;> try simp at hc) | fail)
        · have : i = y.links.length := by omega
          subst this
          have hxy : x.links = y.links := by
            rw [List.take_length, ← hlen2, List.take_length] at htk; exact htk
          have hall : x = y := by cases x; cases y; simp only [Tp.mk.injEq]; exact ⟨hp, hxy⟩
          (try ((first | with_reducible refine zk ?_ | with_reducible refine zm ?_ | with_reducible refine zo ?_); simp [-cellOK, zM, zy, a2, a3, a6, hlen2, hall])); repeat' (first | ((first | refine zd ?_ | refine zh ?_ | refine dN (by decide +kernel) ?_ | refine dC (by decide +kernel) ?_ | (refine za ?_ ?_ <;> (intro hg; simp only [hg])) | fail) <;> simp [-cellOK, zM, zy, a2, a3, a6, hlen2, hall]) | refine zg ?_ | refine zc ?_ | (refine zs ?_; simp only [zt]; try simp) | (refine zl (by simp) ?_; simp) | (refine zx (by simp) (by simp [noIds]) (by repeat (first | assumption | exact Ext.refl _ | refine zu ?_ | refine Ext.setF ?_ (by first | assumption | (simp [ze, St.set, zf]; done) | exact zp (by assumption)))) ?_; simp [-cellOK, zM, zy, a2, a3, a6, hlen2, hall, zL]) | (refine zb (fun hc => ?_) (fun hc => ?_) <;> try simp at hc) | fail)
    · have hli2 : ¬ (x.links.length : Int) = (y.links.length : Int) := by omega
      have no := no (.inr hlen2)
      (try ((first | with_reducible refine zk ?_ | with_reducible refine zm ?_ | with_reducible refine zo ?_); simp [-cellOK, zq, zy, a2, a3, zM, hlen, hli, hlen2, hli2, no])); repeat' (first | ((first | refine zd ?_ | refine zh ?_ | refine dN (by decide +kernel) ?_ | refine dC (by decide +kernel) ?_ | (refine za ?_ ?_ <;> (intro hg; simp only [hg])) | fail) <;> simp [-cellOK, zq, zy, a2, a3, zM, hlen, hli, hlen2, hli2, no]) | refine zg ?_ | refine zc ?_ | (refine zs ?_; simp only [zt]; try simp) | (refine zl (by simp) ?_; simp) | (refine zx (by simp) (by simp [noIds]) (by repeat (first | assumption | exact Ext.refl _ | refine zu ?_ | refine Ext.setF ?_ (by first | assumption | (simp [ze, St.set, zf]; done) | exact zp (by assumption)))) ?_; simp [-cellOK, zq, zy, a2, a3, zM, hlen, hli, hlen2, hli2, no, zL]) | (refine zb (fun hc => ?_) (fun hc => ?_) <;> try simp at hc) | fail)
  · have hli : ¬ (x.ports.length : Int) = (y.ports.length : Int) := by omega
    have no := no (.inl hlen)
    (try ((first | with_reducible refine zk ?_ | with_reducible refine zm ?_ | with_reducible refine zo ?_); simp [-cellOK, zq, zy, a2, a3, zM, hlen, hli, no])); repeat' (first | ((first | refine zd ?_ | refine zh ?_ | refine dN (by decide +kernel) ?_ | refine dC (by decide +kernel) ?_ | (refine za ?_ ?_ <;> (intro hg; simp only [hg])) | fail) <;> simp [-cellOK, zq, zy, a2, a3, zM, hlen, hli, no]) | refine zg ?_ | refine zc ?_ | (refine zs ?_; simp only [zt]; try simp) | (refine zl (by simp) ?_; simp) | (refine zx (by simp) (by simp [noIds]) (by repeat (first | assumption | exact Ext.refl _ | refine zu ?_ | refine Ext.setF ?_ (by first | assumption | (simp [ze, St.set, zf]; done) | exact zp (by assumption)))) ?_; simp [-cellOK, zq, zy, a2, a3, zM, hlen, hli, no, zL]) | (refine zb (fun hc => ?_) (fun hc => ?_) <;> try simp at hc) | fail)
end Go.Proofs.YtanimmdlgmkmkaaGreat.Av
namespace Go.Proofs.YtanimmdlgmkmkaaGreat.Av
open Go
set_option linter.unusedSimpArgs false
set_option linter.unusedVariables false
set_option maxRecDepth 100000
set_option maxHeartbeats 4000000
set_option pp.maxSteps 600
@[simp] theorem zwn (ops : List Oper) (rcs : Oper → Bool) (o : Oper) : (zcB ops rcs o).o = o := rfl
theorem zdh (N : Nw) (f : Fl) (d a : Int) (hN : NwOK N) (hr : zar N = true) : PCalls Tryz.prog 69 [z7 N f, .raw (.int .i64 d), .raw (.int .u32 a)] (.tup [zbb (zaD N d a).1 false, .raw (.int .i64 (zaD N d a).2)]) := by
  have hstep := fun d' => zkn N f d' a (by have := hN.links; omega) hN.rules
  have hnext := fun p => zgC N.t f p (by have := hN.links; omega)
  have hnd : (zbd N.t.links).Nodup := by
    unfold zar at hr
    simp only [Bool.and_eq_true] at hr
    exact zhc hr.1
  simp only [zo8 hr] at hstep
  simp only [← zll N.t _ hnd] at hnext
  have hl := hN.links
  refine zK Tryz.func69 rfl (N := 64) rfl rfl (by simp) (by simp [noIds]) fun σ => ?_
  have f3 : σ.m ⟨3, σ.nx 3, 3⟩ = none := zf _ _ _
  have f6 : σ.m ⟨6, σ.nx 6, 4⟩ = none := zf _ _ _
  have f8 : σ.m ⟨8, σ.nx 8, 4⟩ = none := zf _ _ _
  by_cases q : d < 0 ∨ N.t.ports.length ≤ d
  · unfold zaD
    rw [if_pos q]
    have hw : Weaker (.tup [.agg [.sl 0 [] true, .raw (.int .i64 0), .raw (.int .i64 0), .raw (.int .i64 0)], .raw (.int .i64 91)]) (.tup [zbb ⟨[], 0, ⟨0, 0⟩⟩ false, .raw (.int .i64 91)]) := zdM (ziV zbD)
    have fin : ∀ {A : zQ} {τ : St}, Ext σ τ → zbj Tryz.prog τ.m A Tryz.f69.results = some (.tup [.agg [.sl 0 [] true, .raw (.int .i64 0), .raw (.int .i64 0), .raw (.int .i64 0)], .raw (.int .i64 91)]) → RetP Tryz.prog Tryz.f69 σ (.tup [zbb ⟨[], 0, ⟨0, 0⟩⟩ false, .raw (.int .i64 91)]) .ret A τ := fun hE h =>
      zcF (.inr rfl) hE h (by simpa [zak, zD] using hw)
    by_cases q1 : d < 0
    · (try ((first | with_reducible refine zk ?_ | with_reducible refine zm ?_ | with_reducible refine zo ?_); simp [-cellOK, zr, q1])); repeat' (first | ((first | refine zd ?_ | refine zh ?_ | refine dN (by decide +kernel) ?_ | refine dC (by decide +kernel) ?_ | (refine za ?_ ?_ <;> (intro hg; simp only [hg])) | fail) <;> simp [-cellOK, zr, q1]) | refine zg ?_ | refine zc ?_ | (refine zs ?_; simp only [zt]; try simp) | (refine zb (fun hc => ?_) (fun hc => ?_) <;> try simp at hc) | fail)
      exact fin (by repeat (first | assumption | exact Ext.refl _ | refine zu ?_ | refine Ext.setF ?_ (by first | assumption | (simp [ze, St.set, zf]; done) | exact zp (by assumption)))) (by simp [zz, zA, ze])
    · have q2 : (N.t.ports.length : Int) ≤ d := by omega
      (try ((first | with_reducible refine zk ?_ | with_reducible refine zm ?_ | with_reducible refine zo ?_); simp [-cellOK, zr, q1, q2, zq])); repeat' (first | ((first | refine zd ?_ | refine zh ?_ | refine dN (by decide +kernel) ?_ | refine dC (by decide +kernel) ?_ | (refine za ?_ ?_ <;> (intro hg; simp only [hg])) | fail) <;> simp [-cellOK, zr, q1, q2, zq]) | refine zg ?_ | refine zc ?_ | (refine zs ?_; simp only [zt]; try simp) | (refine zb (fun hc => ?_) (fun hc => ?_) <;> try simp at hc) | fail)
      exact fin (by repeat (first | assumption | exact Ext.refl _ | refine zu ?_ | refine Ext.setF ?_ (by first | assumption | (simp [ze, St.set, zf]; done) | exact zp (by assumption)))) (by simp [zz, zA, ze])
  have q1 : ¬ d < 0 := fun h => q (.inl h)
  have q2 : ¬ (N.t.ports.length : Int) ≤ d := fun h => q (.inr h)
  have hres : zaD N d a = (zaa N d a, 0) := by unfold zaD; rw [if_neg q]
  rw [hres]
  have hp : ∀ m, z9 Tryz.prog m 22 (zq N.t.ports f.p) = some (.raw (.int .i64 N.t.ports.length)) := fun m => by simp [zq]
  (try ((first | with_reducible refine zk ?_ | with_reducible refine zm ?_ | with_reducible refine zo ?_); simp [-cellOK, zr, zC, q1, q2, -z9, hp, zz, zA, ze])); repeat' (first | ((first | refine zd ?_ | refine zh ?_ | refine dN (by decide +kernel) ?_ | refine dC (by decide +kernel) ?_ | (refine za ?_ ?_ <;> (intro hg; simp only [hg])) | fail) <;> simp [-cellOK, zr, zC, q1, q2, -z9, hp, zz, zA, ze]) | refine zg ?_ | refine zc ?_ | (refine zs ?_; simp only [zt]; try simp) | (refine zl (by simp) ?_; simp) | (refine zx (by simp) (by simp [noIds]) (by repeat (first | assumption | exact Ext.refl _ | refine zu ?_ | refine Ext.setF ?_ (by first | assumption | (simp [ze, St.set, zf]; done) | exact zp (by assumption)))) ?_; simp [-cellOK, zr, zC, q1, q2, -z9, hp, zz, zA, ze, zL]) | (refine zb (fun hc => ?_) (fun hc => ?_) <;> try simp at hc) | fail)
  generalize hA0 : put 64 _ _ _ = A0
  have c2 : A0 2 = .raw (.int .u32 a) := by rw [← hA0]; simp
  have c3 : A0 3 = .rp ⟨3, σ.nx 3, 3⟩ 0 0 := by rw [← hA0]; simp
  have c6 : A0 6 = .rp ⟨6, σ.nx 6, 4⟩ 0 0 := by rw [← hA0]; simp
  have c8 : A0 8 = .rp ⟨8, σ.nx 8, 4⟩ 0 0 := by rw [← hA0]; simp
  have c9 : A0 9 = .raw (.int .i64 d) := by rw [← hA0]; simp
  clear hA0
  refine zY ⟨3, σ.nx 3, 3⟩ ?_
  generalize hAA : (fun t => zD _ _ _) = A
  have a2 : A 2 = .raw (.int .u32 a) := by rw [← hAA]; show zD _ _ (A0 2) = _; rw [c2]; rfl
  have a3 : A 3 = .pp (z7 N f).cells 0 := by
    rw [← hAA]
    show zD _ _ (A0 3) = _
    rw [c3, za3 (es := [z7 N f]) (e := z7 N f) (by simp [St.del]) (by simp [St.new, St.set]) rfl]
  have a6 : A 6 = .rp ⟨6, σ.nx 6, 4⟩ 0 0 := by rw [← hAA]; show zD _ _ (A0 6) = _; rw [c6]; exact zaL (by simp)
  have a8 : A 8 = .rp ⟨8, σ.nx 8, 4⟩ 0 0 := by rw [← hAA]; show zD _ _ (A0 8) = _; rw [c8]; exact zaL (by simp)
  have a9 : A 9 = .raw (.int .i64 d) := by rw [← hAA]; show zD _ _ (A0 9) = _; rw [c9]; rfl
  generalize hτ : St.del _ _ = τ
  have m6 : τ.m ⟨6, σ.nx 6, 4⟩ = some (.buf [.agg [.sl 0 [] true, .raw (.int .i64 0), .raw (.int .i64 0), .raw (.int .i64 0)]]) := by rw [← hτ]; simp [St.del, zz, zA, ze]
  have m8 : τ.m ⟨8, σ.nx 8, 4⟩ = some (.buf [.agg [.sl 0 [] true, .raw (.int .i64 0), .raw (.int .i64 0), .raw (.int .i64 0)]]) := by rw [← hτ]; simp [St.del, zz, zA, ze]
  have hE : Ext σ τ := by
    rw [← hτ]
    refine ⟨fun i o h => ?_, fun s => ?_⟩
    · have q3 : i ≠ ⟨3, σ.nx 3, 3⟩ := fun e => by rw [e, f3] at h; cases h
      have q6 : i ≠ ⟨6, σ.nx 6, 4⟩ := fun e => by rw [e, f6] at h; cases h
      have q8 : i ≠ ⟨8, σ.nx 8, 4⟩ := fun e => by rw [e, f8] at h; cases h
      simp [St.del, St.new, St.set, q3, q6, q8, h]
    · simp only [St.del, St.new, St.set]
      repeat' split
      all_goals omega
  clear hτ hAA c2 c3 c6 c8 c9
  obtain ⟨i6, hi6⟩ : ∃ i, (⟨6, σ.nx 6, 4⟩ : Id) = i := ⟨_, rfl⟩
  obtain ⟨i8, hi8⟩ : ∃ i, (⟨8, σ.nx 8, 4⟩ : Id) = i := ⟨_, rfl⟩
  have s6 : i6.sz = 4 := by rw [← hi6]
  have s8 : i8.sz = 4 := by rw [← hi8]
  have d68 : i6 ≠ i8 := by rw [← hi6, ← hi8]; simp
  rw [hi6] at m6 f6 a6
  rw [hi8] at m8 f8 a8
  clear hi6 hi8
  refine zab (fun n' B ρ => B 2 = .raw (.int .u32 a) ∧ B 3 = .pp (z7 N f).cells 0 ∧ B 6 = .rp i6 0 0 ∧ B 8 = .rp i8 0 0 ∧ ∃ (v : AV) (p : List Int) (d' : Int), B 9 = .raw (.int .i64 d') ∧ Way N a d d' p ∧ TrS σ ρ i6 i8 v p ∧ n' = 2 + 2 * N.t.links.length - p.length) (2 + 2 * N.t.links.length) ?_ ?_
  · exact ⟨a2, a3, a6, a8, .sl 0 [] true, [], d, a9, Way.start N a d, ⟨hE, m6, m8, .inl ⟨rfl, rfl⟩⟩, rfl⟩
  clear a2 a3 a6 a8 a9 m6 m8 hE
  rintro n' B ρ ⟨a2, a3, a6, a8, v, p, d', a9, hw, hS, rfl⟩ I1 hI1
  have hpl := hw.len
  have m8 := hS.m8
  have m6 := hS.m6
  have hO := hS.own
  have hE := hS.ext
  have hhas := zeC p false d' (by omega)
  (try ((first | with_reducible refine zk ?_ | with_reducible refine zm ?_ | with_reducible refine zo ?_); simp [-cellOK, a2, a3, a6, a8, a9, m8])); repeat' (first | ((first | refine zd ?_ | refine zh ?_ | refine dN (by decide +kernel) ?_ | refine dC (by decide +kernel) ?_ | (refine za ?_ ?_ <;> (intro hg; simp only [hg])) | fail) <;> simp [-cellOK, a2, a3, a6, a8, a9, m8]) | refine zg ?_ | refine zc ?_ | (refine zs ?_; simp only [zt]; try simp) | (refine zl (by simp) ?_; simp) | (refine zx (by simp) (by simp [noIds]) (by repeat (first | assumption | exact Ext.refl _ | refine zu ?_ | refine Ext.setF ?_ (by first | assumption | (simp [ze, St.set, zf]; done) | exact zp (by assumption)))) ?_; simp [-cellOK, a2, a3, a6, a8, a9, m8, zL]) | (refine zb (fun hc => ?_) (fun hc => ?_) <;> try simp at hc) | fail)
  refine PCalls.useP hhas rfl hO.toP ?_
  (try ((first | with_reducible refine zk ?_ | with_reducible refine zm ?_ | with_reducible refine zo ?_); simp [-cellOK, a2, a3, a6, a8, a9, m8, -zO])); repeat' (first | ((first | refine zd ?_ | refine zh ?_ | refine dN (by decide +kernel) ?_ | refine dC (by decide +kernel) ?_ | (refine za ?_ ?_ <;> (intro hg; simp only [hg])) | fail) <;> simp [-cellOK, a2, a3, a6, a8, a9, m8, -zO]) | refine zg ?_ | refine zc ?_ | (refine zs ?_; simp only [zt]; try simp) | (refine zl (by simp) ?_; simp) | (refine zx (by simp) (by simp [noIds]) (by repeat (first | assumption | exact Ext.refl _ | refine zu ?_ | refine Ext.setF ?_ (by first | assumption | (simp [ze, St.set, zf]; done) | exact zp (by assumption)))) ?_; simp [-cellOK, a2, a3, a6, a8, a9, m8, -zO, zL]) | (refine zb (fun hc => ?_) (fun hc => ?_) <;> try simp at hc) | fail)
  refine zaV zel (σ0 := σ) (hO.ext (by repeat (first | assumption | exact Ext.refl _ | refine zu ?_ | refine Ext.setF ?_ (by first | assumption | (simp [ze, St.set, zf]; done) | exact zp (by assumption))))) (by repeat (first | assumption | exact Ext.refl _ | refine zu ?_ | refine Ext.setF ?_ (by first | assumption | (simp [ze, St.set, zf]; done) | exact zp (by assumption)))) (ys := [iAV d']) (by simp [zz, ze, iAV]) (.inr rfl) (by simp [iAV]) (by simp; omega) ?_
  intro v' τ' hO' hE' hk hnx
  obtain ⟨k8, _⟩ := hk i8 _ (zaR _ _ m8) (hO.ne_sz (by rw [s8]; decide))
  obtain ⟨k6, _⟩ := hk i6 _ (zaR _ _ m6) (hO.ne_sz (by rw [s6]; decide))
  clear hk hS
  have hv1 := hO'.cells
  have hv2 := hO'.cellOK
  have hO' : OwnL σ τ' 1 v' ((p ++ [d']).map iAV) := by rw [List.map_append]; exact hO'
  have hcl : ∀ x y z : Int, AV.cells (.agg [v', .raw (.int .i64 x), .raw (.int .i64 y), .raw (.int .i64 z)]) = [v', .raw (.int .i64 x), .raw (.int .i64 y), .raw (.int .i64 z)] := fun _ _ _ => rfl
  have hn6 : ∀ k l, v' ≠ .rs i6 k l := hO'.ne_sz (by rw [s6]; decide)
  have hn8 : ∀ k l, v' ≠ .rs i8 k l := hO'.ne_sz (by rw [s8]; decide)
  have e8 : ∀ s x, (i8 = (⟨s, x, 2⟩ : Id)) = False := fun s x => eq_false fun h => by rw [h] at s8; cases s8
  have e6 : ∀ s x, (i6 = (⟨s, x, 2⟩ : Id)) = False := fun s x => eq_false fun h => by rw [h] at s6; cases s6
  have e8' : ∀ s x, ((⟨s, x, 2⟩ : Id) = i8) = False := fun s x => eq_false fun h => by rw [← h] at s8; cases s8
  have e6' : ∀ s x, ((⟨s, x, 2⟩ : Id) = i6) = False := fun s x => eq_false fun h => by rw [← h] at s6; cases s6
  have hw1 : ∀ z : List AV, v' ≠ .agg z := fun z e => by rw [e] at hv2; cases hv2
  by_cases hm : d' ∈ p
  · have hfin := hw.again hm
    rw [hfin]
    (try ((first | with_reducible refine zk ?_ | with_reducible refine zm ?_ | with_reducible refine zo ?_); simp [-cellOK, a2, a3, a6, a8, a9, k8, k6, hv1, hv2, hm, zz, zA, ze, d68, Ne.symm d68])); repeat' (first | ((first | refine zd ?_ | refine zh ?_ | refine dN (by decide +kernel) ?_ | refine dC (by decide +kernel) ?_ | (refine za ?_ ?_ <;> (intro hg; simp only [hg])) | fail) <;> simp [-cellOK, a2, a3, a6, a8, a9, k8, k6, hv1, hv2, hm, zz, zA, ze, d68, Ne.symm d68]) | refine zg ?_ | refine zc ?_ | (refine zs ?_; simp only [zt]; try simp) | (refine zb (fun hc => ?_) (fun hc => ?_) <;> try simp at hc) | fail)
    exact zi5 (b := .int .i64 4) (c := .int .i64 0) (d := .int .i64 0) (u := .int .i64 0) (.inr rfl) (by simp [a6, k6, k8, zA, d68, Ne.symm d68]) ((hO'.set hn8).set hn6) (Ext.setF (Ext.setF hE' f8) f6)
  · have hstep := hstep d'
    by_cases h4 : (zZ N d' a).1 = 4
    · have hon := hw.on hm h4
      have hnext := hnext (zZ N d' a).2
      have hnx1 : ((zb8 N.t (zZ N d' a).2).getD ⟨0, 0⟩).dev = zbt N (zZ N d' a).2 := rfl
      generalize zbt N (zZ N d' a).2 = nd at *
      generalize (zb8 N.t (zZ N d' a).2).getD ⟨0, 0⟩ = qp at *
      generalize (zb8 N.t (zZ N d' a).2).isSome = qb at *
      generalize (zZ N d' a).2 = pt at *
      rw [h4] at hstep
      (try ((first | with_reducible refine zk ?_ | with_reducible refine zm ?_ | with_reducible refine zo ?_); simp [-cellOK, a2, a3, a6, a8, a9, k8, k6, hv1, hv2, hm, zr, zC, ze9, zg7, zz, zA, ze, d68, Ne.symm d68, e8, e6, e8', e6'])); repeat' (first | ((first | refine zd ?_ | refine zh ?_ | refine dN (by decide +kernel) ?_ | refine dC (by decide +kernel) ?_ | refine uP (hstep) ?_ | refine .inl ⟨_, .inl (hstep), ?_⟩ | refine uP (hnext) ?_ | refine .inl ⟨_, .inl (hnext), ?_⟩ | (refine za ?_ ?_ <;> (intro hg; simp only [hg])) | fail) <;> simp [-cellOK, a2, a3, a6, a8, a9, k8, k6, hv1, hv2, hm, zr, zC, ze9, zg7, zz, zA, ze, d68, Ne.symm d68, e8, e6, e8', e6']) | refine zg ?_ | refine zc ?_ | (refine zs ?_; simp only [zt]; try simp) | (refine zl (by simp) ?_; simp) | (refine zx (by simp) (by simp [noIds]) (by repeat (first | assumption | exact Ext.refl _ | refine zu ?_ | refine Ext.setF ?_ (by first | assumption | (simp [ze, St.set, zf]; done) | exact zp (by assumption)))) ?_; simp [-cellOK, a2, a3, a6, a8, a9, k8, k6, hv1, hv2, hm, zr, zC, ze9, zg7, zz, zA, ze, d68, Ne.symm d68, e8, e6, e8', e6', zL]) | (refine zb (fun hc => ?_) (fun hc => ?_) <;> try simp at hc) | fail)
      refine hI1 (2 + 2 * N.t.links.length - (p ++ [d']).length) _ _ (by simp; omega) ⟨by simp [a2], by simp [a3], by simp [a6], by simp [a8], v', p ++ [d'], nd, by simp [hnx1], hon, ⟨?_, ?_, ?_, ?_⟩, rfl⟩
      · exact (by repeat (first | assumption | exact Ext.refl _ | refine zu ?_ | refine Ext.setF ?_ (by first | assumption | (simp [ze, St.set, zf, e8']; done) | exact zp (by assumption))))
      · simp [zz, zA, ze, e6, e8, k6, k8, d68]
      · simp [zz, zA, ze, e6, e8, k6, k8, d68]
      · exact (hO'.set hn8).ext (by repeat (first | assumption | exact Ext.refl _ | refine zu ?_ | refine Ext.setF ?_ (by first | assumption | (simp [ze, St.set, zf, e8']; done) | exact zp (by assumption))))
    · have hfin := hw.fin hm h4
      rw [hfin]
      generalize (zZ N d' a).2 = pt at *
      generalize (zZ N d' a).1 = sf at *
      (try ((first | with_reducible refine zk ?_ | with_reducible refine zm ?_ | with_reducible refine zo ?_); simp [-cellOK, a2, a3, a6, a8, a9, k8, k6, hv1, hv2, hm, h4, zr, zC, ze9, zg7, zz, zA, ze, d68, Ne.symm d68, e8, e6, e8', e6'])); repeat' (first | ((first | refine zd ?_ | refine zh ?_ | refine dN (by decide +kernel) ?_ | refine dC (by decide +kernel) ?_ | refine uP (hstep) ?_ | refine .inl ⟨_, .inl (hstep), ?_⟩ | (refine za ?_ ?_ <;> (intro hg; simp only [hg])) | fail) <;> simp [-cellOK, a2, a3, a6, a8, a9, k8, k6, hv1, hv2, hm, h4, zr, zC, ze9, zg7, zz, zA, ze, d68, Ne.symm d68, e8, e6, e8', e6']) | refine zg ?_ | refine zc ?_ | (refine zs ?_; simp only [zt]; try simp) | (refine zb (fun hc => ?_) (fun hc => ?_) <;> try simp at hc) | fail)
      exact zi5 (v := v') (b := .int .i64 sf) (c := .int .i64 pt.dev) (d := .int .i64 pt.port) (u := .int .i64 0) (.inr rfl) (by simp [a6, k6, k8, zz, zA, ze, e6, e8, e6', e8', d68, Ne.symm d68]) ((((hO'.set hn8).ext (by repeat (first | assumption | exact Ext.refl _ | refine zu ?_ | refine Ext.setF ?_ (by first | assumption | (simp [ze, St.set, zf, e8']; done) | exact zp (by assumption))))).set hn8).set hn6) (by repeat (first | assumption | exact Ext.refl _ | refine zu ?_ | refine Ext.setF ?_ (by first | assumption | (simp [ze, St.set, zf, e8']; done) | exact zp (by assumption))))
end Go.Proofs.YtanimmdlgmkmkaaGreat.Av
namespace Go.Proofs.YtanimmdlgmkmkaaGreat.Av
open Go
set_option linter.unusedSimpArgs false
set_option linter.unusedVariables false
set_option maxRecDepth 100000
set_option maxHeartbeats 4000000
set_option pp.maxSteps 600
theorem zfk (x y : Tk) (fx fy : Bool) (hx : x.path.length < 2 ^ 60) (hy : y.path.length < 2 ^ 60) : PCalls Tryz.prog 71 [zbb x fx, zbb y fy] (.raw (.bool (decide (x = y)))) := by
  have h := zks x.path y.path fx fy hx hy
  have hxy : decide (x = y) = (decide (x.path = y.path) && (decide (x.out = y.out) && (decide (x.last.dev = y.last.dev) && decide (x.last.port = y.last.port)))) := by
    rcases x with ⟨p, o, ⟨a, b⟩⟩; rcases y with ⟨p', o', ⟨a', b'⟩⟩
    rw [Bool.eq_iff_iff]; simp
  rw [hxy]
  generalize decide (x.path = y.path) = b at *
  refine zK Tryz.func71 rfl (N := 26) rfl rfl (by simp) (by simp [noIds]) fun σ => ?_
  have k1 : (x.out = y.out) = True ∨ (x.out = y.out) = False := by by_cases h : x.out = y.out <;> simp [h]
  have k2 : (x.last.dev = y.last.dev) = True ∨ (x.last.dev = y.last.dev) = False := by by_cases h : x.last.dev = y.last.dev <;> simp [h]
  have k3 : (x.last.port = y.last.port) = True ∨ (x.last.port = y.last.port) = False := by by_cases h : x.last.port = y.last.port <;> simp [h]
  cases b <;> rcases k1 with k1 | k1 <;> rcases k2 with k2 | k2 <;> rcases k3 with k3 | k3
  all_goals
    (try ((first | with_reducible refine zk ?_ | with_reducible refine zm ?_ | with_reducible refine zo ?_); simp [-cellOK, zG, k1, k2, k3, zz, zA, ze])); repeat' (first | ((first | refine zd ?_ | refine zh ?_ | refine dN (by decide +kernel) ?_ | refine dC (by decide +kernel) ?_ | refine uP (h) ?_ | refine .inl ⟨_, .inl (h), ?_⟩ | (refine za ?_ ?_ <;> (intro hg; simp only [hg])) | fail) <;> simp [-cellOK, zG, k1, k2, k3, zz, zA, ze]) | refine zg ?_ | refine zc ?_ | (refine zs ?_; simp only [zt]; try simp) | (refine zl (by simp) ?_; simp) | (refine zx (by simp) (by simp [noIds]) (by repeat (first | assumption | exact Ext.refl _ | refine zu ?_ | refine Ext.setF ?_ (by first | assumption | (simp [ze, St.set, zf]; done) | exact zp (by assumption)))) ?_; simp [-cellOK, zG, k1, k2, k3, zz, zA, ze, zL]) | (refine zb (fun hc => ?_) (fun hc => ?_) <;> try simp at hc) | fail)
theorem zjg (x y : Vd) (f g : Bool) (hx : x.tr.path.length < 2 ^ 60) (hy : y.tr.path.length < 2 ^ 60) : PCalls Tryz.prog 19 [zb9 x f, zb9 y g] (.raw (.bool (decide (x = y)))) := by
  have h := zfk x.tr y.tr f g hx hy
  have hxy : decide (x = y) = (decide (x.tr = y.tr) && ((x.holds == y.holds) && (decide (x.src = y.src) && decide (x.addr = y.addr)))) := by
    rcases x with ⟨p, o, a, b⟩; rcases y with ⟨p', o', a', b'⟩
    rw [Bool.eq_iff_iff]; simp; constructor
    · rintro ⟨h1, h2, h3, h4⟩; exact ⟨h4, h1, h2, h3⟩
    · rintro ⟨h4, h1, h2, h3⟩; exact ⟨h1, h2, h3, h4⟩
  rw [hxy]
  have htk : ∀ t b, AV.agg [zq t.path b, .raw (.int .i64 t.out), .raw (.int .i64 t.last.dev), .raw (.int .i64 t.last.port)] = zbb t b := fun _ _ => rfl
  generalize decide (x.tr = y.tr) = b at *
  refine zK Tryz.func19 rfl (N := 33) rfl rfl (by simp) (by simp [noIds]) fun σ => ?_
  obtain ⟨b1, hb1⟩ : ∃ b, (x.holds == y.holds) = b := ⟨_, rfl⟩
  have k2 : (x.src = y.src) = True ∨ (x.src = y.src) = False := by by_cases h : x.src = y.src <;> simp [h]
  have k3 : (x.addr = y.addr) = True ∨ (x.addr = y.addr) = False := by by_cases h : x.addr = y.addr <;> simp [h]
  rw [hb1]
  cases b <;> cases b1 <;> rcases k2 with k2 | k2 <;> rcases k3 with k3 | k3
  all_goals
    (try ((first | with_reducible refine zk ?_ | with_reducible refine zm ?_ | with_reducible refine zo ?_); simp [-cellOK, zau, htk, hb1, k2, k3, zz, zA, ze])); repeat' (first | ((first | refine zd ?_ | refine zh ?_ | refine dN (by decide +kernel) ?_ | refine dC (by decide +kernel) ?_ | refine uP (h) ?_ | refine .inl ⟨_, .inl (h), ?_⟩ | (refine za ?_ ?_ <;> (intro hg; simp only [hg])) | fail) <;> simp [-cellOK, zau, htk, hb1, k2, k3, zz, zA, ze]) | refine zg ?_ | refine zc ?_ | (refine zs ?_; simp only [zt]; try simp) | (refine zl (by simp) ?_; simp) | (refine zx (by simp) (by simp [noIds]) (by repeat (first | assumption | exact Ext.refl _ | refine zu ?_ | refine Ext.setF ?_ (by first | assumption | (simp [ze, St.set, zf]; done) | exact zp (by assumption)))) ?_; simp [-cellOK, zau, htk, hb1, k2, k3, zz, zA, ze, zL]) | (refine zb (fun hc => ?_) (fun hc => ?_) <;> try simp at hc) | fail)
end Go.Proofs.YtanimmdlgmkmkaaGreat.Av
namespace Go.Proofs.YtanimmdlgmkmkaaGreat.Av
open Go
set_option linter.unusedSimpArgs false
set_option linter.unusedVariables false
set_option maxRecDepth 100000
set_option maxHeartbeats 4000000
set_option pp.maxSteps 600
theorem zhj (q : Qy) : PCalls Tryz.prog 62 [zaH q] (.raw (.bool (zcE q))) := by
  refine zK Tryz.func62 rfl (N := 16) rfl rfl (by simp) (by simp [noIds]) fun σ => ?_
  unfold zcE
  by_cases h0 : q.kind = 0
  · (try ((first | with_reducible refine zk ?_ | with_reducible refine zm ?_ | with_reducible refine zo ?_); simp [-cellOK, zv, h0])); repeat' (first | ((first | refine zd ?_ | refine zh ?_ | refine dN (by decide +kernel) ?_ | refine dC (by decide +kernel) ?_ | (refine za ?_ ?_ <;> (intro hg; simp only [hg])) | fail) <;> simp [-cellOK, zv, h0]) | refine zg ?_ | refine zc ?_ | (refine zs ?_; simp only [zt]; try simp) | (refine zl (by simp) ?_; simp) | (refine zx (by simp) (by simp [noIds]) (by repeat (first | assumption | exact Ext.refl _ | refine zu ?_ | refine Ext.setF ?_ (by first | assumption | (simp [ze, St.set, zf]; done) | exact zp (by assumption)))) ?_; simp [-cellOK, zv, h0, zL]) | (refine zb (fun hc => ?_) (fun hc => ?_) <;> try simp at hc) | fail)
  · by_cases h3 : q.kind = 3
    · (try ((first | with_reducible refine zk ?_ | with_reducible refine zm ?_ | with_reducible refine zo ?_); simp [-cellOK, zv, h0, h3])); repeat' (first | ((first | refine zd ?_ | refine zh ?_ | refine dN (by decide +kernel) ?_ | refine dC (by decide +kernel) ?_ | (refine za ?_ ?_ <;> (intro hg; simp only [hg])) | fail) <;> simp [-cellOK, zv, h0, h3]) | refine zg ?_ | refine zc ?_ | (refine zs ?_; simp only [zt]; try simp) | (refine zl (by simp) ?_; simp) | (refine zx (by simp) (by simp [noIds]) (by repeat (first | assumption | exact Ext.refl _ | refine zu ?_ | refine Ext.setF ?_ (by first | assumption | (simp [ze, St.set, zf]; done) | exact zp (by assumption)))) ?_; simp [-cellOK, zv, h0, h3, zL]) | (refine zb (fun hc => ?_) (fun hc => ?_) <;> try simp at hc) | fail)
    · by_cases h4 : q.kind = 4
      · (try ((first | with_reducible refine zk ?_ | with_reducible refine zm ?_ | with_reducible refine zo ?_); simp [-cellOK, zv, h0, h3, h4])); repeat' (first | ((first | refine zd ?_ | refine zh ?_ | refine dN (by decide +kernel) ?_ | refine dC (by decide +kernel) ?_ | (refine za ?_ ?_ <;> (intro hg; simp only [hg])) | fail) <;> simp [-cellOK, zv, h0, h3, h4]) | refine zg ?_ | refine zc ?_ | (refine zs ?_; simp only [zt]; try simp) | (refine zl (by simp) ?_; simp) | (refine zx (by simp) (by simp [noIds]) (by repeat (first | assumption | exact Ext.refl _ | refine zu ?_ | refine Ext.setF ?_ (by first | assumption | (simp [ze, St.set, zf]; done) | exact zp (by assumption)))) ?_; simp [-cellOK, zv, h0, h3, h4, zL]) | (refine zb (fun hc => ?_) (fun hc => ?_) <;> try simp at hc) | fail)
      · (try ((first | with_reducible refine zk ?_ | with_reducible refine zm ?_ | with_reducible refine zo ?_); simp [-cellOK, zv, h0, h3, h4])); repeat' (first | ((first | refine zd ?_ | refine zh ?_ | refine dN (by decide +kernel) ?_ | refine dC (by decide +kernel) ?_ | (refine za ?_ ?_ <;> (intro hg; simp only [hg])) | fail) <;> simp [-cellOK, zv, h0, h3, h4]) | refine zg ?_ | refine zc ?_ | (refine zs ?_; simp only [zt]; try simp) | (refine zl (by simp) ?_; simp) | (refine zx (by simp) (by simp [noIds]) (by repeat (first | assumption | exact Ext.refl _ | refine zu ?_ | refine Ext.setF ?_ (by first | assumption | (simp [ze, St.set, zf]; done) | exact zp (by assumption)))) ?_; simp [-cellOK, zv, h0, h3, h4, zL]) | (refine zb (fun hc => ?_) (fun hc => ?_) <;> try simp at hc) | fail)
theorem zdw (n : Nw) (f : Fl) (q : Qy) (hl : n.t.ports.length < 2 ^ 44) : PCalls Tryz.prog 22 [z7 n f, zaH q] (zq (zX n q) false) := by
  have hs := zhj q
  unfold zX
  generalize zcE q = sb at hs ⊢
  refine zK Tryz.func22 rfl (N := 27) rfl rfl (by simp) (by simp [noIds]) fun σ => ?_
  have hp : ∀ m, z9 Tryz.prog m 22 (zq n.t.ports f.p) = some (.raw (.int .i64 n.t.ports.length)) := fun m => by simp [zq]
  cases sb with
  | true =>
    (try ((first | with_reducible refine zk ?_ | with_reducible refine zm ?_ | with_reducible refine zo ?_); simp [-cellOK, zr, zv, zB, zz, ze])); repeat' (first | ((first | refine zd ?_ | refine zh ?_ | refine dN (by decide +kernel) ?_ | refine dC (by decide +kernel) ?_ | refine uP (hs) ?_ | refine .inl ⟨_, .inl (hs), ?_⟩ | (refine za ?_ ?_ <;> (intro hg; simp only [hg])) | fail) <;> simp [-cellOK, zr, zv, zB, zz, ze]) | refine zg ?_ | refine zc ?_ | (refine zs ?_; simp only [zt]; try simp) | (refine zb (fun hc => ?_) (fun hc => ?_) <;> try simp at hc) | fail)
    refine zbk (x := .rs ⟨13, σ.nx 13, 1⟩ 0 1) (.inr rfl) (by repeat (first | assumption | exact Ext.refl _ | refine zu ?_ | refine Ext.setF ?_ (by first | assumption | (simp [ze, St.set, zf]; done) | exact zp (by assumption)))) ?_ ?_
    · simp [ze]
    · simp [zak, zD, zf, zz, ze, zq, iAV]
  | false =>
    (try ((first | with_reducible refine zk ?_ | with_reducible refine zm ?_ | with_reducible refine zo ?_); simp [-cellOK, zr, zv, zB, zz, ze, -z9, hp])); repeat' (first | ((first | refine zd ?_ | refine zh ?_ | refine dN (by decide +kernel) ?_ | refine dC (by decide +kernel) ?_ | refine uP (hs) ?_ | refine .inl ⟨_, .inl (hs), ?_⟩ | (refine za ?_ ?_ <;> (intro hg; simp only [hg])) | fail) <;> simp [-cellOK, zr, zv, zB, zz, ze, -z9, hp]) | refine zg ?_ | refine zc ?_ | (refine zs ?_; simp only [zt]; try simp) | (refine zl (by simp) ?_; simp) | (refine zx (by simp) (by simp [noIds]) (by repeat (first | assumption | exact Ext.refl _ | refine zu ?_ | refine Ext.setF ?_ (by first | assumption | (simp [ze, St.set, zf]; done) | exact zp (by assumption)))) ?_; simp [-cellOK, zr, zv, zB, zz, ze, -z9, hp, zL]) | (refine zb (fun hc => ?_) (fun hc => ?_) <;> try simp at hc) | fail)
    refine zab (fun n' B ρ => Ext σ ρ ∧ B 2 = .rp ⟨2, σ.nx 2, 3⟩ 0 0 ∧ ρ.m ⟨2, σ.nx 2, 3⟩ = some (.buf [z7 n f]) ∧ ∃ (i : Nat) (v : AV), B 7 = .raw (.int .i64 i) ∧ i ≤ n.t.ports.length ∧ n' = n.t.ports.length - i ∧ B 6 = v ∧ OwnL σ ρ 1 v (((List.range i).map fun i : Nat => (i : Int)).map iAV)) n.t.ports.length ?_ ?_
    · exact ⟨(by repeat (first | assumption | exact Ext.refl _ | refine zu ?_ | refine Ext.setF ?_ (by first | assumption | (simp [ze, St.set, zf]; done) | exact zp (by assumption)))), by simp, by simp [zz, ze], 0, .sl 0 [] true, by simp, by omega, by omega, by simp, .inl ⟨by simp, rfl⟩⟩
    rintro n' B ρ ⟨hE, a2, m2, i, v, a7, hi, rfl, a6, hO⟩ I1 hI1
    by_cases hlt : i < n.t.ports.length
    · have w1 : IntKind.i64.wrap ((i : Int) + 1) = ((i + 1 : Nat) : Int) := by rw [zU (by omega) (by omega)]; omega
      (try ((first | with_reducible refine zk ?_ | with_reducible refine zm ?_ | with_reducible refine zo ?_); simp [-cellOK, a2, m2, a6, a7, hlt, w1, zr, -z9, hp, -zO])); repeat' (first | ((first | refine zd ?_ | refine zh ?_ | refine dN (by decide +kernel) ?_ | refine dC (by decide +kernel) ?_ | (refine za ?_ ?_ <;> (intro hg; simp only [hg])) | fail) <;> simp [-cellOK, a2, m2, a6, a7, hlt, w1, zr, -z9, hp, -zO]) | refine zg ?_ | refine zc ?_ | (refine zs ?_; simp only [zt]; try simp) | (refine zl (by simp) ?_; simp) | (refine zx (by simp) (by simp [noIds]) (by repeat (first | assumption | exact Ext.refl _ | refine zu ?_ | refine Ext.setF ?_ (by first | assumption | (simp [ze, St.set, zf]; done) | exact zp (by assumption)))) ?_; simp [-cellOK, a2, m2, a6, a7, hlt, w1, zr, -z9, hp, -zO, zL]) | (refine zb (fun hc => ?_) (fun hc => ?_) <;> try simp at hc) | fail)
      refine zaV zel (σ0 := σ) (hO.ext (by repeat (first | assumption | exact Ext.refl _ | refine zu ?_ | refine Ext.setF ?_ (by first | assumption | (simp [ze, St.set, zf]; done) | exact zp (by assumption))))) (by repeat (first | assumption | exact Ext.refl _ | refine zu ?_ | refine Ext.setF ?_ (by first | assumption | (simp [ze, St.set, zf]; done) | exact zp (by assumption)))) (ys := [iAV i]) (by simp [zz, ze, iAV]) (.inr rfl) (by simp [iAV]) (by simp; omega) ?_
      intro v' τ' hO' hE' hk _
      obtain ⟨k2, _⟩ := hk ⟨2, σ.nx 2, 3⟩ _ (zaR _ _ m2) (hO.ne_sz (by simp))
      (try ((first | with_reducible refine zk ?_ | with_reducible refine zm ?_ | with_reducible refine zo ?_); simp [-cellOK, a2, a6, a7, w1])); repeat' (first | ((first | refine zd ?_ | refine zh ?_ | refine dN (by decide +kernel) ?_ | refine dC (by decide +kernel) ?_ | (refine za ?_ ?_ <;> (intro hg; simp only [hg])) | fail) <;> simp [-cellOK, a2, a6, a7, w1]) | refine zg ?_ | refine zc ?_ | (refine zs ?_; simp only [zt]; try simp) | (refine zl (by simp) ?_; simp) | (refine zx (by simp) (by simp [noIds]) (by repeat (first | assumption | exact Ext.refl _ | refine zu ?_ | refine Ext.setF ?_ (by first | assumption | (simp [ze, St.set, zf]; done) | exact zp (by assumption)))) ?_; simp [-cellOK, a2, a6, a7, w1, zL]) | (refine zb (fun hc => ?_) (fun hc => ?_) <;> try simp at hc) | fail)
      refine hI1 (n.t.ports.length - (i + 1)) _ _ (by omega) ⟨hE', by simp [a2], k2, i + 1, v', by simp, by omega, rfl, by simp, ?_⟩
      rw [List.range_succ, List.map_append, List.map_append]
      exact hO'
    · have : i = n.t.ports.length := by omega
      subst this
      (try ((first | with_reducible refine zk ?_ | with_reducible refine zm ?_ | with_reducible refine zo ?_); simp [-cellOK, a2, m2, a6, a7, zr, -z9, hp])); repeat' (first | ((first | refine zd ?_ | refine zh ?_ | refine dN (by decide +kernel) ?_ | refine dC (by decide +kernel) ?_ | (refine za ?_ ?_ <;> (intro hg; simp only [hg])) | fail) <;> simp [-cellOK, a2, m2, a6, a7, zr, -z9, hp]) | refine zg ?_ | refine zc ?_ | (refine zs ?_; simp only [zt]; try simp) | (refine zb (fun hc => ?_) (fun hc => ?_) <;> try simp at hc) | fail)
      exact zds (v := v) (.inr rfl) (by simp) hO hE
theorem zm9 (t : Tk) (d : Int) : zdo t d = decide (d ∈ t.path) := by
  unfold zdo
  rw [Bool.eq_iff_iff, List.any_eq_true, decide_eq_true_eq]
  constructor
  · rintro ⟨x, h1, h2⟩
    simp only [decide_eq_true_eq] at h2
    exact h2 ▸ h1
  · intro h; exact ⟨d, h, by simp⟩
theorem zcV (q : Qy) (t u : Tk) (ft fu : Bool) (hq : 0 ≤ q.kind ∧ q.kind ≤ 5) (ht : t.path.length < 2 ^ 60) (hu : u.path.length < 2 ^ 60) :
    PCalls Tryz.prog 70 [zaH q, zbb t ft, zbb u fu] (.raw (.bool (zaz q t u))) := by
  have h1 := zeC t.path ft q.b ht
  have h2 := zeC t.path ft q.w ht
  have h3 := zfk t u ft fu ht hu
  rw [← zm9] at h1 h2
  refine zK Tryz.func70 rfl (N := 68) rfl rfl (by simp) (by simp [noIds]) fun σ => ?_
  unfold zaz zdE
  have k1 : (t.out = 3) = True ∨ (t.out = 3) = False := by by_cases h : t.out = 3 <;> simp [h]
  have k2 : (t.last.dev = q.b) = True ∨ (t.last.dev = q.b) = False := by by_cases h : t.last.dev = q.b <;> simp [h]
  generalize zdo t q.b = cb at *
  generalize zdo t q.w = cw at *
  generalize decide (t = u) = eq at *
  by_cases q0 : q.kind = 0
  · rw [if_pos q0]
    rcases k1 with k1 | k1 <;> rcases k2 with k2 | k2
    all_goals
      (try ((first | with_reducible refine zk ?_ | with_reducible refine zm ?_ | with_reducible refine zo ?_); simp [-cellOK, zv, zB, zG, zR, q0, k1, k2, zz, zA, ze])); repeat' (first | ((first | refine zd ?_ | refine zh ?_ | refine dN (by decide +kernel) ?_ | refine dC (by decide +kernel) ?_ | (refine za ?_ ?_ <;> (intro hg; simp only [hg])) | fail) <;> simp [-cellOK, zv, zB, zG, zR, q0, k1, k2, zz, zA, ze]) | refine zg ?_ | refine zc ?_ | (refine zs ?_; simp only [zt]; try simp) | (refine zl (by simp) ?_; simp) | (refine zx (by simp) (by simp [noIds]) (by repeat (first | assumption | exact Ext.refl _ | refine zu ?_ | refine Ext.setF ?_ (by first | assumption | (simp [ze, St.set, zf]; done) | exact zp (by assumption)))) ?_; simp [-cellOK, zv, zB, zG, zR, q0, k1, k2, zz, zA, ze, zL]) | (refine zb (fun hc => ?_) (fun hc => ?_) <;> try simp at hc) | fail)
  rw [if_neg q0]
  by_cases q1 : q.kind = 1
  · rw [if_pos q1]
    (try ((first | with_reducible refine zk ?_ | with_reducible refine zm ?_ | with_reducible refine zo ?_); simp [-cellOK, zv, zB, zG, zR, q0, q1, zz, zA, ze])); repeat' (first | ((first | refine zd ?_ | refine zh ?_ | refine dN (by decide +kernel) ?_ | refine dC (by decide +kernel) ?_ | (refine za ?_ ?_ <;> (intro hg; simp only [hg])) | fail) <;> simp [-cellOK, zv, zB, zG, zR, q0, q1, zz, zA, ze]) | refine zg ?_ | refine zc ?_ | (refine zs ?_; simp only [zt]; try simp) | (refine zl (by simp) ?_; simp) | (refine zx (by simp) (by simp [noIds]) (by repeat (first | assumption | exact Ext.refl _ | refine zu ?_ | refine Ext.setF ?_ (by first | assumption | (simp [ze, St.set, zf]; done) | exact zp (by assumption)))) ?_; simp [-cellOK, zv, zB, zG, zR, q0, q1, zz, zA, ze, zL]) | (refine zb (fun hc => ?_) (fun hc => ?_) <;> try simp at hc) | fail)
  rw [if_neg q1]
  by_cases q2 : q.kind = 2
  · rw [if_pos q2]
    (try ((first | with_reducible refine zk ?_ | with_reducible refine zm ?_ | with_reducible refine zo ?_); simp [-cellOK, zv, zB, zG, zR, q0, q1, q2, zz, zA, ze])); repeat' (first | ((first | refine zd ?_ | refine zh ?_ | refine dN (by decide +kernel) ?_ | refine dC (by decide +kernel) ?_ | (refine za ?_ ?_ <;> (intro hg; simp only [hg])) | fail) <;> simp [-cellOK, zv, zB, zG, zR, q0, q1, q2, zz, zA, ze]) | refine zg ?_ | refine zc ?_ | (refine zs ?_; simp only [zt]; try simp) | (refine zl (by simp) ?_; simp) | (refine zx (by simp) (by simp [noIds]) (by repeat (first | assumption | exact Ext.refl _ | refine zu ?_ | refine Ext.setF ?_ (by first | assumption | (simp [ze, St.set, zf]; done) | exact zp (by assumption)))) ?_; simp [-cellOK, zv, zB, zG, zR, q0, q1, q2, zz, zA, ze, zL]) | (refine zb (fun hc => ?_) (fun hc => ?_) <;> try simp at hc) | fail)
  rw [if_neg q2]
  by_cases q3 : q.kind = 3
  · rw [if_pos q3]
    (try ((first | with_reducible refine zk ?_ | with_reducible refine zm ?_ | with_reducible refine zo ?_); simp [-cellOK, zv, zB, zG, zR, q0, q1, q2, q3, zz, zA, ze])); repeat' (first | ((first | refine zd ?_ | refine zh ?_ | refine dN (by decide +kernel) ?_ | refine dC (by decide +kernel) ?_ | refine uP (h1) ?_ | refine .inl ⟨_, .inl (h1), ?_⟩ | (refine za ?_ ?_ <;> (intro hg; simp only [hg])) | fail) <;> simp [-cellOK, zv, zB, zG, zR, q0, q1, q2, q3, zz, zA, ze]) | refine zg ?_ | refine zc ?_ | (refine zs ?_; simp only [zt]; try simp) | (refine zl (by simp) ?_; simp) | (refine zx (by simp) (by simp [noIds]) (by repeat (first | assumption | exact Ext.refl _ | refine zu ?_ | refine Ext.setF ?_ (by first | assumption | (simp [ze, St.set, zf]; done) | exact zp (by assumption)))) ?_; simp [-cellOK, zv, zB, zG, zR, q0, q1, q2, q3, zz, zA, ze, zL]) | (refine zb (fun hc => ?_) (fun hc => ?_) <;> try simp at hc) | fail)
  rw [if_neg q3]
  by_cases q4 : q.kind = 4
  · rw [if_pos q4]
    cases cw <;> rcases k1 with k1 | k1 <;> rcases k2 with k2 | k2
    all_goals
      (try ((first | with_reducible refine zk ?_ | with_reducible refine zm ?_ | with_reducible refine zo ?_); simp [-cellOK, zv, zB, zG, zR, q0, q1, q2, q3, q4, k1, k2, zz, zA, ze])); repeat' (first | ((first | refine zd ?_ | refine zh ?_ | refine dN (by decide +kernel) ?_ | refine dC (by decide +kernel) ?_ | refine uP (h2) ?_ | refine .inl ⟨_, .inl (h2), ?_⟩ | (refine za ?_ ?_ <;> (intro hg; simp only [hg])) | fail) <;> simp [-cellOK, zv, zB, zG, zR, q0, q1, q2, q3, q4, k1, k2, zz, zA, ze]) | refine zg ?_ | refine zc ?_ | (refine zs ?_; simp only [zt]; try simp) | (refine zl (by simp) ?_; simp) | (refine zx (by simp) (by simp [noIds]) (by repeat (first | assumption | exact Ext.refl _ | refine zu ?_ | refine Ext.setF ?_ (by first | assumption | (simp [ze, St.set, zf]; done) | exact zp (by assumption)))) ?_; simp [-cellOK, zv, zB, zG, zR, q0, q1, q2, q3, q4, k1, k2, zz, zA, ze, zL]) | (refine zb (fun hc => ?_) (fun hc => ?_) <;> try simp at hc) | fail)
  rw [if_neg q4, if_pos (show q.kind = 5 by omega)]
  (try ((first | with_reducible refine zk ?_ | with_reducible refine zm ?_ | with_reducible refine zo ?_); simp [-cellOK, zv, zB, zG, zR, q0, q1, q2, q3, q4, zz, zA, ze])); repeat' (first | ((first | refine zd ?_ | refine zh ?_ | refine dN (by decide +kernel) ?_ | refine dC (by decide +kernel) ?_ | refine uP (h3) ?_ | refine .inl ⟨_, .inl (h3), ?_⟩ | (refine za ?_ ?_ <;> (intro hg; simp only [hg])) | fail) <;> simp [-cellOK, zv, zB, zG, zR, q0, q1, q2, q3, q4, zz, zA, ze]) | refine zg ?_ | refine zc ?_ | (refine zs ?_; simp only [zt]; try simp) | (refine zl (by simp) ?_; simp) | (refine zx (by simp) (by simp [noIds]) (by repeat (first | assumption | exact Ext.refl _ | refine zu ?_ | refine Ext.setF ?_ (by first | assumption | (simp [ze, St.set, zf]; done) | exact zp (by assumption)))) ?_; simp [-cellOK, zv, zB, zG, zR, q0, q1, q2, q3, q4, zz, zA, ze, zL]) | (refine zb (fun hc => ?_) (fun hc => ?_) <;> try simp at hc) | fail)
end Go.Proofs.YtanimmdlgmkmkaaGreat.Av
namespace Go.Proofs.YtanimmdlgmkmkaaGreat.Av
open Go
set_option linter.unusedSimpArgs false
set_option linter.unusedVariables false
set_option maxRecDepth 100000
set_option maxHeartbeats 4000000
set_option pp.maxSteps 600
theorem zjh (n : Nw) (f : Fl) (q : Qy) : PCalls Tryz.prog 15 [z7 n f, zaH q] (.raw (.bool (zaS n q))) := by
  have hs := zhj q
  have hp : ∀ m, z9 Tryz.prog m 22 (zq n.t.ports f.p) = some (.raw (.int .i64 n.t.ports.length)) := fun m => by simp [zq]
  obtain ⟨ob, hob⟩ : ∃ b, (q.other.toList == (ByteArray.toList ⟨#[]⟩)) = b := ⟨_, rfl⟩
  have hstr : ∀ op m, op = BinOp.eql → m = Value.string ⟨#[]⟩ → zas Tryz.prog op 9 (.raw (.string q.other)) (.raw m) = some (.raw (.bool ob)) := fun op m h1 h2 => by
    subst h1; subst h2
    show Option.map AV.raw (zet .eql q.other ⟨#[]⟩) = _
    simp only [zet, hob, Option.map_some]
  have hstr := hstr .eql _ rfl rfl
  have hno : zhx q = ob := hob
  refine zK Tryz.func15 rfl (N := 91) rfl rfl (by simp) (by simp [noIds]) fun σ => ?_
  generalize hk : (n.t.ports.length : Int) = k at hp
  by_cases c1 : q.kind < 0
  · have e : zaS n q = false := by simp [zaS, zcu, hk, c1]
    rw [e]
    (try ((first | with_reducible refine zk ?_ | with_reducible refine zm ?_ | with_reducible refine zo ?_); simp [-cellOK, zr, zv, zB, -z9, hp, c1, zz, zA, ze])); repeat' (first | ((first | refine zd ?_ | refine zh ?_ | refine dN (by decide +kernel) ?_ | refine dC (by decide +kernel) ?_ | refine uP (hs) ?_ | refine .inl ⟨_, .inl (hs), ?_⟩ | (refine za ?_ ?_ <;> (intro hg; simp only [hg])) | fail) <;> simp [-cellOK, zr, zv, zB, -z9, hp, c1, zz, zA, ze]) | refine zg ?_ | refine zc ?_ | (refine zs ?_; simp only [zt]; try simp) | (refine zl (by simp) ?_; simp) | (refine zx (by simp) (by simp [noIds]) (by repeat (first | assumption | exact Ext.refl _ | refine zu ?_ | refine Ext.setF ?_ (by first | assumption | (simp [ze, St.set, zf]; done) | exact zp (by assumption)))) ?_; simp [-cellOK, zr, zv, zB, -z9, hp, c1, zz, zA, ze, zL]) | (refine zb (fun hc => ?_) (fun hc => ?_) <;> try simp at hc) | fail)
  by_cases c2 : 5 < q.kind
  · have e : zaS n q = false := by simp [zaS, zcu, hk, c1, c2]
    rw [e]
    (try ((first | with_reducible refine zk ?_ | with_reducible refine zm ?_ | with_reducible refine zo ?_); simp [-cellOK, zr, zv, zB, -z9, hp, c1, c2, zz, zA, ze])); repeat' (first | ((first | refine zd ?_ | refine zh ?_ | refine dN (by decide +kernel) ?_ | refine dC (by decide +kernel) ?_ | refine uP (hs) ?_ | refine .inl ⟨_, .inl (hs), ?_⟩ | (refine za ?_ ?_ <;> (intro hg; simp only [hg])) | fail) <;> simp [-cellOK, zr, zv, zB, -z9, hp, c1, c2, zz, zA, ze]) | refine zg ?_ | refine zc ?_ | (refine zs ?_; simp only [zt]; try simp) | (refine zl (by simp) ?_; simp) | (refine zx (by simp) (by simp [noIds]) (by repeat (first | assumption | exact Ext.refl _ | refine zu ?_ | refine Ext.setF ?_ (by first | assumption | (simp [ze, St.set, zf]; done) | exact zp (by assumption)))) ?_; simp [-cellOK, zr, zv, zB, -z9, hp, c1, c2, zz, zA, ze, zL]) | (refine zb (fun hc => ?_) (fun hc => ?_) <;> try simp at hc) | fail)
  by_cases c3 : q.r.hi < q.r.lo
  · have e : zaS n q = false := by simp [zaS, zcu, hk, c1, c2, c3]
    rw [e]
    (try ((first | with_reducible refine zk ?_ | with_reducible refine zm ?_ | with_reducible refine zo ?_); simp [-cellOK, zr, zv, zB, -z9, hp, c1, c2, c3, zz, zA, ze])); repeat' (first | ((first | refine zd ?_ | refine zh ?_ | refine dN (by decide +kernel) ?_ | refine dC (by decide +kernel) ?_ | refine uP (hs) ?_ | refine .inl ⟨_, .inl (hs), ?_⟩ | (refine za ?_ ?_ <;> (intro hg; simp only [hg])) | fail) <;> simp [-cellOK, zr, zv, zB, -z9, hp, c1, c2, c3, zz, zA, ze]) | refine zg ?_ | refine zc ?_ | (refine zs ?_; simp only [zt]; try simp) | (refine zl (by simp) ?_; simp) | (refine zx (by simp) (by simp [noIds]) (by repeat (first | assumption | exact Ext.refl _ | refine zu ?_ | refine Ext.setF ?_ (by first | assumption | (simp [ze, St.set, zf]; done) | exact zp (by assumption)))) ?_; simp [-cellOK, zr, zv, zB, -z9, hp, c1, c2, c3, zz, zA, ze, zL]) | (refine zb (fun hc => ?_) (fun hc => ?_) <;> try simp at hc) | fail)
  by_cases c4 : q.a < 0
  · have e : zaS n q = false := by simp [zaS, zcu, hk, c1, c2, c3, c4]
    rw [e]
    (try ((first | with_reducible refine zk ?_ | with_reducible refine zm ?_ | with_reducible refine zo ?_); simp [-cellOK, zr, zv, zB, -z9, hp, c1, c2, c3, c4, zz, zA, ze])); repeat' (first | ((first | refine zd ?_ | refine zh ?_ | refine dN (by decide +kernel) ?_ | refine dC (by decide +kernel) ?_ | refine uP (hs) ?_ | refine .inl ⟨_, .inl (hs), ?_⟩ | (refine za ?_ ?_ <;> (intro hg; simp only [hg])) | fail) <;> simp [-cellOK, zr, zv, zB, -z9, hp, c1, c2, c3, c4, zz, zA, ze]) | refine zg ?_ | refine zc ?_ | (refine zs ?_; simp only [zt]; try simp) | (refine zl (by simp) ?_; simp) | (refine zx (by simp) (by simp [noIds]) (by repeat (first | assumption | exact Ext.refl _ | refine zu ?_ | refine Ext.setF ?_ (by first | assumption | (simp [ze, St.set, zf]; done) | exact zp (by assumption)))) ?_; simp [-cellOK, zr, zv, zB, -z9, hp, c1, c2, c3, c4, zz, zA, ze, zL]) | (refine zb (fun hc => ?_) (fun hc => ?_) <;> try simp at hc) | fail)
  by_cases c5 : q.b < 0
  · have e : zaS n q = false := by simp [zaS, zcu, hk, c1, c2, c3, c4, c5]
    rw [e]
    (try ((first | with_reducible refine zk ?_ | with_reducible refine zm ?_ | with_reducible refine zo ?_); simp [-cellOK, zr, zv, zB, -z9, hp, c1, c2, c3, c4, c5, zz, zA, ze])); repeat' (first | ((first | refine zd ?_ | refine zh ?_ | refine dN (by decide +kernel) ?_ | refine dC (by decide +kernel) ?_ | refine uP (hs) ?_ | refine .inl ⟨_, .inl (hs), ?_⟩ | (refine za ?_ ?_ <;> (intro hg; simp only [hg])) | fail) <;> simp [-cellOK, zr, zv, zB, -z9, hp, c1, c2, c3, c4, c5, zz, zA, ze]) | refine zg ?_ | refine zc ?_ | (refine zs ?_; simp only [zt]; try simp) | (refine zl (by simp) ?_; simp) | (refine zx (by simp) (by simp [noIds]) (by repeat (first | assumption | exact Ext.refl _ | refine zu ?_ | refine Ext.setF ?_ (by first | assumption | (simp [ze, St.set, zf]; done) | exact zp (by assumption)))) ?_; simp [-cellOK, zr, zv, zB, -z9, hp, c1, c2, c3, c4, c5, zz, zA, ze, zL]) | (refine zb (fun hc => ?_) (fun hc => ?_) <;> try simp at hc) | fail)
  by_cases c6 : q.w < 0
  · have e : zaS n q = false := by simp [zaS, zcu, hk, c1, c2, c3, c4, c5, c6]
    rw [e]
    (try ((first | with_reducible refine zk ?_ | with_reducible refine zm ?_ | with_reducible refine zo ?_); simp [-cellOK, zr, zv, zB, -z9, hp, c1, c2, c3, c4, c5, c6, zz, zA, ze])); repeat' (first | ((first | refine zd ?_ | refine zh ?_ | refine dN (by decide +kernel) ?_ | refine dC (by decide +kernel) ?_ | refine uP (hs) ?_ | refine .inl ⟨_, .inl (hs), ?_⟩ | (refine za ?_ ?_ <;> (intro hg; simp only [hg])) | fail) <;> simp [-cellOK, zr, zv, zB, -z9, hp, c1, c2, c3, c4, c5, c6, zz, zA, ze]) | refine zg ?_ | refine zc ?_ | (refine zs ?_; simp only [zt]; try simp) | (refine zl (by simp) ?_; simp) | (refine zx (by simp) (by simp [noIds]) (by repeat (first | assumption | exact Ext.refl _ | refine zu ?_ | refine Ext.setF ?_ (by first | assumption | (simp [ze, St.set, zf]; done) | exact zp (by assumption)))) ?_; simp [-cellOK, zr, zv, zB, -z9, hp, c1, c2, c3, c4, c5, c6, zz, zA, ze, zL]) | (refine zb (fun hc => ?_) (fun hc => ?_) <;> try simp at hc) | fail)
  by_cases c7 : k ≤ q.a
  · have e : zaS n q = false := by simp [zaS, zcu, hk, c1, c2, c3, c4, c5, c6, c7]
    rw [e]
    (try ((first | with_reducible refine zk ?_ | with_reducible refine zm ?_ | with_reducible refine zo ?_); simp [-cellOK, zr, zv, zB, -z9, hp, c1, c2, c3, c4, c5, c6, c7, zz, zA, ze])); repeat' (first | ((first | refine zd ?_ | refine zh ?_ | refine dN (by decide +kernel) ?_ | refine dC (by decide +kernel) ?_ | refine uP (hs) ?_ | refine .inl ⟨_, .inl (hs), ?_⟩ | (refine za ?_ ?_ <;> (intro hg; simp only [hg])) | fail) <;> simp [-cellOK, zr, zv, zB, -z9, hp, c1, c2, c3, c4, c5, c6, c7, zz, zA, ze]) | refine zg ?_ | refine zc ?_ | (refine zs ?_; simp only [zt]; try simp) | (refine zl (by simp) ?_; simp) | (refine zx (by simp) (by simp [noIds]) (by repeat (first | assumption | exact Ext.refl _ | refine zu ?_ | refine Ext.setF ?_ (by first | assumption | (simp [ze, St.set, zf]; done) | exact zp (by assumption)))) ?_; simp [-cellOK, zr, zv, zB, -z9, hp, c1, c2, c3, c4, c5, c6, c7, zz, zA, ze, zL]) | (refine zb (fun hc => ?_) (fun hc => ?_) <;> try simp at hc) | fail)
  by_cases c8 : k ≤ q.b
  · have e : zaS n q = false := by simp [zaS, zcu, hk, c1, c2, c3, c4, c5, c6, c7, c8]
    rw [e]
    (try ((first | with_reducible refine zk ?_ | with_reducible refine zm ?_ | with_reducible refine zo ?_); simp [-cellOK, zr, zv, zB, -z9, hp, c1, c2, c3, c4, c5, c6, c7, c8, zz, zA, ze])); repeat' (first | ((first | refine zd ?_ | refine zh ?_ | refine dN (by decide +kernel) ?_ | refine dC (by decide +kernel) ?_ | refine uP (hs) ?_ | refine .inl ⟨_, .inl (hs), ?_⟩ | (refine za ?_ ?_ <;> (intro hg; simp only [hg])) | fail) <;> simp [-cellOK, zr, zv, zB, -z9, hp, c1, c2, c3, c4, c5, c6, c7, c8, zz, zA, ze]) | refine zg ?_ | refine zc ?_ | (refine zs ?_; simp only [zt]; try simp) | (refine zl (by simp) ?_; simp) | (refine zx (by simp) (by simp [noIds]) (by repeat (first | assumption | exact Ext.refl _ | refine zu ?_ | refine Ext.setF ?_ (by first | assumption | (simp [ze, St.set, zf]; done) | exact zp (by assumption)))) ?_; simp [-cellOK, zr, zv, zB, -z9, hp, c1, c2, c3, c4, c5, c6, c7, c8, zz, zA, ze, zL]) | (refine zb (fun hc => ?_) (fun hc => ?_) <;> try simp at hc) | fail)
  by_cases c9 : k ≤ q.w
  · have e : zaS n q = false := by simp [zaS, zcu, hk, c1, c2, c3, c4, c5, c6, c7, c8, c9]
    rw [e]
    (try ((first | with_reducible refine zk ?_ | with_reducible refine zm ?_ | with_reducible refine zo ?_); simp [-cellOK, zr, zv, zB, -z9, hp, c1, c2, c3, c4, c5, c6, c7, c8, c9, zz, zA, ze])); repeat' (first | ((first | refine zd ?_ | refine zh ?_ | refine dN (by decide +kernel) ?_ | refine dC (by decide +kernel) ?_ | refine uP (hs) ?_ | refine .inl ⟨_, .inl (hs), ?_⟩ | (refine za ?_ ?_ <;> (intro hg; simp only [hg])) | fail) <;> simp [-cellOK, zr, zv, zB, -z9, hp, c1, c2, c3, c4, c5, c6, c7, c8, c9, zz, zA, ze]) | refine zg ?_ | refine zc ?_ | (refine zs ?_; simp only [zt]; try simp) | (refine zl (by simp) ?_; simp) | (refine zx (by simp) (by simp [noIds]) (by repeat (first | assumption | exact Ext.refl _ | refine zu ?_ | refine Ext.setF ?_ (by first | assumption | (simp [ze, St.set, zf]; done) | exact zp (by assumption)))) ?_; simp [-cellOK, zr, zv, zB, -z9, hp, c1, c2, c3, c4, c5, c6, c7, c8, c9, zz, zA, ze, zL]) | (refine zb (fun hc => ?_) (fun hc => ?_) <;> try simp at hc) | fail)
  generalize hsb : zcE q = sb at hs
  have e : zaS n q = ((sb || (decide (q.a = 0) && decide (q.b = 0))) && ((decide (q.kind = 4) || decide (q.w = 0)) && (decide (q.kind = 5) || ob))) := by simp [zaS, zcu, hk, hsb, hno, c1, c2, c3, c4, c5, c6, c7, c8, c9]
  rw [e]
  have k1 : (q.a = 0) = True ∨ (q.a = 0) = False := by by_cases h : q.a = 0 <;> simp [h]
  have k2 : (q.b = 0) = True ∨ (q.b = 0) = False := by by_cases h : q.b = 0 <;> simp [h]
  have k3 : (q.w = 0) = True ∨ (q.w = 0) = False := by by_cases h : q.w = 0 <;> simp [h]
  have k4 : ((q.kind = 4) = True ∧ (q.kind = 5) = False) ∨ ((q.kind = 4) = False ∧ (q.kind = 5) = True) ∨ ((q.kind = 4) = False ∧ (q.kind = 5) = False) := by
    by_cases h : q.kind = 4
    · exact .inl ⟨eq_true h, eq_false (by omega)⟩
    · by_cases h2 : q.kind = 5
      · exact .inr (.inl ⟨eq_false h, eq_true h2⟩)
      · exact .inr (.inr ⟨eq_false h, eq_false h2⟩)
  cases sb <;> rcases k1 with k1 | k1 <;> rcases k2 with k2 | k2 <;> rcases k3 with k3 | k3 <;> rcases k4 with ⟨k4, k5⟩ | ⟨k4, k5⟩ | ⟨k4, k5⟩
  all_goals
    (try ((first | with_reducible refine zk ?_ | with_reducible refine zm ?_ | with_reducible refine zo ?_); simp [-cellOK, zr, zv, zB, -z9, hp, c1, c2, c3, c4, c5, c6, c7, c8, c9, k1, k2, k3, k4, k5, -zas, zae, hstr, zz, zA, ze])); repeat' (first | ((first | refine zd ?_ | refine zh ?_ | refine dN (by decide +kernel) ?_ | refine dC (by decide +kernel) ?_ | refine uP (hs) ?_ | refine .inl ⟨_, .inl (hs), ?_⟩ | (refine za ?_ ?_ <;> (intro hg; simp only [hg])) | fail) <;> simp [-cellOK, zr, zv, zB, -z9, hp, c1, c2, c3, c4, c5, c6, c7, c8, c9, k1, k2, k3, k4, k5, -zas, zae, hstr, zz, zA, ze]) | refine zg ?_ | refine zc ?_ | (refine zs ?_; simp only [zt]; try simp) | (refine zl (by simp) ?_; simp) | (refine zx (by simp) (by simp [noIds]) (by repeat (first | assumption | exact Ext.refl _ | refine zu ?_ | refine Ext.setF ?_ (by first | assumption | (simp [ze, St.set, zf]; done) | exact zp (by assumption)))) ?_; simp [-cellOK, zr, zv, zB, -z9, hp, c1, c2, c3, c4, c5, c6, c7, c8, c9, k1, k2, k3, k4, k5, -zas, zae, hstr, zz, zA, ze, zL]) | (refine zb (fun hc => ?_) (fun hc => ?_) <;> try simp at hc) | fail)
end Go.Proofs.YtanimmdlgmkmkaaGreat.Av
namespace Go.Proofs.YtanimmdlgmkmkaaGreat.Av.Zn
set_option linter.unusedSimpArgs false
set_option linter.unusedVariables false
theorem zmq (all : List Int) : ∀ (n : Nat) (last : Int), zbH all last ≤ n →
    (∀ c ∈ cutsFrom all n last, c ∈ all ∧ last < c ∧ c < 4294967296) ∧
    (∀ a ∈ all, last < a → a < 4294967296 → ∃ d, (cutsFrom all n last)[0]? = some d ∧ d ≤ a) ∧
    (∀ (i : Nat) (c : Int), (cutsFrom all n last)[i]? = some c → ∀ a ∈ all, c < a → a < 4294967296 → ∃ d, (cutsFrom all n last)[i + 1]? = some d ∧ d ≤ a) ∧
    (∀ (i : Nat) (c d : Int), (cutsFrom all n last)[i]? = some c → (cutsFrom all n last)[i + 1]? = some d → c < d)
  | 0, last, h => by
    refine ⟨(fun c hc => by simp [cutsFrom] at hc), fun a ha h1 h2 => ?_, (fun i c hc => by simp [cutsFrom] at hc), (fun i c d hc => by simp [cutsFrom] at hc)⟩
    have : 0 < zbH all last := by
      unfold zbH
      exact List.length_pos_of_mem (List.mem_filter.2 ⟨ha, by simp [h1, h2]⟩)
    omega
  | n + 1, last, h => by
    obtain ⟨n1, n2, n3⟩ := zje all last
    unfold cutsFrom
    by_cases hx : nextCut all last ≤ 4294967295
    · rw [if_pos hx]
      have hlt := zed hx
      have n1 := n1.resolve_left (by omega)
      obtain ⟨h1, h2, h3, h4⟩ := zmq all n (nextCut all last) (by omega)
      generalize nextCut all last = x at *
      refine ⟨fun c hc => ?_, fun a ha q1 q2 => ⟨x, rfl, n3 a ha q1⟩, fun i c hc a ha q1 q2 => ?_, fun i c d hc hd => ?_⟩
      · rcases List.mem_cons.1 hc with rfl | hc
        · exact n1
        · have := h1 c hc; exact ⟨this.1, by omega, this.2.2⟩
      · cases i with
        | zero => simp at hc; subst hc; simpa using h2 a ha q1 q2
        | succ i => simpa using h3 i c (by simpa using hc) a ha q1 q2
      · cases i with
        | zero =>
          simp at hc; subst hc
          have := h1 d (List.mem_of_getElem? (by simpa using hd))
          exact this.2.1
        | succ i => exact h4 i c d (by simpa using hc) (by simpa using hd)
    · rw [if_neg hx]
      refine ⟨(fun c hc => by cases hc), fun a ha q1 q2 => ?_, (fun i c hc => by simp at hc), (fun i c d hc => by simp at hc)⟩
      have := n3 a ha q1; omega
theorem cutsAll_mem {l : List Rg} {a : Int} : a ∈ cutsAll l ↔ a = 0 ∨ ∃ r ∈ l, a = r.lo ∨ a = r.hi + 1 := by
  unfold cutsAll; simp
structure Cuts (l : List Rg) (C : List Int) : Prop where
  rng : ∀ c ∈ C, 0 ≤ c ∧ c < 4294967296
  zero : C[0]? = some 0
  up : ∀ (i : Nat) (c d : Int), C[i]? = some c → C[i + 1]? = some d → c < d
  full : ∀ (i : Nat) (c : Int), C[i]? = some c → ∀ a ∈ cutsAll l, c < a → a < 4294967296 → ∃ d, C[i + 1]? = some d ∧ d ≤ a
theorem cuts_of (l : List Rg) (hz : InZ l) : Cuts l (cutsOf l) := by
  obtain ⟨h1, h2, h3, h4⟩ := zmq (cutsAll l) (zbH (cutsAll l) (-1)) (-1) (Nat.le_refl _)
  have hr : ∀ c ∈ cutsOf l, 0 ≤ c ∧ c < 4294967296 := fun c hc => by have := h1 c hc; omega
  refine ⟨hr, ?_, h4, h3⟩
  obtain ⟨d, hd, hle⟩ := h2 0 (cutsAll_mem.2 (.inl rfl)) (by omega) (by omega)
  have := hr d (List.mem_of_getElem? hd)
  rw [show (cutsOf l)[0]? = some d from hd, show d = 0 by omega]
def zhk (C : List Int) (i : Nat) : Int := match C[i]? with | some c => c | none => 4294967296
theorem zji (C : List Int) (i : Nat) : zhA C i = zhk C (i + 1) - 1 := by
  unfold zhA zhk
  cases C[i + 1]? <;> simp
theorem Cuts.hasB {l m : List Rg} {C : List Int} (h : Cuts l C) (hm : ∀ r ∈ m, r ∈ l) (hz : InZ m) {i : Nat} {c a : Int} (hc : C[i]? = some c) (h1 : c ≤ a) (h2 : a ≤ zhA C i) : hasB m a = hasB m c := by
  have no : ∀ x ∈ cutsAll l, ¬ (c < x ∧ x ≤ a) := fun x hx k => by
    have ha : a < 4294967296 := by
      rw [zji] at h2
      have : zhk C (i + 1) ≤ 4294967296 := by
        unfold zhk; split
        · rename_i d hd; have := h.rng d (List.mem_of_getElem? hd); omega
        · omega
      omega
    obtain ⟨d, hd, hle⟩ := h.full i c hc x hx k.1 (by omega)
    rw [zji] at h2
    unfold zhk at h2
    rw [hd] at h2
    simp only [] at h2
    omega
  unfold Zn.hasB
  rw [Bool.eq_iff_iff, List.any_eq_true, List.any_eq_true]
  have hc0 := h.rng c (List.mem_of_getElem? hc)
  constructor
  · rintro ⟨r, hr, k⟩
    refine ⟨r, hr, ?_⟩
    simp only [Bool.and_eq_true, decide_eq_true_eq] at k ⊢
    have n1 := no r.lo (cutsAll_mem.2 (.inr ⟨r, hm r hr, .inl rfl⟩))
    omega
  · rintro ⟨r, hr, k⟩
    refine ⟨r, hr, ?_⟩
    simp only [Bool.and_eq_true, decide_eq_true_eq] at k ⊢
    have n1 := no (r.hi + 1) (cutsAll_mem.2 (.inr ⟨r, hm r hr, .inr rfl⟩))
    omega
def zwo (l : List Rg) : List Rg := zjf (hasB l) (cutsOf l) (cutsOf l).length
def ztn (how : Int) (x y : List Rg) : List Rg := zjf (fun a => ztm how (hasB x a) (hasB y a)) (cutsOf (x ++ y)) (cutsOf (x ++ y)).length
end Go.Proofs.YtanimmdlgmkmkaaGreat.Av.Zn
namespace Go.Proofs.YtanimmdlgmkmkaaGreat.Av
open Go
set_option linter.unusedSimpArgs false
set_option linter.unusedVariables false
set_option maxRecDepth 100000
set_option maxHeartbeats 4000000
set_option pp.maxSteps 600
theorem zma (all : List Int) (last : Int) : Zn.nextCut all last = 4294967296 ∨ Zn.nextCut all last ∈ all := by
  unfold Zn.nextCut
  have key : ∀ (l : List Int) (n : Int), l.foldl (fun next a => if last < a ∧ a < next then a else next) n = n ∨ l.foldl (fun next a => if last < a ∧ a < next then a else next) n ∈ l := by
    intro l
    induction l with
    | nil => intro n; exact .inl rfl
    | cons x l ih =>
      intro n
      rw [List.foldl_cons]
      rcases ih (if last < x ∧ x < n then x else n) with h | h
      · rw [h]
        split
        · exact .inr (by simp)
        · exact .inl rfl
      · exact .inr (List.mem_cons_of_mem _ h)
  exact key all _
theorem zhl (all : List Int) : ∀ (n : Nat) (last : Int), ∀ c ∈ Zn.cutsFrom all n last, c ∈ all
  | 0, _, c, h => by simp [Zn.cutsFrom] at h
  | n + 1, last, c, h => by
    unfold Zn.cutsFrom at h
    split at h
    · rename_i hle
      rcases List.mem_cons.1 h with rfl | h
      · rcases zma all last with e | e
        · omega
        · exact e
      · exact zhl all n _ c h
    · simp at h
theorem znW {l : List Rg} (h : ∀ r ∈ l, RgOK r) : Zn.cutsOf l = zaZ l := by
  have hz : Zn.InZ l := fun r hr => ⟨(h r hr).lo0, (h r hr).lo1, (h r hr).hi0, (h r hr).hi1⟩
  have hC := Zn.cuts_of l hz
  have hsub : ∀ c ∈ Zn.cutsOf l, c ∈ Zn.cutsAll l := zhl _ _ _
  have hL := zbo l
  have hup : (Zn.cutsOf l).Pairwise (· < ·) := by
    have key : ∀ (C : List Int), (∀ (i : Nat) (c d : Int), C[i]? = some c → C[i + 1]? = some d → c < d) → C.Pairwise (· < ·) := by
      intro C
      induction C with
      | nil => intro _; exact .nil
      | cons x C ih =>
        intro hu
        have ih := ih fun i c d h1 h2 => hu (i + 1) c d (by simpa using h1) (by simpa using h2)
        refine List.pairwise_cons.2 ⟨fun y hy => ?_, ih⟩
        cases C with
        | nil => simp at hy
        | cons z C =>
          have h0 := hu 0 x z rfl rfl
          rcases List.mem_cons.1 hy with rfl | hy
          · exact h0
          · have := (List.pairwise_cons.1 ih).1 y hy
            omega
    exact key _ hC.up
  refine zeo hup hL.srt fun x => ?_
  rw [hL.mem]
  constructor
  · intro hx
    have h1 := hsub x hx
    have h2 := hC.rng x hx
    rcases Zn.cutsAll_mem.1 h1 with rfl | ⟨r, hr, e⟩
    · exact .inl rfl
    · refine .inr ⟨r, hr, ?_⟩
      unfold zci
      rcases e with rfl | rfl
      · split <;> simp
      · rw [if_pos (by omega)]; simp
  · intro hx
    have hin : x ∈ Zn.cutsAll l ∧ 0 ≤ x ∧ x < 4294967296 := by
      rcases hx with rfl | ⟨r, hr, e⟩
      · exact ⟨Zn.cutsAll_mem.2 (.inl rfl), by omega, by omega⟩
      · obtain ⟨a1, a2, a3, a4⟩ := h r hr
        unfold zci at e
        split at e
        · simp only [List.mem_cons, List.not_mem_nil, or_false] at e
          rcases e with rfl | rfl
          · exact ⟨Zn.cutsAll_mem.2 (.inr ⟨r, hr, .inl rfl⟩), by omega, by omega⟩
          · exact ⟨Zn.cutsAll_mem.2 (.inr ⟨r, hr, .inr rfl⟩), by omega, by omega⟩
        · simp only [List.mem_cons, List.not_mem_nil, or_false] at e
          subst e
          exact ⟨Zn.cutsAll_mem.2 (.inr ⟨r, hr, .inl rfl⟩), by omega, by omega⟩
    obtain ⟨h1, h2, h3⟩ := hin
    have step : ∀ k, k ≤ (Zn.cutsOf l).length → x ∈ Zn.cutsOf l ∨ ∀ i, i < k → ∀ c, (Zn.cutsOf l)[i]? = some c → c < x := by
      intro k
      induction k with
      | zero => intro _; exact .inr fun i hi => by omega
      | succ k ih =>
        intro hk
        rcases ih (by omega) with hm | hb
        · exact .inl hm
        · have hc : (Zn.cutsOf l)[k]? = some (Zn.cutsOf l)[k] := List.getElem?_eq_getElem (by omega)
          by_cases e : (Zn.cutsOf l)[k] = x
          · exact .inl (e ▸ List.getElem_mem _)
          · by_cases hlt : (Zn.cutsOf l)[k] < x
            · refine .inr fun i hi c hi2 => ?_
              by_cases e2 : i = k
              · subst e2; rw [hc] at hi2; injection hi2 with hi2; omega
              · exact hb i (by omega) c hi2
            · left
              cases k with
              | zero =>
                have h0 := hC.zero
                rw [hc] at h0
                injection h0 with h0
                omega
              | succ j =>
                have hj : (Zn.cutsOf l)[j]? = some (Zn.cutsOf l)[j] := List.getElem?_eq_getElem (by omega)
                have hlj := hb j (by omega) _ hj
                obtain ⟨d, hd, hle⟩ := hC.full j _ hj x h1 hlj h3
                rw [hc] at hd
                injection hd with hd
                omega
    rcases step _ (Nat.le_refl _) with hm | hb
    · exact hm
    · exfalso
      have hne : 0 < (Zn.cutsOf l).length := (List.getElem?_eq_some_iff.1 hC.zero).1
      have hlast : (Zn.cutsOf l)[(Zn.cutsOf l).length - 1]? = some (Zn.cutsOf l)[(Zn.cutsOf l).length - 1] := List.getElem?_eq_getElem (by omega)
      have hlt := hb _ (by omega) _ hlast
      obtain ⟨d, hd, _⟩ := hC.full _ _ hlast x h1 hlt h3
      have := (List.getElem?_eq_some_iff.1 hd).1
      omega
theorem zku (l : List Rg) (f : Bool) (hz : ∀ r ∈ l, RgOK r) (hl : l.length < 2 ^ 30) : PCalls Tryz.prog 113 [zN l f] (zq (zaZ l) false) := by
  have := Zn.cuts_calls l f (fun r hr => ⟨(hz r hr).lo0, (hz r hr).lo1, (hz r hr).hi0, (hz r hr).hi1⟩) hl
  rw [znW hz] at this
  exact this
def zih (c : List Int) (i : Nat) : Int := match c[i + 1]? with | some y => y - 1 | none => 4294967295
theorem zlC (c : List Int) (f : Bool) (i : Nat) (hl : c.length < 2 ^ 60) (hi : i < 2 ^ 60) (hC : ∀ x ∈ c, 0 ≤ x ∧ x ≤ 4294967296) : PCalls Tryz.prog 114 [zq c f, .raw (.int .i64 i)] (.raw (.int .i64 (zih c i))) := Zn.end_calls c f i hl hi hC
theorem znX (c : List Int) (i : Nat) : (zbc c)[i]? = (c[i]?).map fun x => ⟨x, zih c i⟩ := zdU c i
end Go.Proofs.YtanimmdlgmkmkaaGreat.Av
namespace Go.Proofs.YtanimmdlgmkmkaaGreat.Av
open Go
set_option linter.unusedSimpArgs false
set_option linter.unusedVariables false
set_option maxRecDepth 100000
set_option maxHeartbeats 4000000
set_option pp.maxSteps 600
theorem zjj (n : Nw) (f : Fl) (hl : n.rules.length < 2 ^ 40) : PCalls Tryz.prog 112 [z7 n f] (zN (zec n) false) := by
  refine zK Tryz.func112 rfl (N := 22) rfl rfl (by simp) (zo5 _ _ _) fun σ => ?_
  have f1 : σ.m ⟨1, σ.nx 1, 3⟩ = none := zf _ _ _
  refine zg ?_
  refine zh ?_
  simp [zr]
  refine zY ⟨1, σ.nx 1, 3⟩ ?_
  generalize hτ : St.del _ _ = τ
  generalize hA : (fun t => zD _ _ _) = A
  have a1 : A 1 = .pp (z7 n f).cells 0 := by rw [← hA, ← hτ]; simp [zD, St.new, St.del, zr]
  have hE : Ext σ τ := by
    rw [← hτ]
    refine ⟨fun i o h => ?_, fun s => ?_⟩
    · have q2 : i ≠ ⟨1, σ.nx 1, 3⟩ := fun e => by rw [e, f1] at h; cases h
      simp [St.del, St.new, q2, h]
    · simp only [St.del, St.new]
      repeat' split
      all_goals omega
  clear hτ hA
  (try ((first | with_reducible refine zk ?_ | with_reducible refine zm ?_ | with_reducible refine zo ?_); simp [-cellOK, zr, a1])); repeat' (first | ((first | refine zd ?_ | refine zh ?_ | refine dN (by decide +kernel) ?_ | refine dC (by decide +kernel) ?_ | (refine za ?_ ?_ <;> (intro hg; simp only [hg])) | fail) <;> simp [-cellOK, zr, a1]) | refine zg ?_ | refine zc ?_ | (refine zs ?_; simp only [zt]; try simp) | (refine zl (by simp) ?_; simp) | (refine zx (by simp) (by simp [noIds]) (by repeat (first | assumption | exact Ext.refl _ | refine zu ?_ | refine Ext.setF ?_ (by first | assumption | (simp [ze, St.set, zf]; done) | exact zp (by assumption)))) ?_; simp [-cellOK, zr, a1, zL]) | (refine zb (fun hc => ?_) (fun hc => ?_) <;> try simp at hc) | fail)
  refine zab (fun n' B ρ => Ext σ ρ ∧ B 1 = .pp (z7 n f).cells 0 ∧ ∃ (i : Nat) (v : AV), B 4 = .raw (.int .i64 i) ∧ i ≤ n.rules.length ∧ n' = n.rules.length - i ∧ B 3 = v ∧ OwnL σ ρ 2 v ((zec n).take i |>.map zat)) n.rules.length ?_ ?_
  · exact ⟨hE, by simp [a1], 0, .sl 0 [] true, by simp, by omega, by omega, by simp, .inl ⟨by simp, rfl⟩⟩
  clear a1 hE
  rintro n' B ρ ⟨hE, a1, i, v, a4, hi, rfl, a3, hO⟩ I1 hI1
  by_cases hlt : i < n.rules.length
  · have hx : n.rules[i]? = some n.rules[i] := List.getElem?_eq_getElem hlt
    have w1 : IntKind.i64.wrap ((i : Int) + 1) = ((i + 1 : Nat) : Int) := by rw [zU (by omega) (by omega)]; omega
    obtain ⟨x, hxe⟩ : ∃ x, n.rules[i] = x := ⟨_, rfl⟩
    have hxr : AV.agg [.raw (.int .u32 x.r.lo), .raw (.int .u32 x.r.hi)] = zat x.r := rfl
    have htk : (zec n).take (i + 1) = (zec n).take i ++ [x.r] := by
      unfold zec
      rw [List.take_add_one, List.getElem?_map, hx, hxe]; rfl
    (try ((first | with_reducible refine zk ?_ | with_reducible refine zm ?_ | with_reducible refine zo ?_); simp [-cellOK, zr, zE, a1, a3, a4, hlt, hx, hxe, zF, hxr, zT, zz, zA, ze, -zO])); repeat' (first | ((first | refine zd ?_ | refine zh ?_ | refine dN (by decide +kernel) ?_ | refine dC (by decide +kernel) ?_ | (refine za ?_ ?_ <;> (intro hg; simp only [hg])) | fail) <;> simp [-cellOK, zr, zE, a1, a3, a4, hlt, hx, hxe, zF, hxr, zT, zz, zA, ze, -zO]) | refine zg ?_ | refine zc ?_ | (refine zs ?_; simp only [zt]; try simp) | (refine zb (fun hc => ?_) (fun hc => ?_) <;> try simp at hc) | fail)
    refine zaV zky (σ0 := σ) (hO.ext (by repeat (first | assumption | exact Ext.refl _ | refine zu ?_ | refine Ext.setF ?_ (by first | assumption | (simp [ze, St.set, zf]; done) | exact zp (by assumption))))) (by repeat (first | assumption | exact Ext.refl _ | refine zu ?_ | refine Ext.setF ?_ (by first | assumption | (simp [ze, St.set, zf]; done) | exact zp (by assumption)))) (ys := [zat x.r]) (by simp [zz, ze, zT, zat]) (.inr rfl) (by simp [zat, zV, zaE, cellOK, AV.cells]) (by simp; omega) ?_
    intro v' τ' hO' hE' _ _
    (try ((first | with_reducible refine zk ?_ | with_reducible refine zm ?_ | with_reducible refine zo ?_); simp [-cellOK, a1, a3, a4, w1])); repeat' (first | ((first | refine zd ?_ | refine zh ?_ | refine dN (by decide +kernel) ?_ | refine dC (by decide +kernel) ?_ | (refine za ?_ ?_ <;> (intro hg; simp only [hg])) | fail) <;> simp [-cellOK, a1, a3, a4, w1]) | refine zg ?_ | refine zc ?_ | (refine zs ?_; simp only [zt]; try simp) | (refine zl (by simp) ?_; simp) | (refine zx (by simp) (by simp [noIds]) (by repeat (first | assumption | exact Ext.refl _ | refine zu ?_ | refine Ext.setF ?_ (by first | assumption | (simp [ze, St.set, zf]; done) | exact zp (by assumption)))) ?_; simp [-cellOK, a1, a3, a4, w1, zL]) | (refine zb (fun hc => ?_) (fun hc => ?_) <;> try simp at hc) | fail)
    refine hI1 (n.rules.length - (i + 1)) _ _ (by omega) ⟨hE', by simp [a1], i + 1, v', by simp, by omega, rfl, by simp, ?_⟩
    rw [htk, List.map_append]
    exact hO'
  · have : i = n.rules.length := by omega
    subst this
    rw [List.take_of_length_le (by unfold zec; simp)] at hO
    (try ((first | with_reducible refine zk ?_ | with_reducible refine zm ?_ | with_reducible refine zo ?_); simp [-cellOK, zr, zE, a1, a3, a4])); repeat' (first | ((first | refine zd ?_ | refine zh ?_ | refine dN (by decide +kernel) ?_ | refine dC (by decide +kernel) ?_ | (refine za ?_ ?_ <;> (intro hg; simp only [hg])) | fail) <;> simp [-cellOK, zr, zE, a1, a3, a4]) | refine zg ?_ | refine zc ?_ | (refine zs ?_; simp only [zt]; try simp) | (refine zb (fun hc => ?_) (fun hc => ?_) <;> try simp at hc) | fail)
    exact zds (v := v) (.inr rfl) (by simp) hO hE
end Go.Proofs.YtanimmdlgmkmkaaGreat.Av
namespace Go.Proofs.YtanimmdlgmkmkaaGreat.Av
open Go
set_option linter.unusedSimpArgs false
set_option linter.unusedVariables false
set_option maxRecDepth 100000
set_option maxHeartbeats 4000000
set_option pp.maxSteps 600
theorem zlD {L M : List Rg} (h : ∀ r, r ∈ L ↔ r ∈ M) : zaZ L = zaZ M := by
  refine zeo (zbo L).srt (zbo M).srt fun x => ?_
  rw [(zbo L).mem, (zbo M).mem]
  constructor <;> rintro (h1 | ⟨r, h2, h3⟩)
  · exact .inl h1
  · exact .inr ⟨r, (h r).1 h2, h3⟩
  · exact .inl h1
  · exact .inr ⟨r, (h r).2 h2, h3⟩
theorem zhm {l : List Nw} (h : ∀ n ∈ l, zar n = true) : (zaw l).length ≤ 40 * l.length := by
  induction l with
  | nil => simp [zaw]
  | cons n l ih =>
    have h1 := (zeq (h n (by simp))).2
    have h2 := ih fun m hm => h m (by simp [hm])
    unfold zaw at h2 ⊢
    rw [List.flatMap_cons, List.length_append, List.length_map, List.length_cons]
    omega
theorem zfA {l : List Nw} (h : ∀ n ∈ l, zar n = true) (hl : l.length ≤ 12) (r : Rg) : zbZ l r = if r.hi < r.lo then [] else zfw (zaZ (zaw l)) r := by
  unfold zbZ
  have := zhm h
  rw [zlg (znM h) (by omega), zi4 (List.reverse_perm _)]
theorem zqa : ∀ z : List Rg, zaE (zV (z.map zat)) = true := fun z => by
  induction z with
  | nil => rfl
  | cons r z ih => simp [zV, zat, zaE, cellOK] at ih ⊢; try exact ih
theorem zdZ (l : List (Nw × Fl)) (f : Bool) (r : Rg) (hr : RgOK r) (hn : ∀ p ∈ l, NwOK p.1) (hrt : ∀ p ∈ l, zar p.1 = true) (hl : l.length ≤ 12) :
    PCalls Tryz.prog 59 [za0 l f, zat r] (.tup [zN (zbZ (l.map (·.1)) r) false, .raw (.int .i64 (if r.hi < r.lo then 31 else 0))]) := by
  have hrm : ∀ n ∈ l.map (·.1), zar n = true := fun n h => by obtain ⟨p, hp, rfl⟩ := List.mem_map.1 h; exact hrt p hp
  rw [zfA hrm (by simpa using hl)]
  have hlen := zhm hrm
  rw [List.length_map] at hlen
  have hrgok : ∀ x ∈ zaw (l.map (·.1)), RgOK x := fun x hx => by
    unfold zaw at hx
    obtain ⟨n, hn1, hx⟩ := List.mem_flatMap.1 hx
    obtain ⟨p, hp, rfl⟩ := List.mem_map.1 hn1
    obtain ⟨y, hy, rfl⟩ := List.mem_map.1 hx
    exact (hn p hp).rg y hy
  refine zK Tryz.func59 rfl (N := 66) rfl rfl (by simp) (by simp [noIds]) fun σ => ?_
  have f3 : σ.m ⟨3, σ.nx 3, 2⟩ = none := zf _ _ _
  by_cases q0 : r.hi < r.lo
  · rw [if_pos q0, if_pos q0]
    (try ((first | with_reducible refine zk ?_ | with_reducible refine zm ?_ | with_reducible refine zo ?_); simp [-cellOK, zT, zb1, q0])); repeat' (first | ((first | refine zd ?_ | refine zh ?_ | refine dN (by decide +kernel) ?_ | refine dC (by decide +kernel) ?_ | (refine za ?_ ?_ <;> (intro hg; simp only [hg])) | fail) <;> simp [-cellOK, zT, zb1, q0]) | refine zg ?_ | refine zc ?_ | (refine zs ?_; simp only [zt]; try simp) | (refine zb (fun hc => ?_) (fun hc => ?_) <;> try simp at hc) | fail)
    refine zcF (x := .tup [.sl 0 [] true, .raw (.int .i64 31)]) (.inr rfl) (by repeat (first | assumption | exact Ext.refl _ | refine zu ?_ | refine Ext.setF ?_ (by first | assumption | (simp [ze, St.set, zf]; done) | exact zp (by assumption)))) ?_ ?_
    · simp
    · simp only [zak, List.map_cons, List.map_nil, zD]
      exact zdM zbD
  rw [if_neg q0, if_neg q0]
  refine zg ?_
  refine zh ?_
  simp [zT]
  refine zY ⟨3, σ.nx 3, 2⟩ ?_
  generalize hτ : St.del _ _ = τ
  generalize hA : (fun t => zD _ _ _) = A
  have a0 : A 0 = za0 l f := by rw [← hA]; simp [za0]
  have a3 : A 3 = .pp [.raw (.int .u32 r.lo), .raw (.int .u32 r.hi)] 0 := by rw [← hA, ← hτ]; simp [zD, St.new, St.del, zT]
  have hE : Ext σ τ := by
    rw [← hτ]
    refine ⟨fun i o h => ?_, fun s => ?_⟩
    · rw [zag (fun e => by rw [e, f3] at h; cases h)]
      exact zaR _ _ h
    · exact St.new_le σ 3 2 (.buf [zat r]) s
  clear hτ hA
  (try ((first | with_reducible refine zk ?_ | with_reducible refine zm ?_ | with_reducible refine zo ?_); simp [-cellOK, a0, a3, q0, za0])); repeat' (first | ((first | refine zd ?_ | refine zh ?_ | refine dN (by decide +kernel) ?_ | refine dC (by decide +kernel) ?_ | (refine za ?_ ?_ <;> (intro hg; simp only [hg])) | fail) <;> simp [-cellOK, a0, a3, q0, za0]) | refine zg ?_ | refine zc ?_ | (refine zs ?_; simp only [zt]; try simp) | (refine zl (by simp) ?_; simp) | (refine zx (by simp) (by simp [noIds]) (by repeat (first | assumption | exact Ext.refl _ | refine zu ?_ | refine Ext.setF ?_ (by first | assumption | (simp [ze, St.set, zf]; done) | exact zp (by assumption)))) ?_; simp [-cellOK, a0, a3, q0, za0, zL]) | (refine zb (fun hc => ?_) (fun hc => ?_) <;> try simp at hc) | fail)
  refine zcD (fun B ρ => OwnL σ ρ 2 (B 6) ((zaw (l.map (·.1))).map zat) ∧ Ext σ ρ ∧ B 3 = .pp [.raw (.int .u32 r.lo), .raw (.int .u32 r.hi)] 0) ?_ ?_
  · intro R1 hR1
    refine zab (fun n' B ρ => Ext σ ρ ∧ B 0 = za0 l f ∧ B 3 = .pp [.raw (.int .u32 r.lo), .raw (.int .u32 r.hi)] 0 ∧ ∃ (i : Nat) (v : AV), B 7 = .raw (.int .i64 i) ∧ i ≤ l.length ∧ n' = l.length - i ∧ B 6 = v ∧ OwnL σ ρ 2 v ((zaw ((l.take i).map (·.1))).map zat)) l.length ?_ ?_
    · exact ⟨hE, by simp [a0], by simp [a3], 0, .sl 0 [] true, by simp, by omega, by omega, by simp, .inl ⟨by simp [zaw], rfl⟩⟩
    clear a0 a3 hE
    rintro n' B ρ ⟨hE, a0, a3, i, v, a7, hi, rfl, a6, hO⟩ I1 hI1
    by_cases hlt : i < l.length
    · have hx : l[i]? = some l[i] := List.getElem?_eq_getElem hlt
      have w1 : IntKind.i64.wrap ((i : Int) + 1) = ((i + 1 : Nat) : Int) := by rw [zU (by omega) (by omega)]; omega
      obtain ⟨nf, hnf⟩ : ∃ nf, l[i] = nf := ⟨_, rfl⟩
      have hmem : nf ∈ l := by rw [← hnf]; exact List.getElem_mem hlt
      have h40 := (zeq (hrt nf hmem)).2
      have hsum : zaw ((l.take (i + 1)).map (·.1)) = zaw ((l.take i).map (·.1)) ++ zec nf.1 := by
        rw [List.take_add_one, hx, hnf]; simp [zaw, zec]
      have hl1 : (zaw ((l.take i).map (·.1))).length ≤ 480 := by
        have := zhm (l := (l.take i).map (·.1)) fun n h => by
          obtain ⟨p, hp, rfl⟩ := List.mem_map.1 h
          exact hrt p (List.mem_of_mem_take hp)
        rw [List.length_map, List.length_take] at this
        omega
      have hl2 : (zec nf.1).length ≤ 40 := by unfold zec; rw [List.length_map]; exact h40
      have hran := zjj nf.1 nf.2 (by omega)
      have hcs : (z7 nf.1 nf.2).cells = [zq nf.1.t.ports nf.2.p, zy nf.1.t.links nf.2.l, zE nf.1.rules nf.2.r] := rfl
      have hfo : AV.agg [zq nf.1.t.ports nf.2.p, zy nf.1.t.links nf.2.l, zE nf.1.rules nf.2.r] = z7 nf.1 nf.2 := rfl
      generalize zec nf.1 = R at *
      (try ((first | with_reducible refine zk ?_ | with_reducible refine zm ?_ | with_reducible refine zo ?_); simp [-cellOK, a0, a3, a6, a7, za0, hlt, hx, hnf, hcs, hfo, zz, zA, ze, -zO])); repeat' (first | ((first | refine zd ?_ | refine zh ?_ | refine dN (by decide +kernel) ?_ | refine dC (by decide +kernel) ?_ | refine uP (hran) ?_ | refine .inl ⟨_, .inl (hran), ?_⟩ | (refine za ?_ ?_ <;> (intro hg; simp only [hg])) | fail) <;> simp [-cellOK, a0, a3, a6, a7, za0, hlt, hx, hnf, hcs, hfo, zz, zA, ze, -zO]) | refine zg ?_ | refine zc ?_ | (refine zs ?_; simp only [zt]; try simp) | (refine zb (fun hc => ?_) (fun hc => ?_) <;> try simp at hc) | fail)
      refine zaV zky (σ0 := σ) (hO.ext (by repeat (first | assumption | exact Ext.refl _ | refine zu ?_ | refine Ext.setF ?_ (by first | assumption | (simp [ze, St.set, zf]; done) | exact zp (by assumption))))) (by repeat (first | assumption | exact Ext.refl _ | refine zu ?_ | refine Ext.setF ?_ (by first | assumption | (simp [ze, St.set, zf]; done) | exact zp (by assumption)))) (ys := R.map zat) (by simp [zN]) (.inr rfl) (zqa _) (by rw [List.length_map, List.length_map]; omega) ?_
      intro v' τ' hO' hE' _ _
      (try ((first | with_reducible refine zk ?_ | with_reducible refine zm ?_ | with_reducible refine zo ?_); simp [-cellOK, a0, a3, a6, a7, w1])); repeat' (first | ((first | refine zd ?_ | refine zh ?_ | refine dN (by decide +kernel) ?_ | refine dC (by decide +kernel) ?_ | (refine za ?_ ?_ <;> (intro hg; simp only [hg])) | fail) <;> simp [-cellOK, a0, a3, a6, a7, w1]) | refine zg ?_ | refine zc ?_ | (refine zs ?_; simp only [zt]; try simp) | (refine zl (by simp) ?_; simp) | (refine zx (by simp) (by simp [noIds]) (by repeat (first | assumption | exact Ext.refl _ | refine zu ?_ | refine Ext.setF ?_ (by first | assumption | (simp [ze, St.set, zf]; done) | exact zp (by assumption)))) ?_; simp [-cellOK, a0, a3, a6, a7, w1, zL]) | (refine zb (fun hc => ?_) (fun hc => ?_) <;> try simp at hc) | fail)
      refine hI1 (l.length - (i + 1)) _ _ (by omega) ⟨hE', by simp [a0], by simp [a3], i + 1, v', by simp, by omega, rfl, by simp, ?_⟩
      rw [hsum, List.map_append]
      exact hO'
    · have : i = l.length := by omega
      subst this
      rw [List.take_length] at hO
      (try ((first | with_reducible refine zk ?_ | with_reducible refine zm ?_ | with_reducible refine zo ?_); simp [-cellOK, a0, a3, a6, a7, za0])); repeat' (first | ((first | refine zd ?_ | refine zh ?_ | refine dN (by decide +kernel) ?_ | refine dC (by decide +kernel) ?_ | (refine za ?_ ?_ <;> (intro hg; simp only [hg])) | fail) <;> simp [-cellOK, a0, a3, a6, a7, za0]) | refine zg ?_ | refine zc ?_ | (refine zs ?_; simp only [zt]; try simp) | (refine zl (by simp) ?_; simp) | (refine zx (by simp) (by simp [noIds]) (by repeat (first | assumption | exact Ext.refl _ | refine zu ?_ | refine Ext.setF ?_ (by first | assumption | (simp [ze, St.set, zf]; done) | exact zp (by assumption)))) ?_; simp [-cellOK, a0, a3, a6, a7, za0, zL]) | (refine zb (fun hc => ?_) (fun hc => ?_) <;> try simp at hc) | fail)
      exact hR1 _ _ ⟨by simp [a6]; exact hO, hE, by simp [a3]⟩
  · rintro B ρ ⟨hO, hE, a3⟩
    refine zgg 6 hO hE ?_
    intro A' τ' hE a6 k1 _ _ _ _
    have a3 := (k1 3 (by decide) (by rw [a3]; rfl)).trans a3
    have a6 : A' 6 = zN (zaw (l.map (·.1))) false := a6
    clear hO k1
    have hc := zku (zaw (l.map (·.1))) false hrgok (by omega)
    have hrg : ∀ x ∈ zaZ (zaw (l.map (·.1))), 0 ≤ x ∧ x < 4294967296 := fun x hx => (zbo _).range hrgok hx
    have hcl := zha (zaw (l.map (·.1)))
    have he := fun (i : Nat) (h : i < 2 ^ 60) => zlC (zaZ (zaw (l.map (·.1)))) false i (by omega) h fun x hx => by have := hrg x hx; omega
    have hs := (zbo (zaw (l.map (·.1)))).srt
    generalize zaw (l.map (·.1)) = L at *
    generalize zaZ L = c at *
    obtain ⟨r1, r2, r3, r4⟩ := hr
    (try ((first | with_reducible refine zk ?_ | with_reducible refine zm ?_ | with_reducible refine zo ?_); simp [-cellOK, a3, a6])); repeat' (first | ((first | refine zd ?_ | refine zh ?_ | refine dN (by decide +kernel) ?_ | refine dC (by decide +kernel) ?_ | refine uP (hc) ?_ | refine .inl ⟨_, .inl (hc), ?_⟩ | (refine za ?_ ?_ <;> (intro hg; simp only [hg])) | fail) <;> simp [-cellOK, a3, a6]) | refine zg ?_ | refine zc ?_ | (refine zs ?_; simp only [zt]; try simp) | (refine zl (by simp) ?_; simp) | (refine zx (by simp) (by simp [noIds]) (by repeat (first | assumption | exact Ext.refl _ | refine zu ?_ | refine Ext.setF ?_ (by first | assumption | (simp [ze, St.set, zf]; done) | exact zp (by assumption)))) ?_; simp [-cellOK, a3, a6, zL]) | (refine zb (fun hc => ?_) (fun hc => ?_) <;> try simp at hc) | fail)
    refine zab (fun n' B ρ => Ext σ ρ ∧ B 3 = .pp [.raw (.int .u32 r.lo), .raw (.int .u32 r.hi)] 0 ∧ B 8 = zq c false ∧ ∃ (i : Nat) (v : AV), B 10 = .raw (.int .i64 i) ∧ i ≤ c.length ∧ n' = c.length - i ∧ B 9 = v ∧ OwnL σ ρ 2 v ((((zbc c).take i).filterMap (zby r)).map zat)) c.length ?_ ?_
    · exact ⟨hE, by simp [a3], by simp, 0, .sl 0 [] true, by simp, by omega, by omega, by simp, .inl ⟨by simp, rfl⟩⟩
    clear a3 a6 hE
    rintro n' B ρ ⟨hE, a3, a8, i, v, a10, hi, rfl, a9, hO⟩ I1 hI1
    by_cases hlt : i < c.length
    · have hx : c[i]? = some c[i] := List.getElem?_eq_getElem hlt
      have w1 : IntKind.i64.wrap ((i : Int) + 1) = ((i + 1 : Nat) : Int) := by rw [zU (by omega) (by omega)]; omega
      have hend := he i (by omega)
      have hxr := hrg c[i] (List.getElem_mem hlt)
      obtain ⟨x, hxe⟩ : ∃ x, c[i] = x := ⟨_, rfl⟩
      rw [hxe] at hxr
      have hyr : 0 ≤ zih c i ∧ zih c i < 4294967296 := by
        unfold zih
        cases hy : c[i + 1]? with
        | none => simp only; omega
        | some y =>
          obtain ⟨h2, rfl⟩ := List.getElem?_eq_some_iff.1 hy
          have := hrg c[i + 1] (List.getElem_mem h2)
          simp only
          have h3 := List.pairwise_iff_getElem.1 hs i (i + 1) hlt h2 (by omega)
          rw [hxe] at h3
          omega
      have htk : ((zbc c).take (i + 1)).filterMap (zby r) = ((zbc c).take i).filterMap (zby r) ++ (zby r ⟨x, zih c i⟩).toList := by
        rw [List.take_add_one, znX, hx, hxe, List.filterMap_append]
        congr 1
      have hcl2 : (((zbc c).take i).filterMap (zby r)).length ≤ c.length := by
        refine Nat.le_trans (List.length_filterMap_le _ _) ?_
        rw [List.length_take]; omega
      generalize zih c i = y at *
      have v1 : IntKind.i64.wrap r.lo = r.lo := zU (by omega) (by omega)
      have v2 : IntKind.i64.wrap r.hi = r.hi := zU (by omega) (by omega)
      obtain ⟨m1, hm1⟩ : ∃ m, max x r.lo = m := ⟨_, rfl⟩
      obtain ⟨m2, hm2⟩ : ∃ m, min y r.hi = m := ⟨_, rfl⟩
      have u1 : (if x < r.lo then r.lo else x) = m1 := by rw [← hm1]; split <;> omega
      have u2 : (if r.hi < y then r.hi else y) = m2 := by rw [← hm2]; split <;> omega
      have w2 : IntKind.u32.wrap m1 = m1 := zfK (by omega) (by omega)
      by_cases hle : m1 ≤ m2
      · have w3 : IntKind.u32.wrap m2 = m2 := zfK (by omega) (by omega)
        have hco : zby r ⟨x, y⟩ = some ⟨m1, m2⟩ := by unfold zby; simp only [hm1, hm2]; rw [if_pos hle]
        rw [hco] at htk
        (try ((first | with_reducible refine zk ?_ | with_reducible refine zm ?_ | with_reducible refine zo ?_); simp [-cellOK, zq, iAV, a3, a8, a9, a10, hlt, hx, hxe, v1, v2, u1, u2, w2, w3, hle, zz, zA, ze, -zO])); repeat' (first | ((first | refine zd ?_ | refine zh ?_ | refine dN (by decide +kernel) ?_ | refine dC (by decide +kernel) ?_ | refine uP (hend) ?_ | refine .inl ⟨_, .inl (hend), ?_⟩ | (refine za ?_ ?_ <;> (intro hg; simp only [hg])) | fail) <;> simp [-cellOK, zq, iAV, a3, a8, a9, a10, hlt, hx, hxe, v1, v2, u1, u2, w2, w3, hle, zz, zA, ze, -zO]) | refine zg ?_ | refine zc ?_ | (refine zs ?_; simp only [zt]; try simp) | (refine zb (fun hc => ?_) (fun hc => ?_) <;> try simp at hc) | fail)
        refine zaV zky (σ0 := σ) (hO.ext (by repeat (first | assumption | exact Ext.refl _ | refine zu ?_ | refine Ext.setF ?_ (by first | assumption | (simp [ze, St.set, zf]; done) | exact zp (by assumption))))) (by repeat (first | assumption | exact Ext.refl _ | refine zu ?_ | refine Ext.setF ?_ (by first | assumption | (simp [ze, St.set, zf]; done) | exact zp (by assumption)))) (ys := [zat ⟨m1, m2⟩]) (by simp [zz, ze, zT, zat]) (.inr rfl) (by simp [zat, zV, zaE, cellOK, AV.cells]) (by rw [List.length_map]; simp only [List.length_cons, List.length_nil]; omega) ?_
        intro v' τ' hO' hE' _ _
        (try ((first | with_reducible refine zk ?_ | with_reducible refine zm ?_ | with_reducible refine zo ?_); simp [-cellOK, a3, a8, a9, a10, w1])); repeat' (first | ((first | refine zd ?_ | refine zh ?_ | refine dN (by decide +kernel) ?_ | refine dC (by decide +kernel) ?_ | (refine za ?_ ?_ <;> (intro hg; simp only [hg])) | fail) <;> simp [-cellOK, a3, a8, a9, a10, w1]) | refine zg ?_ | refine zc ?_ | (refine zs ?_; simp only [zt]; try simp) | (refine zl (by simp) ?_; simp) | (refine zx (by simp) (by simp [noIds]) (by repeat (first | assumption | exact Ext.refl _ | refine zu ?_ | refine Ext.setF ?_ (by first | assumption | (simp [ze, St.set, zf]; done) | exact zp (by assumption)))) ?_; simp [-cellOK, a3, a8, a9, a10, w1, zL]) | (refine zb (fun hc => ?_) (fun hc => ?_) <;> try simp at hc) | fail)
        refine hI1 (c.length - (i + 1)) _ _ (by omega) ⟨hE', by simp [a3], by simp [a8], i + 1, v', by simp, by omega, rfl, by simp, ?_⟩
        rw [htk, List.map_append]
        exact hO'
      · have hco : zby r ⟨x, y⟩ = none := by unfold zby; simp only [hm1, hm2]; rw [if_neg hle]
        rw [hco] at htk
        (try ((first | with_reducible refine zk ?_ | with_reducible refine zm ?_ | with_reducible refine zo ?_); simp [-cellOK, zq, iAV, a3, a8, a9, a10, hlt, hx, hxe, v1, v2, u1, u2, hle, w1, zz, zA, ze])); repeat' (first | ((first | refine zd ?_ | refine zh ?_ | refine dN (by decide +kernel) ?_ | refine dC (by decide +kernel) ?_ | refine uP (hend) ?_ | refine .inl ⟨_, .inl (hend), ?_⟩ | (refine za ?_ ?_ <;> (intro hg; simp only [hg])) | fail) <;> simp [-cellOK, zq, iAV, a3, a8, a9, a10, hlt, hx, hxe, v1, v2, u1, u2, hle, w1, zz, zA, ze]) | refine zg ?_ | refine zc ?_ | (refine zs ?_; simp only [zt]; try simp) | (refine zl (by simp) ?_; simp) | (refine zx (by simp) (by simp [noIds]) (by repeat (first | assumption | exact Ext.refl _ | refine zu ?_ | refine Ext.setF ?_ (by first | assumption | (simp [ze, St.set, zf]; done) | exact zp (by assumption)))) ?_; simp [-cellOK, zq, iAV, a3, a8, a9, a10, hlt, hx, hxe, v1, v2, u1, u2, hle, w1, zz, zA, ze, zL]) | (refine zb (fun hc => ?_) (fun hc => ?_) <;> try simp at hc) | fail)
        refine hI1 (c.length - (i + 1)) _ _ (by omega) ⟨hE, by simp [a3], by simp [a8, zq, iAV], i + 1, v, by simp, by omega, rfl, by simp [a9], ?_⟩
        rw [htk]; simpa using hO
    · have : i = c.length := by omega
      subst this
      rw [List.take_of_length_le (by rw [zdd]; omega)] at hO
      (try ((first | with_reducible refine zk ?_ | with_reducible refine zm ?_ | with_reducible refine zo ?_); simp [-cellOK, zq, a3, a8, a9, a10])); repeat' (first | ((first | refine zd ?_ | refine zh ?_ | refine dN (by decide +kernel) ?_ | refine dC (by decide +kernel) ?_ | (refine za ?_ ?_ <;> (intro hg; simp only [hg])) | fail) <;> simp [-cellOK, zq, a3, a8, a9, a10]) | refine zg ?_ | refine zc ?_ | (refine zs ?_; simp only [zt]; try simp) | (refine zb (fun hc => ?_) (fun hc => ?_) <;> try simp at hc) | fail)
      exact zjW (.inr rfl) (by simp [a9]) hO hE
end Go.Proofs.YtanimmdlgmkmkaaGreat.Av
namespace Go.Proofs.YtanimmdlgmkmkaaGreat.Av
open Go
set_option linter.unusedSimpArgs false
set_option linter.unusedVariables false
set_option maxRecDepth 100000
set_option maxHeartbeats 4000000
set_option pp.maxSteps 600
theorem Ext.delF {σ τ : St} {i : Id} (h : Ext σ τ) (hi : σ.m i = none) : Ext σ (τ.del i) :=
  ⟨fun j o hj => by rw [zag (fun e => by rw [e, hi] at hj; cases hj)]; exact h.m j o hj, h.nx⟩
theorem zhn {q : Qy} (h : q.kind ≠ 5) (t u u' : Tk) : zaz q t u = zaz q t u' := by
  unfold zaz
  rw [if_neg h, if_neg h]
theorem zjk {n : Nw} (h : zar n = true) (r : Rg) : zbZ [n, n] r = zbZ [n] r := by
  rw [zfA (by simp [h]) (by simp), zfA (by simp [h]) (by simp)]
  have : zaZ (zaw [n, n]) = zaZ (zaw [n]) := zlD fun r => by simp [zaw]
  rw [this]
theorem zjl {n : Nw} {q : Qy} (h : zaS n q = true) : 0 ≤ q.kind ∧ q.kind ≤ 5 := by
  unfold zaS at h
  simp only [Bool.and_eq_true, Bool.not_eq_true', Bool.or_eq_false_iff, decide_eq_false_iff_not] at h
  omega
theorem zho (n m : Nw) (f g : Fl) (q : Qy) (hn : NwOK n) (hm : NwOK m) (rn : zar n = true) (rm : zar m = true) (hq : RgOK q.r) :
    PCalls Tryz.prog 18 [z7 n f, z7 m g, zaH q] (.tup [zb9 (zdl n m q).1 false, .raw (.int .i64 (zdl n m q).2)]) := by
  have hr := zjh n f q
  have hs := zkt n.t m.t f g (by have := hn.ports; omega) (by have := hm.ports; omega) (by have := hn.links; omega) (by have := hm.links; omega)
  have hso := zdw n f q hn.ports
  refine zK Tryz.func18 rfl (N := 117) rfl rfl (by simp) (by simp [noIds]) fun σ => ?_
  repeat (refine zg ?_)
  refine zh ?_
  simp [-cellOK, zr, zv]
  generalize hA0 : put 117 _ _ _ = A0
  have c3 : A0 3 = .rp ⟨3, σ.nx 3, 3⟩ 0 0 := by rw [← hA0]; simp [ze]
  have c4 : A0 4 = .rp ⟨4, σ.nx 4, 3⟩ 0 0 := by rw [← hA0]; simp [ze]
  have c5 : A0 5 = .rp ⟨5, σ.nx 5, 7⟩ 0 0 := by rw [← hA0]; simp [ze]
  have c6 : A0 6 = .rp ⟨6, σ.nx 6, 7⟩ 0 0 := by rw [← hA0]; simp [ze]
  clear hA0
  refine zY ⟨3, σ.nx 3, 3⟩ ?_
  refine zY ⟨4, σ.nx 4, 3⟩ ?_
  refine zY ⟨5, σ.nx 5, 7⟩ ?_
  generalize hAA : (fun t => zD _ _ _) = A
  have a3 : A 3 = .pp (z7 n f).cells 0 := by
    rw [← hAA]
    show zD _ _ (zD _ _ (zD _ _ (A0 3))) = _
    rw [c3, za3 (es := [z7 n f]) (e := z7 n f) (by simp [St.del]) (by simp [St.new, St.set]) rfl]; rfl
  have a4 : A 4 = .pp (z7 m g).cells 0 := by
    rw [← hAA]
    show zD _ _ (zD _ _ (zD _ _ (A0 4))) = _
    rw [c4, zaL (by simp), za3 (es := [z7 m g]) (e := z7 m g) (by simp [St.del]) (by simp [St.new, St.set, St.del]) rfl]; rfl
  have a5 : A 5 = .pp (zaH q).cells 0 := by
    rw [← hAA]
    show zD _ _ (zD _ _ (zD _ _ (A0 5))) = _
    rw [c5, zaL (by simp), zaL (by simp), za3 (es := [zaH q]) (e := zaH q) (by simp [St.del]) (by simp [St.new, St.set, St.del]) rfl]
  have a6 : A 6 = .rp ⟨6, σ.nx 6, 7⟩ 0 0 := by
    rw [← hAA]
    show zD _ _ (zD _ _ (zD _ _ (A0 6))) = _
    rw [c6, zaL (by simp), zaL (by simp), zaL (by simp)]
  generalize hτ : St.del _ _ = τ
  have m6 : τ.m ⟨6, σ.nx 6, 7⟩ = some (.buf [.agg [.raw (.bool false), .raw (.int .i64 0), .raw (.int .u32 0), .sl 0 [] true, .raw (.int .i64 0), .raw (.int .i64 0), .raw (.int .i64 0)]]) := by rw [← hτ]; simp [St.new, St.del]
  have hE : Ext σ τ := by
    rw [← hτ]
    refine ⟨fun i o h => ?_, fun s => ?_⟩
    · have q1 : i ≠ ⟨3, σ.nx 3, 3⟩ := fun e => by rw [e, zf] at h; cases h
      have q2 : i ≠ ⟨4, σ.nx 4, 3⟩ := fun e => by rw [e, zf] at h; cases h
      have q3 : i ≠ ⟨5, σ.nx 5, 7⟩ := fun e => by rw [e, zf] at h; cases h
      have q4 : i ≠ ⟨6, σ.nx 6, 7⟩ := fun e => by rw [e, zf] at h; cases h
      simp [St.del, St.new, q1, q2, q3, q4, h]
    · simp only [St.del, St.new]
      repeat' split
      all_goals omega
  clear hτ hAA c3 c4 c5 c6
  have f6 : σ.m ⟨6, σ.nx 6, 7⟩ = none := zf _ _ _
  obtain ⟨i6, hi6⟩ : ∃ i, (⟨6, σ.nx 6, 7⟩ : Id) = i := ⟨_, rfl⟩
  have s6 : i6.sz = 7 := by rw [← hi6]
  rw [hi6] at a6 m6 f6
  clear hi6
  have htf : ∀ (N : Nw) (F : Fl), AV.agg [zq N.t.ports F.p, zy N.t.links F.l] = zaT N.t F := fun _ _ => rfl
  have bad : ∀ {B : zQ} {ρ : St}, Ext σ ρ → zbj Tryz.prog ρ.m B Tryz.f18.results = some (.tup [.agg [.raw (.bool false), .raw (.int .i64 0), .raw (.int .u32 0), .sl 0 [] true, .raw (.int .i64 0), .raw (.int .i64 0), .raw (.int .i64 0)], .raw (.int .i64 121)]) → RetP Tryz.prog Tryz.f18 σ (.tup [zb9 ⟨false, 0, 0, zc2⟩ false, .raw (.int .i64 121)]) .ret B ρ := fun hE h =>
    zcF (.inr rfl) hE h (by simpa [zak, zD] using zj4 false 121)
  unfold zdl
  cases hrb : zaS n q with
  | false =>
    rw [hrb] at hr
    rw [if_pos (.inl rfl)]
    (try ((first | with_reducible refine zk ?_ | with_reducible refine zm ?_ | with_reducible refine zo ?_); simp [-cellOK, a3, a4, a5, a6, zr, zC, zv, zB, m6])); repeat' (first | ((first | refine zd ?_ | refine zh ?_ | refine dN (by decide +kernel) ?_ | refine dC (by decide +kernel) ?_ | refine uP (hr) ?_ | refine .inl ⟨_, .inl (hr), ?_⟩ | (refine za ?_ ?_ <;> (intro hg; simp only [hg])) | fail) <;> simp [-cellOK, a3, a4, a5, a6, zr, zC, zv, zB, m6]) | refine zg ?_ | refine zc ?_ | (refine zs ?_; simp only [zt]; try simp) | (refine zb (fun hc => ?_) (fun hc => ?_) <;> try simp at hc) | fail)
    exact bad (by repeat (first | assumption | exact Ext.refl _ | refine zu ?_ | refine Ext.setF ?_ (by first | assumption | (simp [ze, St.set, zf]; done) | exact zp (by assumption)))) (by simp [zA, m6, a6])
  | true =>
  have hkk := zjl hrb
  rw [hrb] at hr
  obtain ⟨M, hM⟩ : ∃ M, (if q.kind = 5 then m else n) = M := ⟨_, rfl⟩
  obtain ⟨G, hG⟩ : ∃ G, (if q.kind = 5 then g else f) = G := ⟨_, rfl⟩
  have hMok : NwOK M := by rw [← hM]; split <;> assumption
  have hMr : zar M = true := by rw [← hM]; split <;> assumption
  by_cases hbad : q.kind = 5 ∧ n.t ≠ m.t
  · rw [if_pos (.inr hbad)]
    obtain ⟨k5, hne⟩ := hbad
    have k5 := eq_true k5
    rw [decide_eq_false hne] at hs
    (try ((first | with_reducible refine zk ?_ | with_reducible refine zm ?_ | with_reducible refine zo ?_); simp [-cellOK, a3, a4, a5, a6, zr, zC, zv, zB, m6, k5, htf, zz, zA, ze])); repeat' (first | ((first | refine zd ?_ | refine zh ?_ | refine dN (by decide +kernel) ?_ | refine dC (by decide +kernel) ?_ | refine uP (hr) ?_ | refine .inl ⟨_, .inl (hr), ?_⟩ | refine uP (hs) ?_ | refine .inl ⟨_, .inl (hs), ?_⟩ | (refine za ?_ ?_ <;> (intro hg; simp only [hg])) | fail) <;> simp [-cellOK, a3, a4, a5, a6, zr, zC, zv, zB, m6, k5, htf, zz, zA, ze]) | refine zg ?_ | refine zc ?_ | (refine zs ?_; simp only [zt]; try simp) | (refine zb (fun hc => ?_) (fun hc => ?_) <;> try simp at hc) | fail)
    exact bad (by repeat (first | assumption | exact Ext.refl _ | refine zu ?_ | refine Ext.setF ?_ (by first | assumption | (simp [ze, St.set, zf]; done) | exact zp (by assumption)))) (by simp [zA, zz, ze, m6, a6])
  rw [if_neg (by simp [hbad]), hM]
  have hPl := zlk [n, M] q.r
  have hSl : (zX n q).length < 2 ^ 45 := by
    have := hn.ports
    unfold zX
    split
    · simp
    · simp; omega
  have n6 : ∀ s k z, ¬ z = 7 → (i6 = (⟨s, k, z⟩ : Id)) = False := fun s k z h => eq_false fun e => h (by rw [e] at s6; exact s6)
  have hrgf : AV.agg [.raw (.int .u32 q.r.lo), .raw (.int .u32 q.r.hi)] = zat q.r := rfl
  by_cases k5 : q.kind = 5
  focus
    have hcut := zdZ [(n, f), (m, g)] false q.r hq (by simp [hn, hm]) (by simp [rn, rm]) (by simp)
    simp only [List.map_cons, List.map_nil] at hcut
    have e1 : m = M := by rw [← hM, if_pos k5]
    have e2 : g = G := by rw [← hG, if_pos k5]
    have hsame : n.t = m.t := Classical.byContradiction fun h => hbad ⟨k5, h⟩
    rw [decide_eq_true hsame] at hs
    have hb' := fun (d x : Int) h1 h2 => zcV q (zaD n d x).1 (zaD M d x).1 false false hkk h1 h2
    rw [e1] at hcut
    generalize (if q.r.hi < q.r.lo then (31 : Int) else 0) = ce at hcut
    generalize hPP : zbZ [n, M] q.r = P at hcut hPl ⊢
    generalize zX n q = Sq at hso hSl ⊢
    have k5 := eq_true k5
    have n6a := n6 29 (τ.nx 29) 3 (by decide)
    have n6b := n6 43 (τ.nx 43) 3 (by decide)
    have n6c := n6 44 (τ.nx 44) 3 (by decide)
    (try ((first | with_reducible refine zk ?_ | with_reducible refine zm ?_ | with_reducible refine zo ?_); simp [-cellOK, a3, a4, a5, a6, zr, zC, zv, zB, m6, k5, htf, zz, ze])); repeat' (first | ((first | refine zd ?_ | refine zh ?_ | refine dN (by decide +kernel) ?_ | refine dC (by decide +kernel) ?_ | refine uP (hr) ?_ | refine .inl ⟨_, .inl (hr), ?_⟩ | refine uP (hs) ?_ | refine .inl ⟨_, .inl (hs), ?_⟩ | (refine za ?_ ?_ <;> (intro hg; simp only [hg])) | fail) <;> simp [-cellOK, a3, a4, a5, a6, zr, zC, zv, zB, m6, k5, htf, zz, ze]) | refine zg ?_ | refine zc ?_ | (refine zs ?_; simp only [zt]; try simp) | (refine zl (by simp) ?_; simp) | (refine zx (by simp) (by simp [noIds]) (by repeat (first | assumption | exact Ext.refl _ | refine zu ?_ | refine Ext.setF ?_ (by first | assumption | (simp [ze, St.set, zf]; done) | exact zp (by assumption)))) ?_; simp [-cellOK, a3, a4, a5, a6, zr, zC, zv, zB, m6, k5, htf, zz, ze, zL]) | (refine zb (fun hc => ?_) (fun hc => ?_) <;> try simp at hc) | fail)
    have hE1 : Ext σ ((((τ.new 29 3 (.buf [z7 n f])).new 43 3 (.buf [z7 m g])).del ⟨29, τ.nx 29, 3⟩).new 44 3 (.buf [z7 n f, z7 m g])) := zu (Ext.delF (zu (zu hE)) (zp hE))
    refine hcut.useFz (σ0 := σ) ⟨44, τ.nx 44, 3⟩ (zp hE) hE1 (by simp [zD, zz, ze, St.del, za0, hrgf, e1]; rfl) ?_
    intro τ2 hE2 hk2 _
    have g6 := hk2 i6 _ (fun e => by rw [e] at s6; cases s6) (show _ = some (Ob.buf [.agg [.raw (.bool false), .raw (.int .i64 0), .raw (.int .u32 0), .sl 0 [] true, .raw (.int .i64 0), .raw (.int .i64 0), .raw (.int .i64 0)]]) by simp [zz, ze, St.del, n6, m6])
    obtain ⟨X4, hX4⟩ : ∃ X, X = AV.pp (z7 M G).cells 0 := ⟨_, rfl⟩
    have hX5 := hX4
    rw [e1, e2, ← hX4] at a4
    clear hE1 hX4
  rotate_left
  focus
    have hcut := zdZ [(n, f)] false q.r hq (by simp [hn]) (by simp [rn]) (by simp)
    simp only [List.map_cons, List.map_nil] at hcut
    have e1 : M = n := by rw [← hM, if_neg k5]
    have hb' : ∀ (d x : Int), (zaD n d x).1.path.length < 2 ^ 60 → (zaD M d x).1.path.length < 2 ^ 60 → PCalls Tryz.prog 70 [zaH q, zbb (zaD n d x).1 false, zbb (zaD n d x).1 false] (.raw (.bool (zaz q (zaD n d x).1 (zaD M d x).1))) := fun d x h1 h2 => by
      rw [zhn k5 _ _ (zaD n d x).1]
      exact zcV q (zaD n d x).1 (zaD n d x).1 false false hkk h1 h1
    have hPe : zbZ [n, M] q.r = zbZ [n] q.r := by rw [e1]; exact zjk rn q.r
    rw [← hPe] at hcut
    generalize (if q.r.hi < q.r.lo then (31 : Int) else 0) = ce at hcut
    generalize hPP : zbZ [n, M] q.r = P at hcut hPl ⊢
    generalize zX n q = Sq at hso hSl ⊢
    have k5 := eq_false k5
    (try ((first | with_reducible refine zk ?_ | with_reducible refine zm ?_ | with_reducible refine zo ?_); simp [-cellOK, a3, a4, a5, a6, zr, zC, zv, zB, m6, k5, htf, zz, ze])); repeat' (first | ((first | refine zd ?_ | refine zh ?_ | refine dN (by decide +kernel) ?_ | refine dC (by decide +kernel) ?_ | refine uP (hr) ?_ | refine .inl ⟨_, .inl (hr), ?_⟩ | refine uP (hs) ?_ | refine .inl ⟨_, .inl (hs), ?_⟩ | (refine za ?_ ?_ <;> (intro hg; simp only [hg])) | fail) <;> simp [-cellOK, a3, a4, a5, a6, zr, zC, zv, zB, m6, k5, htf, zz, ze]) | refine zg ?_ | refine zc ?_ | (refine zs ?_; simp only [zt]; try simp) | (refine zl (by simp) ?_; simp) | (refine zx (by simp) (by simp [noIds]) (by repeat (first | assumption | exact Ext.refl _ | refine zu ?_ | refine Ext.setF ?_ (by first | assumption | (simp [ze, St.set, zf]; done) | exact zp (by assumption)))) ?_; simp [-cellOK, a3, a4, a5, a6, zr, zC, zv, zB, m6, k5, htf, zz, ze, zL]) | (refine zb (fun hc => ?_) (fun hc => ?_) <;> try simp at hc) | fail)
    refine hcut.useFz (σ0 := σ) ⟨29, τ.nx 29, 3⟩ (zp hE) (zu hE) (by simp [zD, zz, ze, St.del, za0, hrgf]; rfl) ?_
    intro τ2 hE2 hk2 _
    have g6 := hk2 i6 _ (fun e => by rw [e] at s6; cases s6) (show _ = some (Ob.buf [.agg [.raw (.bool false), .raw (.int .i64 0), .raw (.int .u32 0), .sl 0 [] true, .raw (.int .i64 0), .raw (.int .i64 0), .raw (.int .i64 0)]]) by simp [zz, ze, n6, m6])
    obtain ⟨X4, hX4⟩ : ∃ X, X = AV.pp (z7 m g).cells 0 := ⟨_, rfl⟩
    have hX5 : True := trivial
    rw [← hX4] at a4
    clear hX4
  all_goals
    rw [zaB] at g6
    obtain ⟨R0, hR0⟩ : ∃ R0, zcU n M q P Sq = R0 := ⟨_, rfl⟩
    rw [hR0]
    (try ((first | with_reducible refine zk ?_ | with_reducible refine zm ?_ | with_reducible refine zo ?_); simp [-cellOK, a3, a4, a5, a6, g6, zr, zC, zv, zB, zN])); repeat' (first | ((first | refine zd ?_ | refine zh ?_ | refine dN (by decide +kernel) ?_ | refine dC (by decide +kernel) ?_ | refine uP (hso) ?_ | refine .inl ⟨_, .inl (hso), ?_⟩ | (refine za ?_ ?_ <;> (intro hg; simp only [hg])) | fail) <;> simp [-cellOK, a3, a4, a5, a6, g6, zr, zC, zv, zB, zN]) | refine zg ?_ | refine zc ?_ | (refine zs ?_; simp only [zt]; try simp) | (refine zl (by simp) ?_; simp) | (refine zx (by simp) (by simp [noIds]) (by repeat (first | assumption | exact Ext.refl _ | refine zu ?_ | refine Ext.setF ?_ (by first | assumption | (simp [ze, St.set, zf]; done) | exact zp (by assumption)))) ?_; simp [-cellOK, a3, a4, a5, a6, g6, zr, zC, zv, zB, zN, zL]) | (refine zb (fun hc => ?_) (fun hc => ?_) <;> try simp at hc) | fail)
    refine zab (fun n' B ρ => Ext σ ρ ∧ B 3 = .pp (z7 n f).cells 0 ∧ B 4 = X4 ∧ B 5 = .pp (zaH q).cells 0 ∧ B 6 = .rp i6 0 0 ∧ ρ.m i6 = some (.buf [zcv]) ∧ B 11 = zN P false ∧ B 13 = zq Sq false ∧ ∃ i : Nat, B 14 = .raw (.int .i64 i) ∧ i ≤ Sq.length ∧ n' = Sq.length - i ∧ zcU n M q P (Sq.drop i) = R0) Sq.length ?_ ?_
    · exact ⟨(by repeat (first | assumption | exact Ext.refl _ | refine zu ?_ | refine Ext.setF ?_ (by first | assumption | (simp [ze, St.set, zf]; done) | exact zp (by assumption)))), by simp [a3], by simp [a4], by simp [a5], by simp [a6], g6, by simp [zN], by simp [zq], 0, by simp, by omega, by omega, by simpa using hR0⟩
    clear a3 a4 a5 a6 g6 m6 hE2 hE hk2 hR0
    rintro n' B ρ ⟨hE, a3, a4, a5, a6, m6, a11, a13, i, a14, hi, rfl, hR⟩ I1 hI1
    by_cases hlt : i < Sq.length
    · have hx : Sq[i]? = some Sq[i] := List.getElem?_eq_getElem hlt
      have w1 : IntKind.i64.wrap ((i : Int) + 1) = ((i + 1 : Nat) : Int) := by rw [zU (by omega) (by omega)]; omega
      rw [List.drop_eq_getElem_cons hlt] at hR
      obtain ⟨d, hd⟩ : ∃ d, Sq[i] = d := ⟨_, rfl⟩
      rw [hd] at hR
      simp only [zcU] at hR
      (try ((first | with_reducible refine zk ?_ | with_reducible refine zm ?_ | with_reducible refine zo ?_); simp [-cellOK, a3, a4, a5, a6, a11, a13, a14, m6, hlt, hx, hd, zN, zq, iAV])); repeat' (first | ((first | refine zd ?_ | refine zh ?_ | refine dN (by decide +kernel) ?_ | refine dC (by decide +kernel) ?_ | (refine za ?_ ?_ <;> (intro hg; simp only [hg])) | fail) <;> simp [-cellOK, a3, a4, a5, a6, a11, a13, a14, m6, hlt, hx, hd, zN, zq, iAV]) | refine zg ?_ | refine zc ?_ | (refine zs ?_; simp only [zt]; try simp) | (refine zl (by simp) ?_; simp) | (refine zx (by simp) (by simp [noIds]) (by repeat (first | assumption | exact Ext.refl _ | refine zu ?_ | refine Ext.setF ?_ (by first | assumption | (simp [ze, St.set, zf]; done) | exact zp (by assumption)))) ?_; simp [-cellOK, a3, a4, a5, a6, a11, a13, a14, m6, hlt, hx, hd, zN, zq, iAV, zL]) | (refine zb (fun hc => ?_) (fun hc => ?_) <;> try simp at hc) | fail)
      refine zab (fun n' C τ => Ext σ τ ∧ C 3 = .pp (z7 n f).cells 0 ∧ C 4 = X4 ∧ C 5 = .pp (zaH q).cells 0 ∧ C 6 = .rp i6 0 0 ∧ τ.m i6 = some (.buf [zcv]) ∧ C 11 = zN P false ∧ C 13 = zq Sq false ∧ C 14 = .raw (.int .i64 i) ∧ ∃ j : Nat, C 15 = .raw (.int .i64 j) ∧ j ≤ P.length ∧ n' = P.length - j ∧ zeB n M q d (P.drop j) = zeB n M q d P) P.length ?_ ?_
      · exact ⟨(by repeat (first | assumption | exact Ext.refl _ | refine zu ?_ | refine Ext.setF ?_ (by first | assumption | (simp [ze, St.set, zf]; done) | exact zp (by assumption)))), by simp [a3], by simp [a4], by simp [a5], by simp [a6], m6, by simp [a11, zN], by simp [a13, zq], by simp [a14], 0, by simp, by omega, by omega, by simp⟩
      clear a3 a4 a5 a6 a11 a13 a14 m6 hE
      rintro n' C τ ⟨hE, a3, a4, a5, a6, m6, a11, a13, a14, j, a15, hj, rfl, hS⟩ J1 hJ1
      by_cases hjl : j < P.length
      · have hy : P[j]? = some P[j] := List.getElem?_eq_getElem hjl
        have w2 : IntKind.i64.wrap ((j : Int) + 1) = ((j + 1 : Nat) : Int) := by rw [zU (by omega) (by omega)]; omega
        rw [List.drop_eq_getElem_cons hjl] at hS
        obtain ⟨r, hr'⟩ : ∃ r, P[j] = r := ⟨_, rfl⟩
        rw [hr'] at hS
        simp only [zeB] at hS
        have h1 := zdh n f d r.lo hn rn
        have h2 := zdh M G d r.lo hMok hMr
        have l1 := zdV n d r.lo
        have l2 := zdV M d r.lo
        have l3 := hn.links
        have l4 := hMok.links
        have hb := hb' d r.lo (by omega) (by omega)
        generalize (zaD n d r.lo).1 = T at h1 hb hS
        generalize (zaD M d r.lo).1 = U at h2 hb hS
        generalize (zaD n d r.lo).2 = eT at h1
        generalize (zaD M d r.lo).2 = eU at h2
        have n6s : ∀ s k, (i6 = (⟨s, k, 4⟩ : Id)) = False := fun s k => n6 s k 4 (by decide)
        have n6t : ∀ s k, ((⟨s, k, 4⟩ : Id) = i6) = False := fun s k => eq_false fun e => by rw [← e] at s6; cases s6
        by_cases hbr : zaz q T U = true
        · rw [hbr] at hb
          rw [if_pos hbr] at hS
          rw [← hS] at hR
          simp only [] at hR
          subst hR
          (try ((first | with_reducible refine zk ?_ | with_reducible refine zm ?_ | with_reducible refine zo ?_); simp [-cellOK, a3, a4, a5, a6, a11, a13, a14, a15, hX5, k5, m6, hlt, hx, hd, hjl, hy, hr', zN, zq, iAV, zT, zr, zC, zv, zB, zG, zR, zbN, zbu, zbv, zan, zaC, zif, zau, zaN, zz, zA, ze, n6s, n6t])); repeat' (first | ((first | refine zd ?_ | refine zh ?_ | refine dN (by decide +kernel) ?_ | refine dC (by decide +kernel) ?_ | refine uP (h1) ?_ | refine .inl ⟨_, .inl (h1), ?_⟩ | refine uP (h2) ?_ | refine .inl ⟨_, .inl (h2), ?_⟩ | refine uP (hb) ?_ | refine .inl ⟨_, .inl (hb), ?_⟩ | (refine za ?_ ?_ <;> (intro hg; simp only [hg])) | fail) <;> simp [-cellOK, a3, a4, a5, a6, a11, a13, a14, a15, hX5, k5, m6, hlt, hx, hd, hjl, hy, hr', zN, zq, iAV, zT, zr, zC, zv, zB, zG, zR, zbN, zbu, zbv, zan, zaC, zif, zau, zaN, zz, zA, ze, n6s, n6t]) | refine zg ?_ | refine zc ?_ | (refine zs ?_; simp only [zt]; try simp) | (refine zl (by simp) ?_; simp) | (refine zx (by simp) (by simp [noIds]) (by repeat (first | assumption | exact Ext.refl _ | refine zu ?_ | refine Ext.setF ?_ (by first | assumption | (simp [ze, St.set, zf]; done) | exact zp (by assumption)))) ?_; simp [-cellOK, a3, a4, a5, a6, a11, a13, a14, a15, hX5, k5, m6, hlt, hx, hd, hjl, hy, hr', zN, zq, iAV, zT, zr, zC, zv, zB, zG, zR, zbN, zbu, zbv, zan, zaC, zif, zau, zaN, zz, zA, ze, n6s, n6t, zL]) | (refine zb (fun hc => ?_) (fun hc => ?_) <;> try simp at hc) | fail)
          rfl
        · have hbr : zaz q T U = false := by simpa using hbr
          rw [hbr] at hb
          rw [hbr, if_neg (by simp)] at hS
          (try ((first | with_reducible refine zk ?_ | with_reducible refine zm ?_ | with_reducible refine zo ?_); simp [-cellOK, a3, a4, a5, a6, a11, a13, a14, a15, hX5, k5, m6, hlt, hx, hd, hjl, hy, hr', zN, zq, iAV, zT, zr, zC, zv, zB, zG, zR, zbN, zbu, zbv, zz, zA, ze, n6s, n6t, w2])); repeat' (first | ((first | refine zd ?_ | refine zh ?_ | refine dN (by decide +kernel) ?_ | refine dC (by decide +kernel) ?_ | refine uP (h1) ?_ | refine .inl ⟨_, .inl (h1), ?_⟩ | refine uP (h2) ?_ | refine .inl ⟨_, .inl (h2), ?_⟩ | refine uP (hb) ?_ | refine .inl ⟨_, .inl (hb), ?_⟩ | (refine za ?_ ?_ <;> (intro hg; simp only [hg])) | fail) <;> simp [-cellOK, a3, a4, a5, a6, a11, a13, a14, a15, hX5, k5, m6, hlt, hx, hd, hjl, hy, hr', zN, zq, iAV, zT, zr, zC, zv, zB, zG, zR, zbN, zbu, zbv, zz, zA, ze, n6s, n6t, w2]) | refine zg ?_ | refine zc ?_ | (refine zs ?_; simp only [zt]; try simp) | (refine zl (by simp) ?_; simp) | (refine zx (by simp) (by simp [noIds]) (by repeat (first | assumption | exact Ext.refl _ | refine zu ?_ | refine Ext.setF ?_ (by first | assumption | (simp [ze, St.set, zf]; done) | exact zp (by assumption)))) ?_; simp [-cellOK, a3, a4, a5, a6, a11, a13, a14, a15, hX5, k5, m6, hlt, hx, hd, hjl, hy, hr', zN, zq, iAV, zT, zr, zC, zv, zB, zG, zR, zbN, zbu, zbv, zz, zA, ze, n6s, n6t, w2, zL]) | (refine zb (fun hc => ?_) (fun hc => ?_) <;> try simp at hc) | fail)
          refine hJ1 (P.length - (j + 1)) _ _ (by omega) ⟨(by repeat (first | assumption | exact Ext.refl _ | refine zu ?_ | refine Ext.setF ?_ (by first | assumption | (simp [ze, St.set, zf]; done) | exact zp (by assumption)))), by simp [a3], by simp [a4], by simp [a5], by simp [a6], ?_, by simp [a11, zN], by simp [a13, zq, iAV], by simp [a14], j + 1, by simp, by omega, rfl, hS⟩
          simp [zz, zA, ze, n6s, m6]
      · have : j = P.length := by omega
        subst this
        rw [List.drop_length] at hS
        rw [← hS] at hR
        simp only [zeB] at hR
        (try ((first | with_reducible refine zk ?_ | with_reducible refine zm ?_ | with_reducible refine zo ?_); simp [-cellOK, a3, a4, a5, a6, a11, a13, a14, a15, zN, w1])); repeat' (first | ((first | refine zd ?_ | refine zh ?_ | refine dN (by decide +kernel) ?_ | refine dC (by decide +kernel) ?_ | (refine za ?_ ?_ <;> (intro hg; simp only [hg])) | fail) <;> simp [-cellOK, a3, a4, a5, a6, a11, a13, a14, a15, zN, w1]) | refine zg ?_ | refine zc ?_ | (refine zs ?_; simp only [zt]; try simp) | (refine zl (by simp) ?_; simp) | (refine zx (by simp) (by simp [noIds]) (by repeat (first | assumption | exact Ext.refl _ | refine zu ?_ | refine Ext.setF ?_ (by first | assumption | (simp [ze, St.set, zf]; done) | exact zp (by assumption)))) ?_; simp [-cellOK, a3, a4, a5, a6, a11, a13, a14, a15, zN, w1, zL]) | (refine zb (fun hc => ?_) (fun hc => ?_) <;> try simp at hc) | fail)
        exact hI1 (Sq.length - (i + 1)) _ _ (by omega) ⟨hE, by simp [a3], by simp [a4], by simp [a5], by simp [a6], m6, by simp [a11, zN], by simp [a13], i + 1, by simp, by omega, rfl, hR⟩
    · have : i = Sq.length := by omega
      subst this
      rw [List.drop_length] at hR
      simp only [zcU] at hR
      subst hR
      (try ((first | with_reducible refine zk ?_ | with_reducible refine zm ?_ | with_reducible refine zo ?_); simp [-cellOK, a3, a4, a5, a6, a11, a13, a14, m6, zq, zan, zaC])); repeat' (first | ((first | refine zd ?_ | refine zh ?_ | refine dN (by decide +kernel) ?_ | refine dC (by decide +kernel) ?_ | (refine za ?_ ?_ <;> (intro hg; simp only [hg])) | fail) <;> simp [-cellOK, a3, a4, a5, a6, a11, a13, a14, m6, zq, zan, zaC]) | refine zg ?_ | refine zc ?_ | (refine zs ?_; simp only [zt]; try simp) | (refine zb (fun hc => ?_) (fun hc => ?_) <;> try simp at hc) | fail)
      refine zcF (x := .tup [.agg [.raw (.bool true), .raw (.int .i64 0), .raw (.int .u32 0), .sl 0 [] true, .raw (.int .i64 0), .raw (.int .i64 0), .raw (.int .i64 0)], .raw (.int .i64 0)]) (.inr rfl) (Ext.setF hE f6) ?_ ?_
      · simp [zA, m6, a6]
      · simpa [zak, zD] using zj4 true 0
end Go.Proofs.YtanimmdlgmkmkaaGreat.Av
namespace Go.Proofs.YtanimmdlgmkmkaaGreat.Av
open Go
set_option linter.unusedSimpArgs false
set_option linter.unusedVariables false
set_option maxRecDepth 100000
set_option maxHeartbeats 4000000
set_option pp.maxSteps 600
theorem zfR (n m : Nw) (f g : Fl) (q : Qy) (hn : NwOK n) (hm : NwOK m) (rn : zar n = true) (rm : zar m = true) (hq : RgOK q.r) :
    PCalls Tryz.prog 87 [z7 n f, z7 m g, zaH q] (zN (zaf n m q) false) := by
  refine zK Tryz.func87 rfl (N := 27) rfl rfl (by simp) (by simp [noIds]) fun σ => ?_
  repeat (refine zg ?_)
  refine zh ?_
  simp [-cellOK, zr, zv]
  generalize hA0 : put 27 _ _ _ = A0
  have d3 : A0 3 = .rp ⟨3, σ.nx 3, 3⟩ 0 0 := by rw [← hA0]; simp [ze]
  have d4 : A0 4 = .rp ⟨4, σ.nx 4, 3⟩ 0 0 := by rw [← hA0]; simp [ze]
  have d5 : A0 5 = .rp ⟨5, σ.nx 5, 7⟩ 0 0 := by rw [← hA0]; simp [ze]
  clear hA0
  refine zY ⟨3, σ.nx 3, 3⟩ ?_
  refine zY ⟨4, σ.nx 4, 3⟩ ?_
  refine zY ⟨5, σ.nx 5, 7⟩ ?_
  generalize hτ : St.del _ _ = τ
  generalize hA : (fun t => zD _ _ _) = A
  have a3 : A 3 = .pp (z7 n f).cells 0 := by rw [← hA, ← hτ]; simp [zD, St.new, St.del, zr, d3]
  have a4 : A 4 = .pp (z7 m g).cells 0 := by rw [← hA, ← hτ]; simp [zD, St.new, St.del, zr, d4]
  have a5 : A 5 = .pp (zaH q).cells 0 := by rw [← hA, ← hτ]; simp [zD, St.new, St.del, zr, zv, d5]
  have hE : Ext σ τ := by
    rw [← hτ]
    refine ⟨fun i o h => ?_, fun s => ?_⟩
    · have q1 : i ≠ ⟨3, σ.nx 3, 3⟩ := fun e => by rw [e, zf] at h; cases h
      have q2 : i ≠ ⟨4, σ.nx 4, 3⟩ := fun e => by rw [e, zf] at h; cases h
      have q3 : i ≠ ⟨5, σ.nx 5, 7⟩ := fun e => by rw [e, zf] at h; cases h
      simp [St.del, St.new, q1, q2, q3, h]
    · simp only [St.del, St.new]
      repeat' split
      all_goals omega
  clear hτ hA d3 d4 d5
  have hrgf : AV.agg [.raw (.int .u32 q.r.lo), .raw (.int .u32 q.r.hi)] = zat q.r := rfl
  unfold zaf
  by_cases k5 : q.kind = 5
  · have hcut := zdZ [(n, f), (m, g)] false q.r hq (by simp [hn, hm]) (by simp [rn, rm]) (by simp)
    simp only [List.map_cons, List.map_nil] at hcut
    rw [if_pos k5]
    generalize (if q.r.hi < q.r.lo then (31 : Int) else 0) = ce at hcut
    generalize zbZ [n, m] q.r = P at hcut ⊢
    have k5' := eq_true k5
    (try ((first | with_reducible refine zk ?_ | with_reducible refine zm ?_ | with_reducible refine zo ?_); simp [-cellOK, a3, a4, a5, zr, zC, zv, zB, k5', zz, ze])); repeat' (first | ((first | refine zd ?_ | refine zh ?_ | refine dN (by decide +kernel) ?_ | refine dC (by decide +kernel) ?_ | (refine za ?_ ?_ <;> (intro hg; simp only [hg])) | fail) <;> simp [-cellOK, a3, a4, a5, zr, zC, zv, zB, k5', zz, ze]) | refine zg ?_ | refine zc ?_ | (refine zs ?_; simp only [zt]; try simp) | (refine zb (fun hc => ?_) (fun hc => ?_) <;> try simp at hc) | fail)
    refine hcut.useFz (σ0 := σ) ⟨18, τ.nx 18, 3⟩ (zp hE) (zu (Ext.delF (zu (zu hE)) (zp hE))) (by simp [zD, zz, ze, St.del, za0, hrgf]; rfl) ?_
    intro τ2 hE2 hk2 _
    (try ((first | with_reducible refine zk ?_ | with_reducible refine zm ?_ | with_reducible refine zo ?_); simp [-cellOK, zN])); repeat' (first | ((first | refine zd ?_ | refine zh ?_ | refine dN (by decide +kernel) ?_ | refine dC (by decide +kernel) ?_ | (refine za ?_ ?_ <;> (intro hg; simp only [hg])) | fail) <;> simp [-cellOK, zN]) | refine zg ?_ | refine zc ?_ | (refine zs ?_; simp only [zt]; try simp) | (refine zl (by simp) ?_; simp) | (refine zx (by simp) (by simp [noIds]) (by repeat (first | assumption | exact Ext.refl _ | refine zu ?_ | refine Ext.setF ?_ (by first | assumption | (simp [ze, St.set, zf]; done) | exact zp (by assumption)))) ?_; simp [-cellOK, zN, zL]) | (refine zb (fun hc => ?_) (fun hc => ?_) <;> try simp at hc) | fail)
  · have hcut := zdZ [(n, f)] false q.r hq (by simp [hn]) (by simp [rn]) (by simp)
    simp only [List.map_cons, List.map_nil] at hcut
    rw [if_neg k5, zjk rn]
    generalize (if q.r.hi < q.r.lo then (31 : Int) else 0) = ce at hcut
    generalize zbZ [n] q.r = P at hcut ⊢
    have k5' := eq_false k5
    (try ((first | with_reducible refine zk ?_ | with_reducible refine zm ?_ | with_reducible refine zo ?_); simp [-cellOK, a3, a4, a5, zr, zC, zv, zB, k5', zz, ze])); repeat' (first | ((first | refine zd ?_ | refine zh ?_ | refine dN (by decide +kernel) ?_ | refine dC (by decide +kernel) ?_ | (refine za ?_ ?_ <;> (intro hg; simp only [hg])) | fail) <;> simp [-cellOK, a3, a4, a5, zr, zC, zv, zB, k5', zz, ze]) | refine zg ?_ | refine zc ?_ | (refine zs ?_; simp only [zt]; try simp) | (refine zb (fun hc => ?_) (fun hc => ?_) <;> try simp at hc) | fail)
    refine hcut.useFz (σ0 := σ) ⟨11, τ.nx 11, 3⟩ (zp hE) (zu hE) (by simp [zD, zz, ze, St.del, za0, hrgf]; rfl) ?_
    intro τ2 hE2 hk2 _
    (try ((first | with_reducible refine zk ?_ | with_reducible refine zm ?_ | with_reducible refine zo ?_); simp [-cellOK, zN])); repeat' (first | ((first | refine zd ?_ | refine zh ?_ | refine dN (by decide +kernel) ?_ | refine dC (by decide +kernel) ?_ | (refine za ?_ ?_ <;> (intro hg; simp only [hg])) | fail) <;> simp [-cellOK, zN]) | refine zg ?_ | refine zc ?_ | (refine zs ?_; simp only [zt]; try simp) | (refine zl (by simp) ?_; simp) | (refine zx (by simp) (by simp [noIds]) (by repeat (first | assumption | exact Ext.refl _ | refine zu ?_ | refine Ext.setF ?_ (by first | assumption | (simp [ze, St.set, zf]; done) | exact zp (by assumption)))) ?_; simp [-cellOK, zN, zL]) | (refine zb (fun hc => ?_) (fun hc => ?_) <;> try simp at hc) | fail)
end Go.Proofs.YtanimmdlgmkmkaaGreat.Av
namespace Go.Proofs.YtanimmdlgmkmkaaGreat.Av
open Go
set_option linter.unusedSimpArgs false
set_option linter.unusedVariables false
set_option maxRecDepth 100000
set_option maxHeartbeats 4000000
set_option pp.maxSteps 600
theorem znY (M : Nw) (q : Qy) (s a : Int) (t : Tk) : zaz q t (if q.kind = 5 then zaa M s a else t) = zaz q t (uOf M q s a) := by
  unfold uOf
  by_cases k : q.kind = 5
  · rw [if_pos k, if_pos k]
  · exact zhn k _ _ _
theorem zkv (n m : Nw) (f g : Fl) (q : Qy) (hn : NwOK n) (hm : NwOK m) (rn : zar n = true) (rm : zar m = true) (hq : RgOK q.r) (ha : zbz n m q = true) (hT : zcg n m q (zaf n m q) (zX n q) < 2 ^ 40) :
    PCalls Tryz.prog 33 [z7 n f, z7 m g, zaH q] (.raw (.int .i64 (zcg n m q (zaf n m q) (zX n q)))) := by
  obtain ⟨hrq, ht5⟩ := zhh.1 ha
  have hkk := zjl ((zgt n q).2 hrq)
  have hsrc := fun d (hd : d ∈ zX n q) => zhg hrq hd
  have hpa := zfR n m f g q hn hm rn rm hq
  have hso := zdw n f q hn.ports
  have hPl := zfj rn rm q
  have hSl := (zeM rn q).2
  refine zK Tryz.func33 rfl (N := 87) rfl rfl (by simp) (by simp [noIds]) fun σ => ?_
  repeat (refine zg ?_)
  refine zh ?_
  simp [-cellOK, zr, zv]
  generalize hA0 : put 87 _ _ _ = A0
  have d3 : A0 3 = .rp ⟨3, σ.nx 3, 3⟩ 0 0 := by rw [← hA0]; simp [ze]
  have d4 : A0 4 = .rp ⟨4, σ.nx 4, 3⟩ 0 0 := by rw [← hA0]; simp [ze]
  have d5 : A0 5 = .rp ⟨5, σ.nx 5, 7⟩ 0 0 := by rw [← hA0]; simp [ze]
  clear hA0
  refine zY ⟨3, σ.nx 3, 3⟩ ?_
  refine zY ⟨4, σ.nx 4, 3⟩ ?_
  refine zY ⟨5, σ.nx 5, 7⟩ ?_
  generalize hτ : St.del _ _ = τ
  generalize hA : (fun t => zD _ _ _) = A
  have a3 : A 3 = .pp (z7 n f).cells 0 := by rw [← hA, ← hτ]; simp [zD, St.new, St.del, zr, d3]
  have a4 : A 4 = .pp (z7 m g).cells 0 := by rw [← hA, ← hτ]; simp [zD, St.new, St.del, zr, d4]
  have a5 : A 5 = .pp (zaH q).cells 0 := by rw [← hA, ← hτ]; simp [zD, St.new, St.del, zr, zv, d5]
  have hE : Ext σ τ := by
    rw [← hτ]
    refine ⟨fun i o h => ?_, fun s => ?_⟩
    · have q1 : i ≠ ⟨3, σ.nx 3, 3⟩ := fun e => by rw [e, zf] at h; cases h
      have q2 : i ≠ ⟨4, σ.nx 4, 3⟩ := fun e => by rw [e, zf] at h; cases h
      have q3 : i ≠ ⟨5, σ.nx 5, 7⟩ := fun e => by rw [e, zf] at h; cases h
      simp [St.del, St.new, q1, q2, q3, h]
    · simp only [St.del, St.new]
      repeat' split
      all_goals omega
  clear hτ hA d3 d4 d5
  generalize hPP : zaf n m q = P at *
  generalize hSS : zX n q = Sq at *
  obtain ⟨tot, htot⟩ : ∃ tot, zcg n m q P Sq = tot := ⟨_, rfl⟩
  rw [htot] at hT ⊢
  (try ((first | with_reducible refine zk ?_ | with_reducible refine zm ?_ | with_reducible refine zo ?_); simp [-cellOK, a3, a4, a5, zr, zC, zv, zB, zN, zz, ze])); repeat' (first | ((first | refine zd ?_ | refine zh ?_ | refine dN (by decide +kernel) ?_ | refine dC (by decide +kernel) ?_ | refine uP (hpa) ?_ | refine .inl ⟨_, .inl (hpa), ?_⟩ | refine uP (hso) ?_ | refine .inl ⟨_, .inl (hso), ?_⟩ | (refine za ?_ ?_ <;> (intro hg; simp only [hg])) | fail) <;> simp [-cellOK, a3, a4, a5, zr, zC, zv, zB, zN, zz, ze]) | refine zg ?_ | refine zc ?_ | (refine zs ?_; simp only [zt]; try simp) | (refine zl (by simp) ?_; simp) | (refine zx (by simp) (by simp [noIds]) (by repeat (first | assumption | exact Ext.refl _ | refine zu ?_ | refine Ext.setF ?_ (by first | assumption | (simp [ze, St.set, zf]; done) | exact zp (by assumption)))) ?_; simp [-cellOK, a3, a4, a5, zr, zC, zv, zB, zN, zz, ze, zL]) | (refine zb (fun hc => ?_) (fun hc => ?_) <;> try simp at hc) | fail)
  refine zab (fun n' B ρ => Ext σ ρ ∧ B 3 = .pp (z7 n f).cells 0 ∧ B 4 = .pp (z7 m g).cells 0 ∧ B 5 = .pp (zaH q).cells 0 ∧ B 7 = zN P false ∧ B 8 = zq Sq false ∧ ∃ i u : Nat, B 10 = .raw (.int .i64 i) ∧ B 9 = .raw (.int .i64 u) ∧ i ≤ Sq.length ∧ n' = Sq.length - i ∧ u + zcg n m q P (Sq.drop i) = tot) Sq.length ?_ ?_
  · exact ⟨hE, by simp [a3], by simp [a4], by simp [a5], by simp [zN], by simp [zq], 0, 0, by simp, by simp, by omega, by omega, by simpa using htot⟩
  clear a3 a4 a5 hE htot
  rintro n' B ρ ⟨hE, a3, a4, a5, a7, a8, i, u, a10, a9, hi, rfl, hR⟩ I1 hI1
  by_cases hlt : i < Sq.length
  · have hx : Sq[i]? = some Sq[i] := List.getElem?_eq_getElem hlt
    have hdi := hsrc _ (List.getElem_mem hlt)
    have w1 : IntKind.i64.wrap ((i : Int) + 1) = ((i + 1 : Nat) : Int) := by rw [zU (by omega) (by omega)]; omega
    rw [List.drop_eq_getElem_cons hlt] at hR
    obtain ⟨d, hd⟩ : ∃ d, Sq[i] = d := ⟨_, rfl⟩
    rw [hd] at hR hdi
    simp only [zcg] at hR
    generalize hrest : zcg n m q P (Sq.drop (i + 1)) = rest at hR
    (try ((first | with_reducible refine zk ?_ | with_reducible refine zm ?_ | with_reducible refine zo ?_); simp [-cellOK, a3, a4, a5, a7, a8, a9, a10, hlt, hx, hd, zN, zq, iAV])); repeat' (first | ((first | refine zd ?_ | refine zh ?_ | refine dN (by decide +kernel) ?_ | refine dC (by decide +kernel) ?_ | (refine za ?_ ?_ <;> (intro hg; simp only [hg])) | fail) <;> simp [-cellOK, a3, a4, a5, a7, a8, a9, a10, hlt, hx, hd, zN, zq, iAV]) | refine zg ?_ | refine zc ?_ | (refine zs ?_; simp only [zt]; try simp) | (refine zl (by simp) ?_; simp) | (refine zx (by simp) (by simp [noIds]) (by repeat (first | assumption | exact Ext.refl _ | refine zu ?_ | refine Ext.setF ?_ (by first | assumption | (simp [ze, St.set, zf]; done) | exact zp (by assumption)))) ?_; simp [-cellOK, a3, a4, a5, a7, a8, a9, a10, hlt, hx, hd, zN, zq, iAV, zL]) | (refine zb (fun hc => ?_) (fun hc => ?_) <;> try simp at hc) | fail)
    refine zab (fun n' C τ => Ext σ τ ∧ C 3 = .pp (z7 n f).cells 0 ∧ C 4 = .pp (z7 m g).cells 0 ∧ C 5 = .pp (zaH q).cells 0 ∧ C 7 = zN P false ∧ C 8 = zq Sq false ∧ C 10 = .raw (.int .i64 i) ∧ ∃ j u : Nat, C 11 = .raw (.int .i64 j) ∧ C 9 = .raw (.int .i64 u) ∧ j ≤ P.length ∧ n' = P.length - j ∧ u + (zdf n m q d (P.drop j) + zdg (zbp n m q d (P.drop j)) rest) = tot) P.length ?_ ?_
    · exact ⟨hE, by simp [a3], by simp [a4], by simp [a5], by simp [a7, zN], by simp [a8, zq], by simp [a10], 0, u, by simp, by simp [a9], by omega, by omega, by simpa using hR⟩
    clear a3 a4 a5 a7 a8 a9 a10 hE hR
    rintro n' C τ ⟨hE, a3, a4, a5, a7, a8, a10, j, u, a11, a9, hj, rfl, hR⟩ J1 hJ1
    by_cases hjl : j < P.length
    · have hy : P[j]? = some P[j] := List.getElem?_eq_getElem hjl
      have w2 : IntKind.i64.wrap ((j : Int) + 1) = ((j + 1 : Nat) : Int) := by rw [zU (by omega) (by omega)]; omega
      rw [List.drop_eq_getElem_cons hjl] at hR
      obtain ⟨r, hr'⟩ : ∃ r, P[j] = r := ⟨_, rfl⟩
      rw [hr'] at hR
      simp only [zdf, zbp] at hR
      have h1 := zdh n f d r.lo hn rn
      have h2 := zdh m g d r.lo hm rm
      rw [zdu hdi] at h1
      have l1 : (zaa n d r.lo).path.length ≤ 2 + 2 * n.t.links.length := by have := zdV n d r.lo; rwa [zdu hdi] at this
      have l3 := hn.links
      have l4 := hm.links
      have hcp : zbU n m q d r.lo = (zaa n d r.lo).path.length + (if q.kind = 5 then (zaa m d r.lo).path.length else 0) := rfl
      rw [hcp] at hR
      simp only [] at h1
      have hb0 := znY m q d r.lo (zaa n d r.lo)
      by_cases k5 : q.kind = 5
      · have hdm : 0 ≤ d ∧ d < m.t.ports.length := by rw [← ht5 k5]; exact hdi
        rw [zdu hdm] at h2
        have l2 : (zaa m d r.lo).path.length ≤ 2 + 2 * m.t.links.length := by have := zdV m d r.lo; rwa [zdu hdm] at this
        rw [if_pos k5] at hR hb0
        rw [← hb0] at hR
        have hb := zcV q (zaa n d r.lo) (zaa m d r.lo) false false hkk (by omega) (by omega)
        simp only [] at h2
        clear hb0 hcp
        generalize uOf m q d r.lo = U0 at hR
        generalize zaa n d r.lo = T at *
        generalize zaa m d r.lo = U at *
        obtain ⟨u1, hu1⟩ : ∃ u1, u1 = u + T.path.length := ⟨_, rfl⟩
        obtain ⟨u2, hu2⟩ : ∃ u2, u2 = u1 + U.path.length := ⟨_, rfl⟩
        have hb9 : u2 ≤ tot := by omega
        have wu1 : IntKind.i64.wrap ((u : Int) + (T.path.length : Int)) = (u1 : Int) := by rw [zU (by omega) (by omega)]; omega
        have wu2 : IntKind.i64.wrap ((u1 : Int) + (U.path.length : Int)) = (u2 : Int) := by rw [zU (by omega) (by omega)]; omega
        have k5' := eq_true k5
        cases hbr : zaz q T U with
        | true =>
          rw [hbr] at hb
          rw [hbr, if_pos rfl, if_pos rfl] at hR
          have : u2 = tot := by simp only [zdg] at hR; omega
          subst this
          (try ((first | with_reducible refine zk ?_ | with_reducible refine zm ?_ | with_reducible refine zo ?_); simp [-cellOK, a3, a4, a5, a7, a8, a9, a10, a11, k5', hlt, hx, hd, hjl, hy, hr', zN, zq, iAV, zT, zr, zC, zv, zB, zG, zR, zbN, zbu, zbv, zz, zA, ze, wu1, wu2])); repeat' (first | ((first | refine zd ?_ | refine zh ?_ | refine dN (by decide +kernel) ?_ | refine dC (by decide +kernel) ?_ | refine uP (h1) ?_ | refine .inl ⟨_, .inl (h1), ?_⟩ | refine uP (h2) ?_ | refine .inl ⟨_, .inl (h2), ?_⟩ | refine uP (hb) ?_ | refine .inl ⟨_, .inl (hb), ?_⟩ | (refine za ?_ ?_ <;> (intro hg; simp only [hg])) | fail) <;> simp [-cellOK, a3, a4, a5, a7, a8, a9, a10, a11, k5', hlt, hx, hd, hjl, hy, hr', zN, zq, iAV, zT, zr, zC, zv, zB, zG, zR, zbN, zbu, zbv, zz, zA, ze, wu1, wu2]) | refine zg ?_ | refine zc ?_ | (refine zs ?_; simp only [zt]; try simp) | (refine zl (by simp) ?_; simp) | (refine zx (by simp) (by simp [noIds]) (by repeat (first | assumption | exact Ext.refl _ | refine zu ?_ | refine Ext.setF ?_ (by first | assumption | (simp [ze, St.set, zf]; done) | exact zp (by assumption)))) ?_; simp [-cellOK, a3, a4, a5, a7, a8, a9, a10, a11, k5', hlt, hx, hd, hjl, hy, hr', zN, zq, iAV, zT, zr, zC, zv, zB, zG, zR, zbN, zbu, zbv, zz, zA, ze, wu1, wu2, zL]) | (refine zb (fun hc => ?_) (fun hc => ?_) <;> try simp at hc) | fail)
        | false =>
          rw [hbr] at hb
          rw [hbr, if_neg (by simp), if_neg (by simp)] at hR
          (try ((first | with_reducible refine zk ?_ | with_reducible refine zm ?_ | with_reducible refine zo ?_); simp [-cellOK, a3, a4, a5, a7, a8, a9, a10, a11, k5', hlt, hx, hd, hjl, hy, hr', zN, zq, iAV, zT, zr, zC, zv, zB, zG, zR, zbN, zbu, zbv, zz, zA, ze, wu1, wu2, w2])); repeat' (first | ((first | refine zd ?_ | refine zh ?_ | refine dN (by decide +kernel) ?_ | refine dC (by decide +kernel) ?_ | refine uP (h1) ?_ | refine .inl ⟨_, .inl (h1), ?_⟩ | refine uP (h2) ?_ | refine .inl ⟨_, .inl (h2), ?_⟩ | refine uP (hb) ?_ | refine .inl ⟨_, .inl (hb), ?_⟩ | (refine za ?_ ?_ <;> (intro hg; simp only [hg])) | fail) <;> simp [-cellOK, a3, a4, a5, a7, a8, a9, a10, a11, k5', hlt, hx, hd, hjl, hy, hr', zN, zq, iAV, zT, zr, zC, zv, zB, zG, zR, zbN, zbu, zbv, zz, zA, ze, wu1, wu2, w2]) | refine zg ?_ | refine zc ?_ | (refine zs ?_; simp only [zt]; try simp) | (refine zl (by simp) ?_; simp) | (refine zx (by simp) (by simp [noIds]) (by repeat (first | assumption | exact Ext.refl _ | refine zu ?_ | refine Ext.setF ?_ (by first | assumption | (simp [ze, St.set, zf]; done) | exact zp (by assumption)))) ?_; simp [-cellOK, a3, a4, a5, a7, a8, a9, a10, a11, k5', hlt, hx, hd, hjl, hy, hr', zN, zq, iAV, zT, zr, zC, zv, zB, zG, zR, zbN, zbu, zbv, zz, zA, ze, wu1, wu2, w2, zL]) | (refine zb (fun hc => ?_) (fun hc => ?_) <;> try simp at hc) | fail)
          exact hJ1 (P.length - (j + 1)) _ _ (by omega) ⟨(by repeat (first | assumption | exact Ext.refl _ | refine zu ?_ | refine Ext.setF ?_ (by first | assumption | (simp [ze, St.set, zf]; done) | exact zp (by assumption)))), by simp [a3], by simp [a4], by simp [a5], by simp [a7, zN], by simp [a8, zq, iAV], by simp [a10], j + 1, u2, by simp, by simp, by omega, rfl, by omega⟩
      · rw [if_neg k5] at hR hb0
        rw [← hb0] at hR
        have hb := zcV q (zaa n d r.lo) (zaa n d r.lo) false false hkk (by omega) (by omega)
        clear hb0 hcp h2
        generalize uOf m q d r.lo = U0 at hR
        generalize zaa n d r.lo = T at *
        obtain ⟨u1, hu1⟩ : ∃ u1, u1 = u + T.path.length := ⟨_, rfl⟩
        have hb9 : u1 ≤ tot := by omega
        have wu1 : IntKind.i64.wrap ((u : Int) + (T.path.length : Int)) = (u1 : Int) := by rw [zU (by omega) (by omega)]; omega
        have k5' := eq_false k5
        cases hbr : zaz q T T with
        | true =>
          rw [hbr] at hb
          rw [hbr, if_pos rfl, if_pos rfl] at hR
          have : u1 = tot := by simp only [zdg] at hR; omega
          subst this
          (try ((first | with_reducible refine zk ?_ | with_reducible refine zm ?_ | with_reducible refine zo ?_); simp [-cellOK, a3, a4, a5, a7, a8, a9, a10, a11, k5', hlt, hx, hd, hjl, hy, hr', zN, zq, iAV, zT, zr, zC, zv, zB, zG, zR, zbN, zbu, zbv, zz, zA, ze, wu1])); repeat' (first | ((first | refine zd ?_ | refine zh ?_ | refine dN (by decide +kernel) ?_ | refine dC (by decide +kernel) ?_ | refine uP (h1) ?_ | refine .inl ⟨_, .inl (h1), ?_⟩ | refine uP (hb) ?_ | refine .inl ⟨_, .inl (hb), ?_⟩ | (refine za ?_ ?_ <;> (intro hg; simp only [hg])) | fail) <;> simp [-cellOK, a3, a4, a5, a7, a8, a9, a10, a11, k5', hlt, hx, hd, hjl, hy, hr', zN, zq, iAV, zT, zr, zC, zv, zB, zG, zR, zbN, zbu, zbv, zz, zA, ze, wu1]) | refine zg ?_ | refine zc ?_ | (refine zs ?_; simp only [zt]; try simp) | (refine zl (by simp) ?_; simp) | (refine zx (by simp) (by simp [noIds]) (by repeat (first | assumption | exact Ext.refl _ | refine zu ?_ | refine Ext.setF ?_ (by first | assumption | (simp [ze, St.set, zf]; done) | exact zp (by assumption)))) ?_; simp [-cellOK, a3, a4, a5, a7, a8, a9, a10, a11, k5', hlt, hx, hd, hjl, hy, hr', zN, zq, iAV, zT, zr, zC, zv, zB, zG, zR, zbN, zbu, zbv, zz, zA, ze, wu1, zL]) | (refine zb (fun hc => ?_) (fun hc => ?_) <;> try simp at hc) | fail)
        | false =>
          rw [hbr] at hb
          rw [hbr, if_neg (by simp), if_neg (by simp)] at hR
          (try ((first | with_reducible refine zk ?_ | with_reducible refine zm ?_ | with_reducible refine zo ?_); simp [-cellOK, a3, a4, a5, a7, a8, a9, a10, a11, k5', hlt, hx, hd, hjl, hy, hr', zN, zq, iAV, zT, zr, zC, zv, zB, zG, zR, zbN, zbu, zbv, zz, zA, ze, wu1, w2])); repeat' (first | ((first | refine zd ?_ | refine zh ?_ | refine dN (by decide +kernel) ?_ | refine dC (by decide +kernel) ?_ | refine uP (h1) ?_ | refine .inl ⟨_, .inl (h1), ?_⟩ | refine uP (hb) ?_ | refine .inl ⟨_, .inl (hb), ?_⟩ | (refine za ?_ ?_ <;> (intro hg; simp only [hg])) | fail) <;> simp [-cellOK, a3, a4, a5, a7, a8, a9, a10, a11, k5', hlt, hx, hd, hjl, hy, hr', zN, zq, iAV, zT, zr, zC, zv, zB, zG, zR, zbN, zbu, zbv, zz, zA, ze, wu1, w2]) | refine zg ?_ | refine zc ?_ | (refine zs ?_; simp only [zt]; try simp) | (refine zl (by simp) ?_; simp) | (refine zx (by simp) (by simp [noIds]) (by repeat (first | assumption | exact Ext.refl _ | refine zu ?_ | refine Ext.setF ?_ (by first | assumption | (simp [ze, St.set, zf]; done) | exact zp (by assumption)))) ?_; simp [-cellOK, a3, a4, a5, a7, a8, a9, a10, a11, k5', hlt, hx, hd, hjl, hy, hr', zN, zq, iAV, zT, zr, zC, zv, zB, zG, zR, zbN, zbu, zbv, zz, zA, ze, wu1, w2, zL]) | (refine zb (fun hc => ?_) (fun hc => ?_) <;> try simp at hc) | fail)
          exact hJ1 (P.length - (j + 1)) _ _ (by omega) ⟨(by repeat (first | assumption | exact Ext.refl _ | refine zu ?_ | refine Ext.setF ?_ (by first | assumption | (simp [ze, St.set, zf]; done) | exact zp (by assumption)))), by simp [a3], by simp [a4], by simp [a5], by simp [a7, zN], by simp [a8, zq, iAV], by simp [a10], j + 1, u1, by simp, by simp, by omega, rfl, by omega⟩
    · have : j = P.length := by omega
      subst this
      rw [List.drop_length] at hR
      simp only [zdf, zbp, zdg] at hR
      (try ((first | with_reducible refine zk ?_ | with_reducible refine zm ?_ | with_reducible refine zo ?_); simp [-cellOK, a3, a4, a5, a7, a8, a9, a10, a11, zN, w1])); repeat' (first | ((first | refine zd ?_ | refine zh ?_ | refine dN (by decide +kernel) ?_ | refine dC (by decide +kernel) ?_ | (refine za ?_ ?_ <;> (intro hg; simp only [hg])) | fail) <;> simp [-cellOK, a3, a4, a5, a7, a8, a9, a10, a11, zN, w1]) | refine zg ?_ | refine zc ?_ | (refine zs ?_; simp only [zt]; try simp) | (refine zl (by simp) ?_; simp) | (refine zx (by simp) (by simp [noIds]) (by repeat (first | assumption | exact Ext.refl _ | refine zu ?_ | refine Ext.setF ?_ (by first | assumption | (simp [ze, St.set, zf]; done) | exact zp (by assumption)))) ?_; simp [-cellOK, a3, a4, a5, a7, a8, a9, a10, a11, zN, w1, zL]) | (refine zb (fun hc => ?_) (fun hc => ?_) <;> try simp at hc) | fail)
      exact hI1 (Sq.length - (i + 1)) _ _ (by omega) ⟨hE, by simp [a3], by simp [a4], by simp [a5], by simp [a7, zN], by simp [a8], i + 1, u, by simp, by simp [a9], by omega, rfl, by rw [hrest]; omega⟩
  · have : i = Sq.length := by omega
    subst this
    rw [List.drop_length] at hR
    simp only [zcg] at hR
    have : u = tot := by omega
    subst this
    (try ((first | with_reducible refine zk ?_ | with_reducible refine zm ?_ | with_reducible refine zo ?_); simp [-cellOK, a3, a4, a5, a7, a8, a9, a10, zq])); repeat' (first | ((first | refine zd ?_ | refine zh ?_ | refine dN (by decide +kernel) ?_ | refine dC (by decide +kernel) ?_ | (refine za ?_ ?_ <;> (intro hg; simp only [hg])) | fail) <;> simp [-cellOK, a3, a4, a5, a7, a8, a9, a10, zq]) | refine zg ?_ | refine zc ?_ | (refine zs ?_; simp only [zt]; try simp) | (refine zl (by simp) ?_; simp) | (refine zx (by simp) (by simp [noIds]) (by repeat (first | assumption | exact Ext.refl _ | refine zu ?_ | refine Ext.setF ?_ (by first | assumption | (simp [ze, St.set, zf]; done) | exact zp (by assumption)))) ?_; simp [-cellOK, a3, a4, a5, a7, a8, a9, a10, zq, zL]) | (refine zb (fun hc => ?_) (fun hc => ?_) <;> try simp at hc) | fail)
theorem zjF (n m : Nw) (f g : Fl) (q : Qy) (hn : NwOK n) (hm : NwOK m) (rn : zar n = true) (rm : zar m = true) (hq : RgOK q.r) :
    PCalls Tryz.prog 32 [z7 n f, z7 m g, zaH q] (.raw (.int .i64 (zdY n m q))) := by
  have hrun := zho n m f g q hn hm rn rm hq
  have hpa := zfR n m f g q hn hm rn rm hq
  have hso := zdw n f q hn.ports
  have hPl := zfj rn rm q
  have hSl := (zeM rn q).2
  have hp8 := (znV rn).2
  have hvl := zmp n m q
  have hE2 : (zdl n m q).2 = if zbz n m q = true then 0 else 121 := by
    cases hab : zbz n m q with
    | true => rw [if_pos rfl, zlx hab]
    | false => rw [if_neg (by simp), znS hab]
  rw [hE2] at hrun
  unfold zdY
  generalize (zdl n m q).1 = V at hrun
  refine zK Tryz.func32 rfl (N := 45) rfl rfl (by simp) (by simp [noIds]) fun σ => ?_
  cases hab : zbz n m q with
  | false =>
    rw [hab, if_neg (by simp)] at hrun
    rw [if_neg (by simp)]
    (try ((first | with_reducible refine zk ?_ | with_reducible refine zm ?_ | with_reducible refine zo ?_); simp [-cellOK, zr, zC, zv, zB, zaB, zan, zau, zaN, zaC, zz, zA, ze])); repeat' (first | ((first | refine zd ?_ | refine zh ?_ | refine dN (by decide +kernel) ?_ | refine dC (by decide +kernel) ?_ | refine uP (hrun) ?_ | refine .inl ⟨_, .inl (hrun), ?_⟩ | (refine za ?_ ?_ <;> (intro hg; simp only [hg])) | fail) <;> simp [-cellOK, zr, zC, zv, zB, zaB, zan, zau, zaN, zaC, zz, zA, ze]) | refine zg ?_ | refine zc ?_ | (refine zs ?_; simp only [zt]; try simp) | (refine zl (by simp) ?_; simp) | (refine zx (by simp) (by simp [noIds]) (by repeat (first | assumption | exact Ext.refl _ | refine zu ?_ | refine Ext.setF ?_ (by first | assumption | (simp [ze, St.set, zf]; done) | exact zp (by assumption)))) ?_; simp [-cellOK, zr, zC, zv, zB, zaB, zan, zau, zaN, zaC, zz, zA, ze, zL]) | (refine zb (fun hc => ?_) (fun hc => ?_) <;> try simp at hc) | fail)
  | true =>
    rw [hab, if_pos rfl] at hrun
    rw [if_pos rfl]
    generalize zaf n m q = P at *
    generalize zX n q = Sq at *
    obtain ⟨A, hA⟩ : ∃ A, A = Sq.length := ⟨_, rfl⟩
    obtain ⟨B, hB⟩ : ∃ B, B = P.length := ⟨_, rfl⟩
    obtain ⟨C, hC⟩ : ∃ C, C = n.t.ports.length := ⟨_, rfl⟩
    rw [← hA, ← hB, ← hC]
    have hAB : A * B ≤ 8 * 161 := Nat.mul_le_mul (by omega) (by omega)
    have hABC : A * B * (C + 1) ≤ 8 * 161 * 9 := Nat.mul_le_mul hAB (by omega)
    have e1 : (A : Int) * B = ((A * B : Nat) : Int) := by rw [Int.natCast_mul]
    have e2 : ((A * B : Nat) : Int) * ((C : Int) + 1) = ((A * B * (C + 1) : Nat) : Int) := by rw [Int.natCast_mul (A * B)]; rfl
    have w1 : IntKind.i64.wrap ((A : Int) * (B : Int)) = (A : Int) * (B : Int) := zU (by rw [e1]; omega) (by rw [e1]; omega)
    have w2 : IntKind.i64.wrap ((C : Int) + 1) = (C : Int) + 1 := zU (by omega) (by omega)
    have w3 : IntKind.i64.wrap ((A : Int) * (B : Int) * ((C : Int) + 1)) = (A : Int) * (B : Int) * ((C : Int) + 1) := zU (by rw [e1, e2]; omega) (by rw [e1, e2]; omega)
    have w4 : IntKind.i64.wrap (2 * ((A : Int) * (B : Int) * ((C : Int) + 1))) = 2 * ((A : Int) * (B : Int) * ((C : Int) + 1)) := zU (by rw [e1, e2]; omega) (by rw [e1, e2]; omega)
    have k1 := hA.symm
    have k2 := hB.symm
    have k3 := hC.symm
    by_cases k5 : q.kind = 5
    · have k5' := eq_true k5
      rw [if_pos k5, Int.mul_comm]
      (try ((first | with_reducible refine zk ?_ | with_reducible refine zm ?_ | with_reducible refine zo ?_); simp [-cellOK, zr, zC, zv, zB, zaB, zan, zau, zaN, zaC, zN, zq, k1, k2, k3, w1, w2, w3, w4, k5', zz, zA, ze])); repeat' (first | ((first | refine zd ?_ | refine zh ?_ | refine dN (by decide +kernel) ?_ | refine dC (by decide +kernel) ?_ | refine uP (hrun) ?_ | refine .inl ⟨_, .inl (hrun), ?_⟩ | refine uP (hpa) ?_ | refine .inl ⟨_, .inl (hpa), ?_⟩ | refine uP (hso) ?_ | refine .inl ⟨_, .inl (hso), ?_⟩ | (refine za ?_ ?_ <;> (intro hg; simp only [hg])) | fail) <;> simp [-cellOK, zr, zC, zv, zB, zaB, zan, zau, zaN, zaC, zN, zq, k1, k2, k3, w1, w2, w3, w4, k5', zz, zA, ze]) | refine zg ?_ | refine zc ?_ | (refine zs ?_; simp only [zt]; try simp) | (refine zl (by simp) ?_; simp) | (refine zx (by simp) (by simp [noIds]) (by repeat (first | assumption | exact Ext.refl _ | refine zu ?_ | refine Ext.setF ?_ (by first | assumption | (simp [ze, St.set, zf]; done) | exact zp (by assumption)))) ?_; simp [-cellOK, zr, zC, zv, zB, zaB, zan, zau, zaN, zaC, zN, zq, k1, k2, k3, w1, w2, w3, w4, k5', zz, zA, ze, zL]) | (refine zb (fun hc => ?_) (fun hc => ?_) <;> try simp at hc) | fail)
    · have k5' := eq_false k5
      rw [if_neg k5]
      (try ((first | with_reducible refine zk ?_ | with_reducible refine zm ?_ | with_reducible refine zo ?_); simp [-cellOK, zr, zC, zv, zB, zaB, zan, zau, zaN, zaC, zN, zq, k1, k2, k3, w1, w2, w3, w4, k5', zz, zA, ze])); repeat' (first | ((first | refine zd ?_ | refine zh ?_ | refine dN (by decide +kernel) ?_ | refine dC (by decide +kernel) ?_ | refine uP (hrun) ?_ | refine .inl ⟨_, .inl (hrun), ?_⟩ | refine uP (hpa) ?_ | refine .inl ⟨_, .inl (hpa), ?_⟩ | refine uP (hso) ?_ | refine .inl ⟨_, .inl (hso), ?_⟩ | (refine za ?_ ?_ <;> (intro hg; simp only [hg])) | fail) <;> simp [-cellOK, zr, zC, zv, zB, zaB, zan, zau, zaN, zaC, zN, zq, k1, k2, k3, w1, w2, w3, w4, k5', zz, zA, ze]) | refine zg ?_ | refine zc ?_ | (refine zs ?_; simp only [zt]; try simp) | (refine zl (by simp) ?_; simp) | (refine zx (by simp) (by simp [noIds]) (by repeat (first | assumption | exact Ext.refl _ | refine zu ?_ | refine Ext.setF ?_ (by first | assumption | (simp [ze, St.set, zf]; done) | exact zp (by assumption)))) ?_; simp [-cellOK, zr, zC, zv, zB, zaB, zan, zau, zaN, zaC, zN, zq, k1, k2, k3, w1, w2, w3, w4, k5', zz, zA, ze, zL]) | (refine zb (fun hc => ?_) (fun hc => ?_) <;> try simp at hc) | fail)
end Go.Proofs.YtanimmdlgmkmkaaGreat.Av
namespace Go.Proofs.YtanimmdlgmkmkaaGreat.Av
open Go
set_option linter.unusedSimpArgs false
set_option linter.unusedVariables false
set_option maxRecDepth 100000
set_option maxHeartbeats 4000000
set_option pp.maxSteps 600
structure Off (σ : St) (ip : Id) (v w : AV) (τ : St) : Prop where
  ext : Ext σ τ
  ip : σ.m ip = none
  at_ : ∀ i o, σ.m i = some o → ¬ zbr v i ∧ ¬ zbr w i
theorem Off.step {σ τ ρ : St} {ip : Id} {v w v' w' : AV} (h : Off σ ip v w τ) (k : Kq ip v w v' w' τ ρ) : Off σ ip v' w' ρ := by
  have hk : ∀ i o, σ.m i = some o → ρ.m i = some o ∧ ¬ zbr v' i ∧ ¬ zbr w' i := fun i o e =>
    k.1 i o (fun q => by rw [q, h.ip] at e; cases e) (h.at_ i o e).1 (h.at_ i o e).2 (h.ext.1 i o e)
  exact ⟨⟨fun i o e => (hk i o e).1, fun s => Nat.le_trans (h.ext.2 s) (k.2 s)⟩, h.ip, fun i o e => (hk i o e).2⟩
def px1 : PB := (goP 2 (pb0 zbJ zbJ flN flN aq1) (.one [] 0)).1.1
def ph1 : Ph := (goP 2 (pb0 zbJ zbJ flN flN aq1) (.one [] 0)).1.2
def px2 : PB := (goP 100 px1 ph1).1.1
theorem zqb : zbz zbJ zbJ aq1 = true := by decide +kernel
theorem znZ : zX zbJ aq1 = [0] := by decide +kernel
theorem zn0 : ∃ r rs, zaf zbJ zbJ aq1 = r :: rs := by
  cases h : zaf zbJ zbJ aq1 with
  | nil => exact absurd h (by decide +kernel)
  | cons r rs => exact ⟨r, rs, rfl⟩
theorem zqc : (goP 2 (pb0 zbJ zbJ flN flN aq1) (.one [] 0)).2 = 2 := by decide +kernel
theorem zqd : ph1.done = false := by decide +kernel
theorem zqe : (goP 100 px1 ph1).2 = 4 := by decide +kernel
theorem zqf : (goP 100 px1 ph1).1.2 = .fin ⟨false, 0, 20, ⟨[0, 1, 2], 2, ⟨0, 0⟩⟩⟩ := by decide +kernel
theorem zn1 {n m : Nw} {f g : Fl} {q : Qy} (hn : NwOK n) (hm : NwOK m) (hP : ∃ r rs, zaf n m q = r :: rs) : OkB (pb0 n m f g q) := by
  have h1 : (zaf n m q).length ≤ 1001 := zlk _ _
  have h2 : (zX n q).length < 2 ^ 60 := by
    have := hn.ports
    unfold zX
    split
    · simp
    · simp; omega
  exact ⟨hn, hm, hP, by show (zaf n m q).length < _; omega, h2, by show (zaf n m q).length < _; omega⟩
theorem OkB.go {X : PB} (h : OkB X) (k : Nat) (ph : Ph) : OkB (goP k X ph).1.1 := by
  induction k generalizing X ph with
  | zero => exact h
  | succ k ih =>
    rw [goP]
    split
    · exact h
    · exact ih (h.step ph) _
theorem zkw : PCalls Tryz.prog 29 [] (.raw (.bool true)) := by
  have hn := znO
  have e1 : zaH aq1 = .agg [.raw (.int .i64 0), .raw (.int .i64 0), .raw (.int .i64 2), .raw (.int .i64 0), .raw (.int .u32 5), .raw (.int .u32 30), .raw (.string ⟨#[]⟩)] := rfl
  have hnp : setPart (AV.agg [.sl 0 [] true, .sl 0 [] true, .sl 0 [] true]) 0 [zq zbJ.t.ports flN.p, zy zbJ.t.links flN.l, zE zbJ.rules flN.r] = z7 zbJ flN := rfl
  have hX0 : OkB (pb0 zbJ zbJ flN flN aq1) := zn1 zhz zhz zn0
  have hX1 : OkB px1 := hX0.go 2 _
  refine zK Tryz.func29 rfl (N := 71) rfl rfl (by simp) (by simp [noIds]) fun σ => ?_
  (try ((first | with_reducible refine zk ?_ | with_reducible refine zm ?_ | with_reducible refine zo ?_); simp [-cellOK, zr, zC, hnp, zz, zA, ze])); repeat' (first | ((first | refine zd ?_ | refine zh ?_ | refine dN (by decide +kernel) ?_ | refine dC (by decide +kernel) ?_ | refine uP (hn) ?_ | refine .inl ⟨_, .inl (hn), ?_⟩ | (refine za ?_ ?_ <;> (intro hg; simp only [hg])) | fail) <;> simp [-cellOK, zr, zC, hnp, zz, zA, ze]) | refine zg ?_ | refine zc ?_ | (refine zs ?_; simp only [zt]; try simp) | (refine zb (fun hc => ?_) (fun hc => ?_) <;> try simp at hc) | fail)
  have hES : Ext σ ((σ.new 1 3 (.buf [.agg [.sl 0 [] true, .sl 0 [] true, .sl 0 [] true]])).set ⟨1, σ.nx 1, 3⟩ (.buf [z7 zbJ flN])) := (by repeat (first | assumption | exact Ext.refl _ | refine zu ?_ | refine Ext.setF ?_ (by first | assumption | (simp [ze, St.set, zf]; done) | exact zp (by assumption))))
  have f1 : σ.m ⟨1, σ.nx 1, 3⟩ = none := zf _ _ _
  generalize hST : St.set _ _ _ = ST at hES ⊢
  have m1 : ST.m ⟨1, σ.nx 1, 3⟩ = some (.buf [z7 zbJ flN]) := by rw [← hST]; simp [zA, zz]
  clear hST
  rw [← e1]
  refine zgu zbJ zbJ flN flN aq1 zhz zhz ⟨by decide, by decide, by decide, by decide⟩ (fun h => by rw [zqb] at h; cases h) (fun _ => ⟨0, [], znZ⟩) (fun _ => zn0) ?_
  intro s ss _ hs τ ip hsz hip hR hE
  rw [znZ] at hs
  injection hs with q1 q2
  subst q1; subst q2
  have hO : Off ST ip zaJ zaJ τ := ⟨hE, hip, fun i o _ => ⟨za4 i, za4 i⟩⟩
  (try ((first | with_reducible refine zk ?_ | with_reducible refine zm ?_ | with_reducible refine zo ?_); simp [-cellOK])); repeat' (first | ((first | refine zd ?_ | refine zh ?_ | refine dN (by decide +kernel) ?_ | refine dC (by decide +kernel) ?_ | (refine za ?_ ?_ <;> (intro hg; simp only [hg])) | fail) <;> simp [-cellOK]) | refine zg ?_ | refine zc ?_ | (refine zs ?_; simp only [zt]; try simp) | (refine zb (fun hc => ?_) (fun hc => ?_) <;> try simp at hc) | fail)
  refine zfy hsz hX0 rfl hR (f := 2) (by decide) (by decide) fun τ1 v1 w1 h1 k1 => ?_
  have hO1 := hO.step k1
  rw [show (2 : Int).toNat = 2 from rfl] at h1 ⊢
  rw [zqc]
  (try ((first | with_reducible refine zk ?_ | with_reducible refine zm ?_ | with_reducible refine zo ?_); simp [-cellOK])); repeat' (first | ((first | refine zd ?_ | refine zh ?_ | refine dN (by decide +kernel) ?_ | refine dC (by decide +kernel) ?_ | (refine za ?_ ?_ <;> (intro hg; simp only [hg])) | fail) <;> simp [-cellOK]) | refine zg ?_ | refine zc ?_ | (refine zs ?_; simp only [zt]; try simp) | (refine zb (fun hc => ?_) (fun hc => ?_) <;> try simp at hc) | fail)
  refine zfy hsz hX1 zqd h1 (f := 100) (by decide) (by decide) fun τ2 v2 w2 h2 k2 => ?_
  have hO2 := hO1.step k2
  change PbR ip (goP 100 px1 ph1).1.1 (goP 100 px1 ph1).1.2 v2 w2 τ2 at h2
  rw [show (100 : Int).toNat = 100 from rfl]
  rw [zqe]
  rw [zqf] at h2
  generalize (goP 100 px1 ph1).1.1 = X2 at h2
  clear h1 hR
  have hE2 := hES.trans hO2.ext
  obtain ⟨d, v3, t3, w3, u3, nx3, r3, m3, _⟩ := h2.ob
  (try ((first | with_reducible refine zk ?_ | with_reducible refine zm ?_ | with_reducible refine zo ?_); simp [-cellOK])); repeat' (first | ((first | refine zd ?_ | refine zh ?_ | refine dN (by decide +kernel) ?_ | refine dC (by decide +kernel) ?_ | (refine za ?_ ?_ <;> (intro hg; simp only [hg])) | fail) <;> simp [-cellOK]) | refine zg ?_ | refine zc ?_ | (refine zs ?_; simp only [zt]; try simp) | (refine zb (fun hc => ?_) (fun hc => ?_) <;> try simp at hc) | fail)
  refine zgF hsz h2 fun τ3 hE3 => ?_
  have m3 : τ3.m ip = some (za5 X2 d v3 t3 w3 u3 nx3 true r3) := hE3.1 _ _ m3
  have hE4 := hE2.trans hE3
  generalize hV : (⟨false, 0, 20, ⟨[0, 1, 2], 2, ⟨0, 0⟩⟩⟩ : Vd) = V
  have v1 : V.holds = false := by rw [← hV]
  have v2 : V.addr = 20 := by rw [← hV]
  have hvp : setPart zcv 0 (zb9 V false).cells = zb9 V false := rfl
  (try ((first | with_reducible refine zk ?_ | with_reducible refine zm ?_ | with_reducible refine zo ?_); simp [-cellOK, zaB, hvp, zan, zau, zaC, zaN, zz, zA, ze, v1, v2])); repeat' (first | ((first | refine zd ?_ | refine zh ?_ | refine dN (by decide +kernel) ?_ | refine dC (by decide +kernel) ?_ | (refine za ?_ ?_ <;> (intro hg; simp only [hg])) | fail) <;> simp [-cellOK, zaB, hvp, zan, zau, zaC, zaN, zz, zA, ze, v1, v2]) | refine zg ?_ | refine zc ?_ | (refine zs ?_; simp only [zt]; try simp) | (refine zb (fun hc => ?_) (fun hc => ?_) <;> try simp at hc) | fail)
  refine zdX (X := X2) ((show Ext τ3 _ from (by repeat (first | assumption | exact Ext.refl _ | refine zu ?_ | refine Ext.setF ?_ (by first | assumption | (simp [ze, St.set, zf]; done) | exact zp (by assumption))))).1 _ _ m3) ?_
  (try ((first | with_reducible refine zk ?_ | with_reducible refine zm ?_ | with_reducible refine zo ?_); simp [-cellOK, zaB, hvp, zan, zau, zaC, zaN, zz, zA, ze, v1, v2])); repeat' (first | ((first | refine zd ?_ | refine zh ?_ | refine dN (by decide +kernel) ?_ | refine dC (by decide +kernel) ?_ | (refine za ?_ ?_ <;> (intro hg; simp only [hg])) | fail) <;> simp [-cellOK, zaB, hvp, zan, zau, zaC, zaN, zz, zA, ze, v1, v2]) | refine zg ?_ | refine zc ?_ | (refine zs ?_; simp only [zt]; try simp) | (refine zl (by simp) ?_; simp) | (refine zx (by simp) (by simp [noIds]) (by repeat (first | assumption | exact Ext.refl _ | refine zu ?_ | refine Ext.setF ?_ (by first | assumption | (simp [ze, St.set, zf]; done) | exact zp (by assumption)))) ?_; simp [-cellOK, zaB, hvp, zan, zau, zaC, zaN, zz, zA, ze, v1, v2, zL]) | (refine zb (fun hc => ?_) (fun hc => ?_) <;> try simp at hc) | fail)
end Go.Proofs.YtanimmdlgmkmkaaGreat.Av
namespace Go.Proofs.YtanimmdlgmkmkaaGreat.Av
open Go
set_option linter.unusedSimpArgs false
set_option linter.unusedVariables false
set_option maxRecDepth 100000
set_option maxHeartbeats 4000000
set_option pp.maxSteps 600
def obj (ip : Id) (v w : AV) (i : Id) : Prop := i = ip ∨ zbr v i ∨ zbr w i
theorem OwnB.hasO {σ : St} {v : AV} {es : List AV} (h : OwnB σ v es) {i : Id} (hi : zbr v i) : ∃ o, σ.m i = some o := by
  rcases h with ⟨_, rfl⟩ | ⟨j, rfl, hj, hm⟩
  · exact absurd hi (za4 i)
  · obtain ⟨l, e⟩ := hi
    injection e with e; subst e; exact ⟨_, hm⟩
theorem PbR.hasO {ip : Id} {X : PB} {ph : Ph} {v w : AV} {σ : St} (h : PbR ip X ph v w σ) {i : Id} (hi : obj ip v w i) : ∃ o, σ.m i = some o := by
  rcases hi with rfl | hi
  · obtain ⟨d, v1, t, w1, u, nx, r, m, _⟩ := h.ob; exact ⟨_, m⟩
  · cases ph with
    | one p d =>
      obtain ⟨rfl, hB, _⟩ := h
      rcases hi with hi | hi
      · exact hB.hasO hi
      · exact absurd hi (za4 i)
    | two p d =>
      obtain ⟨hB, hdis, k5, s, ss, r, rs, x, hS, hP, hw, hv, m⟩ := h
      rcases hi with hi | hi
      · exact hv.hasO hi
      · exact hB.hasO hi
    | fin V =>
      obtain ⟨rfl, hB, _⟩ := h
      rcases hi with hi | hi
      · exact hB.hasO hi
      · exact absurd hi (za4 i)
theorem PbR.up {ip : Id} {X : PB} {ph : Ph} {v w : AV} {σ τ : St} (h : PbR ip X ph v w σ) (k : ∀ i o, obj ip v w i → σ.m i = some o → τ.m i = some o) : PbR ip X ph v w τ := by
  have kv : ∀ {es}, OwnB σ v es → OwnB τ v es := fun h => h.up fun i o hi e => k i o (.inr (.inl hi)) e
  have kw : ∀ {es}, OwnB σ w es → OwnB τ w es := fun h => h.up fun i o hi e => k i o (.inr (.inr hi)) e
  cases ph with
  | one p d =>
    obtain ⟨e, hB, s, ss, r, rs, x, hS, hP, hw, m⟩ := h
    exact ⟨e, kv hB, s, ss, r, rs, x, hS, hP, hw, k ip _ (.inl rfl) m⟩
  | two p d =>
    obtain ⟨hB, hdis, k5, s, ss, r, rs, x, hS, hP, hw, hv, m⟩ := h
    exact ⟨kw hB, hdis, k5, s, ss, r, rs, x, hS, hP, hw, kv hv, k ip _ (.inl rfl) m⟩
  | fin V =>
    obtain ⟨e, hB, hl, d, v', t, w', u, nx, m⟩ := h
    exact ⟨e, kv hB, hl, d, v', t, w', u, nx, k ip _ (.inl rfl) m⟩
theorem zoJ {σ τ : St} (h : Ext σ τ) {i : Id} (k : τ.m i = none) : σ.m i = none := by
  cases e : σ.m i with
  | none => rfl
  | some o => rw [h.1 i o e] at k; cases k
def Apart (ip : Id) (v w : AV) (jp : Id) (a b : AV) : Prop := ∀ i, obj ip v w i → ¬ obj jp a b i
theorem Apart.symm {ip jp : Id} {v w a b : AV} (h : Apart ip v w jp a b) : Apart jp a b ip v w := fun i h1 h2 => h i h2 h1
theorem PbR.other {ip jp : Id} {X : PB} {ph : Ph} {v w a b a' b' : AV} {σ τ : St} (h : PbR ip X ph v w σ) (hd : Apart ip v w jp a b) (k : Kq jp a b a' b' σ τ) : PbR ip X ph v w τ ∧ Apart ip v w jp a' b' := by
  have hk : ∀ i o, obj ip v w i → σ.m i = some o → τ.m i = some o ∧ ¬ zbr a' i ∧ ¬ zbr b' i := fun i o hi e =>
    k.1 i o (fun q => hd i hi (.inl q)) (fun q => hd i hi (.inr (.inl q))) (fun q => hd i hi (.inr (.inr q))) e
  refine ⟨h.up fun i o hi e => (hk i o hi e).1, fun i hi hj => ?_⟩
  obtain ⟨o, e⟩ := h.hasO hi
  obtain ⟨_, h1, h2⟩ := hk i o hi e
  rcases hj with hj | hj | hj
  · exact hd i hi (.inl hj)
  · exact h1 hj
  · exact h2 hj
theorem PbR.ext {ip : Id} {X : PB} {ph : Ph} {v w : AV} {σ τ : St} (h : PbR ip X ph v w σ) (k : Ext σ τ) : PbR ip X ph v w τ := h.up fun i o _ e => k.1 i o e
end Go.Proofs.YtanimmdlgmkmkaaGreat.Av
