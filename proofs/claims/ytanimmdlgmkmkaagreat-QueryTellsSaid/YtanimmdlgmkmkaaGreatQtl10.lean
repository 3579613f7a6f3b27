/- QueryTells: for every pair of networks, and any query, whether it is right, its sources and its verdict are as the document says, or the error; no condition. Part 10 of 14: AvZ7, AvZ8, AvZ9, AvZA, AvZB, AvZC, AvZD, AvZE, AvZF, AvZG, AvZH, AvZI, AvZJ, AvZK, AvZL, AvZM, AvZN, AvZO, AvZP, AvZQ, AvZR, AvZS, AvL20, AvQ1, AvQ2, AvQ3, AvP4, AvL21, AvL22, AvQ4, AvQ5, AvQ6. -/
import Derived.Test.YtanimmdlgmkmkaaGreatQtl6
import Derived.Test.YtanimmdlgmkmkaaGreatQtl7
import Derived.Test.YtanimmdlgmkmkaaGreatQtl9
import Derived.Sort.AssemblyPlain

/- Sorting, part 1: insertion sort of an owned list of ranges. -/
namespace Go.Proofs.YtanimmdlgmkmkaaGreat.Av.Zn
open Go
set_option linter.unusedSimpArgs false
set_option linter.unusedVariables false
set_option maxRecDepth 100000
set_option pp.maxSteps 300

instance : Inhabited Rg := ⟨⟨0, 0⟩⟩
def bufOf (d : Array Rg) : Ob := .buf (d.toList.map rgAV)
@[simp] theorem set_set {σ : St} {i : Id} {o o' : Ob} : (σ.set i o).set i o' = σ.set i o' := by
  apply St.ext'
  · funext j
    by_cases h : j = i
    · subst h; cases hm : σ.m j <;> simp [hm]
    · rw [set_other h, set_other h, set_other h]
  · rfl

/-- What an order is told by. -/
structure Cmp (g : FuncId) (c : Rg → Rg → Int) : Prop where
  calls : ∀ x y, PCalls Tryz.prog g [rgAV x, rgAV y] (.raw (.int .i64 (c x y)))
def ltOf (c : Rg → Rg → Int) (x y : Rg) : Bool := decide (c x y < 0)

end Go.Proofs.YtanimmdlgmkmkaaGreat.Av.Zn


/- Sorting, part 2: heap sort. -/
namespace Go.Proofs.YtanimmdlgmkmkaaGreat.Av.Zn
open Go
set_option linter.unusedSimpArgs false
set_option linter.unusedVariables false
set_option maxRecDepth 100000
set_option pp.maxSteps 300

end Go.Proofs.YtanimmdlgmkmkaaGreat.Av.Zn


/- Sorting, part 3: heap sort, reversing. -/
namespace Go.Proofs.YtanimmdlgmkmkaaGreat.Av.Zn
open Go
set_option linter.unusedSimpArgs false
set_option linter.unusedVariables false
set_option maxRecDepth 100000
set_option pp.maxSteps 300

end Go.Proofs.YtanimmdlgmkmkaaGreat.Av.Zn


/- Sorting, part 4: reversing; partitions. -/
namespace Go.Proofs.YtanimmdlgmkmkaaGreat.Av.Zn
open Go
set_option linter.unusedSimpArgs false
set_option linter.unusedVariables false
set_option maxRecDepth 100000
set_option pp.maxSteps 300

end Go.Proofs.YtanimmdlgmkmkaaGreat.Av.Zn


/- Sorting, part 5: partition. -/
namespace Go.Proofs.YtanimmdlgmkmkaaGreat.Av.Zn
open Go
set_option linter.unusedSimpArgs false
set_option linter.unusedVariables false
set_option maxRecDepth 100000
set_option pp.maxSteps 150

def PR (o : Id) (d : Array Rg) (σ : St) (g : FuncId) (a : Nat) (e : Array Rg) (i j : Nat) (A : Env) (τ : St) : Prop :=
  τ.m o = some (bufOf e) ∧ τ.set o (bufOf d) = σ ∧ A 0 = .rs o 0 d.size ∧ A 1 = .raw (.int .i64 a) ∧ A 4 = .fn (.func g) [] [] ∧ A 12 = .raw (.int .i64 i) ∧ A 13 = .raw (.int .i64 j)
end Go.Proofs.YtanimmdlgmkmkaaGreat.Av.Zn


/- Sorting, part 6: partition of equal ones. -/
namespace Go.Proofs.YtanimmdlgmkmkaaGreat.Av.Zn
open Go
set_option linter.unusedSimpArgs false
set_option linter.unusedVariables false
set_option maxRecDepth 100000
set_option pp.maxSteps 150

def PQ (o : Id) (d : Array Rg) (σ : St) (g : FuncId) (a : Nat) (e : Array Rg) (i j : Nat) (A : Env) (τ : St) : Prop :=
  τ.m o = some (bufOf e) ∧ τ.set o (bufOf d) = σ ∧ A 0 = .rs o 0 d.size ∧ A 1 = .raw (.int .i64 a) ∧ A 4 = .fn (.func g) [] [] ∧ A 11 = .raw (.int .i64 i) ∧ A 12 = .raw (.int .i64 j)
end Go.Proofs.YtanimmdlgmkmkaaGreat.Av.Zn


/- Sorting, part 7: the partial insertion sort. -/
namespace Go.Proofs.YtanimmdlgmkmkaaGreat.Av.Zn
open Go
set_option linter.unusedSimpArgs false
set_option linter.unusedVariables false
set_option maxRecDepth 100000
set_option pp.maxSteps 150

def PI (o : Id) (d : Array Rg) (σ : St) (g : FuncId) (a b : Nat) (e : Array Rg) (i s : Nat) (A : Env) (τ : St) : Prop :=
  τ.m o = some (bufOf e) ∧ τ.set o (bufOf d) = σ ∧ A 0 = .rs o 0 d.size ∧ A 1 = .raw (.int .i64 a) ∧ A 2 = .raw (.int .i64 b) ∧ A 3 = .fn (.func g) [] [] ∧ A 9 = .raw (.int .i64 i) ∧ A 10 = .raw (.int .i64 ((5 : Int) - s))
def PJ (o : Id) (d : Array Rg) (σ : St) (g : FuncId) (a b : Nat) (e : Array Rg) (i : Nat) (x : Int) (A : Env) (τ : St) : Prop :=
  τ.m o = some (bufOf e) ∧ τ.set o (bufOf d) = σ ∧ A 0 = .rs o 0 d.size ∧ A 1 = .raw (.int .i64 a) ∧ A 2 = .raw (.int .i64 b) ∧ A 3 = .fn (.func g) [] [] ∧ A 9 = .raw (.int .i64 i) ∧ A 10 = .raw (.int .i64 x)
end Go.Proofs.YtanimmdlgmkmkaaGreat.Av.Zn


/- Sorting, part 8: the pivot. -/
namespace Go.Proofs.YtanimmdlgmkmkaaGreat.Av.Zn
open Go
set_option linter.unusedSimpArgs false
set_option linter.unusedVariables false
set_option maxRecDepth 100000
set_option pp.maxSteps 150

end Go.Proofs.YtanimmdlgmkmkaaGreat.Av.Zn


/- Sorting, part 9: choosing the pivot. -/
namespace Go.Proofs.YtanimmdlgmkmkaaGreat.Av.Zn
open Go
set_option linter.unusedSimpArgs false
set_option linter.unusedVariables false
set_option maxRecDepth 100000
set_option maxHeartbeats 4000000
set_option pp.maxSteps 150

def hintI : Sort.Hint → Int
  | .unknown => 0
  | .increasing => 1
  | .decreasing => 2
end Go.Proofs.YtanimmdlgmkmkaaGreat.Av.Zn


/- Sorting, part 10: bits.Len, the next power of two. -/
namespace Go.Proofs.YtanimmdlgmkmkaaGreat.Av.Zn
open Go
set_option linter.unusedSimpArgs false
set_option linter.unusedVariables false
set_option maxRecDepth 100000
set_option maxHeartbeats 4000000
set_option pp.maxSteps 150

def lenTab : ByteArray := ⟨#[0, 1, 2, 2, 3, 3, 3, 3, 4, 4, 4, 4, 4, 4, 4, 4, 5, 5, 5, 5, 5, 5, 5, 5, 5, 5, 5, 5, 5, 5, 5, 5, 6, 6, 6, 6, 6, 6, 6, 6, 6, 6, 6, 6, 6, 6, 6, 6, 6, 6, 6, 6, 6, 6, 6, 6, 6, 6, 6, 6, 6, 6, 6, 6, 7, 7, 7, 7, 7, 7, 7, 7, 7, 7, 7, 7, 7, 7, 7, 7, 7, 7, 7, 7, 7, 7, 7, 7, 7, 7, 7, 7, 7, 7, 7, 7, 7, 7, 7, 7, 7, 7, 7, 7, 7, 7, 7, 7, 7, 7, 7, 7, 7, 7, 7, 7, 7, 7, 7, 7, 7, 7, 7, 7, 7, 7, 7, 7, 8, 8, 8, 8, 8, 8, 8, 8, 8, 8, 8, 8, 8, 8, 8, 8, 8, 8, 8, 8, 8, 8, 8, 8, 8, 8, 8, 8, 8, 8, 8, 8, 8, 8, 8, 8, 8, 8, 8, 8, 8, 8, 8, 8, 8, 8, 8, 8, 8, 8, 8, 8, 8, 8, 8, 8, 8, 8, 8, 8, 8, 8, 8, 8, 8, 8, 8, 8, 8, 8, 8, 8, 8, 8, 8, 8, 8, 8, 8, 8, 8, 8, 8, 8, 8, 8, 8, 8, 8, 8, 8, 8, 8, 8, 8, 8, 8, 8, 8, 8, 8, 8, 8, 8, 8, 8, 8, 8, 8, 8, 8, 8, 8, 8, 8, 8, 8, 8, 8, 8, 8, 8, 8, 8, 8, 8, 8, 8]⟩
end Go.Proofs.YtanimmdlgmkmkaaGreat.Av.Zn


/- Sorting, part 11: breaking patterns. -/
namespace Go.Proofs.YtanimmdlgmkmkaaGreat.Av.Zn
open Go
set_option linter.unusedSimpArgs false
set_option linter.unusedVariables false
set_option maxRecDepth 100000
set_option maxHeartbeats 4000000
set_option pp.maxSteps 1500

end Go.Proofs.YtanimmdlgmkmkaaGreat.Av.Zn


/- Sorting, part 12: breaking patterns. -/
namespace Go.Proofs.YtanimmdlgmkmkaaGreat.Av.Zn
open Go
set_option linter.unusedSimpArgs false
set_option linter.unusedVariables false
set_option maxRecDepth 100000
set_option maxHeartbeats 4000000
set_option pp.maxSteps 1500

/-- After so many steps. -/
def brk (a l m i : Nat) (st : UInt64 × Array Rg) : Nat → UInt64 × Array Rg
  | 0 => st
  | k + 1 => Sort.breakStep a l m (brk a l m i st k) (i + k)

end Go.Proofs.YtanimmdlgmkmkaaGreat.Av.Zn


/- Sorting, part 13: pdqsort. -/
namespace Go.Proofs.YtanimmdlgmkmkaaGreat.Av.Zn
open Go
set_option linter.unusedSimpArgs false
set_option linter.unusedVariables false
set_option maxRecDepth 100000
set_option maxHeartbeats 8000000
set_option pp.maxSteps 600

/-- One object has turned into another; some names more are in use. -/
structure Fr (o : Id) (x : Ob) (σ τ : St) : Prop where
  m : τ.m = (σ.set o x).m
  nx : ∀ s, σ.nx s ≤ τ.nx s
theorem Fr.set (o : Id) (x : Ob) (σ : St) : Fr o x σ (σ.set o x) := ⟨rfl, fun _ => Nat.le_refl _⟩
theorem Fr.buf {o : Id} {x y : Ob} {σ τ : St} (h : Fr o x σ τ) (hy : σ.m o = some y) : τ.m o = some x := by rw [h.m, set_self, hy]; rfl
theorem Fr.trans {o : Id} {x y : Ob} {σ τ ρ : St} (h : Fr o x σ τ) (k : Fr o y τ ρ) : Fr o y σ ρ := by
  refine ⟨?_, fun s => Nat.le_trans (h.nx s) (k.nx s)⟩
  rw [k.m]
  funext i
  by_cases e : i = o
  · subst e
    rw [set_self, set_self, h.m, set_self]
    cases σ.m i <;> rfl
  · rw [set_other e, h.m, set_other e, set_other e]
def PdqPost (lt : Rg → Rg → Bool) (o : Id) (d : Array Rg) (a b : Nat) (σ : St) (r : AV) (τ : St) : Prop :=
  r = .tup [] ∧ ∃ d', Sort.PermIn a b d d' ∧ Sort.SortedIn lt a b d' ∧ Fr o (bufOf d') σ τ

def PdI (o : Id) (n a b lim : Nat) (g : FuncId) (wb wp : Bool) (A : Env) : Prop :=
  A 0 = .rs o 0 n ∧ A 1 = .raw (.int .i64 a) ∧ A 2 = .raw (.int .i64 b) ∧ A 3 = .raw (.int .i64 lim) ∧ A 4 = .fn (.func g) [] [] ∧ A 10 = .raw (.bool wb) ∧ A 11 = .raw (.bool wp)

/-- What holds of the array in the midst of a round that is at [a', b'). -/
structure Rd (lt : Rg → Rg → Bool) (o : Id) (d : Array Rg) (a b : Nat) (σ : St) (a' b' : Nat) (e : Array Rg) (τ : St) : Prop where
  fr : Fr o (bufOf e) σ τ
  size : e.size = d.size
  below : Sort.Below lt a' b' e
  glue : ∀ R, Sort.PermIn a' b' e R → Sort.SortedIn lt a' b' R → Sort.PermIn a b d R ∧ Sort.SortedIn lt a b R
end Go.Proofs.YtanimmdlgmkmkaaGreat.Av.Zn


/- Iterators over a list; sorting what is collected. -/
namespace Go.Proofs.YtanimmdlgmkmkaaGreat.Av.Zn
open Go
set_option linter.unusedSimpArgs false
set_option linter.unusedVariables false
set_option maxRecDepth 100000
set_option maxHeartbeats 4000000
set_option pp.maxSteps 300

/-- **slices.Collect**: what is yielded, or nothing. -/
def Coll (i : Id) (z : List Rg) (σ : St) (r : AV) (τ : St) : Prop := But i σ τ ∧ ((z = [] ∧ r = .sl 0 [] true) ∨ (z ≠ [] ∧ ∃ j, r = .rs j 0 z.length ∧ j.sz = 2 ∧ τ.m j = some (.buf (z.map rgAV)) ∧ σ.m j = none))
/-- In the order c says, or any of those that are alike. -/
def SortedBy (c : Rg → Rg → Int) (z : List Rg) : Prop := z.Pairwise fun x y => ¬ c y x < 0
end Go.Proofs.YtanimmdlgmkmkaaGreat.Av.Zn


/- Searching by a function; merging; the zone of ranges. -/
namespace Go.Proofs.YtanimmdlgmkmkaaGreat.Av.Zn
open Go
set_option linter.unusedSimpArgs false
set_option linter.unusedVariables false
set_option maxRecDepth 100000
set_option maxHeartbeats 4000000
set_option pp.maxSteps 300

/-- The first that is asked for; -1: there is none. -/
def idxOf (p : Rg → Bool) (z : List Rg) : Int := if z.any p then (z.findIdx p : Nat) else -1
end Go.Proofs.YtanimmdlgmkmkaaGreat.Av.Zn


/- Zones: what is merged, as an iterator; zone.Of. -/
namespace Go.Proofs.YtanimmdlgmkmkaaGreat.Av.Zn
open Go
set_option linter.unusedSimpArgs false
set_option linter.unusedVariables false
set_option maxRecDepth 100000
set_option maxHeartbeats 4000000
set_option pp.maxSteps 300

end Go.Proofs.YtanimmdlgmkmkaaGreat.Av.Zn


/- Zones: zone.Of. -/
namespace Go.Proofs.YtanimmdlgmkmkaaGreat.Av.Zn
open Go
set_option linter.unusedSimpArgs false
set_option linter.unusedVariables false
set_option maxRecDepth 100000
set_option maxHeartbeats 4000000
set_option pp.maxSteps 300

end Go.Proofs.YtanimmdlgmkmkaaGreat.Av.Zn


/- Zones: And, not, Minus, All. -/
namespace Go.Proofs.YtanimmdlgmkmkaaGreat.Av.Zn
open Go
set_option linter.unusedSimpArgs false
set_option linter.unusedVariables false
set_option maxRecDepth 100000
set_option maxHeartbeats 4000000
set_option pp.maxSteps 300

end Go.Proofs.YtanimmdlgmkmkaaGreat.Av.Zn


/- Zones: Minus, All, Grow, Concat, Or. -/
namespace Go.Proofs.YtanimmdlgmkmkaaGreat.Av.Zn
open Go
set_option linter.unusedSimpArgs false
set_option linter.unusedVariables false
set_option maxRecDepth 100000
set_option maxHeartbeats 4000000
set_option pp.maxSteps 300

def allZ : List Rg := [⟨0, 4294967295⟩]
/-- One list behind the other. -/
def catZ : List (List Rg × Bool) → List Rg
  | [] => []
  | p :: l => p.1 ++ catZ l
def pAV (p : List Rg × Bool) : AV := zAV p.1 p.2
theorem noIds_list {n : Nat} {l : List AV} {f : Bool} (h : ∀ a ∈ l, noIds a) : noIds (.sl n l f) := by
  simp only [noIds, AV.ids]
  induction l with
  | nil => simp [idsL]
  | cons a l ih => simp only [idsL]; exact ⟨h a (by simp), ih fun b hb => h b (by simp [hb])⟩
end Go.Proofs.YtanimmdlgmkmkaaGreat.Av.Zn


/- The document's zones: cuts, ends, joining. -/
namespace Go.Proofs.YtanimmdlgmkmkaaGreat.Av.Zn
open Go
set_option linter.unusedSimpArgs false
set_option linter.unusedVariables false
set_option maxRecDepth 100000
set_option maxHeartbeats 4000000
set_option pp.maxSteps 300

/-- Whole numbers, as a list. -/
def iAV (n : Int) : AV := .raw (.int .i64 n)
def inAV (l : List Int) (b : Bool) : AV := .sl 1 (l.map iAV) b
theorem noIds_inAV (z : List Int) (b : Bool) : noIds (inAV z b) := noIds_list fun a ha => by
  obtain ⟨x, _, rfl⟩ := List.mem_map.1 ha
  simp [noIds, iAV]

def cutsAll (l : List Rg) : List Int := 0 :: l.flatMap fun r => [r.lo, r.hi + 1]
def nextCut (all : List Int) (last : Int) : Int := all.foldl (fun next a => if last < a ∧ a < next then a else next) 4294967296
def cutsFrom (all : List Int) : Nat → Int → List Int
  | 0, _ => []
  | n + 1, last => if nextCut all last ≤ 4294967295 then nextCut all last :: cutsFrom all n (nextCut all last) else []
theorem cutsAll_take {l : List Rg} {i : Nat} {r : Rg} (h : l[i]? = some r) : cutsAll (l.take (i + 1)) = cutsAll (l.take i) ++ [r.lo, r.hi + 1] := by
  unfold cutsAll
  rw [List.take_add_one, h]; simp
theorem cutsAll_len (l : List Rg) : (cutsAll l).length = 1 + 2 * l.length := by
  unfold cutsAll
  induction l with
  | nil => rfl
  | cons r l ih => simp at ih ⊢; omega
/-- How many are still to come. -/
def above (all : List Int) (last : Int) : Nat := (all.filter fun a => decide (last < a) && decide (a < 4294967296)).length
theorem nextCut_spec (all : List Int) (last : Int) : ∀ (l : List Int) (x : Int), (∀ a ∈ l, a ∈ all) → (x = 4294967296 ∨ (x ∈ all ∧ last < x ∧ x < 4294967296)) → x ≤ 4294967296 →
    let y := l.foldl (fun next a => if last < a ∧ a < next then a else next) x
    (y = 4294967296 ∨ (y ∈ all ∧ last < y ∧ y < 4294967296)) ∧ y ≤ x ∧ ∀ a ∈ l, last < a → y ≤ a
  | [], x, _, h, hx => ⟨h, Int.le_refl _, fun a h => by cases h⟩
  | b :: l, x, hl, h, hx => by
    simp only [List.foldl_cons]
    by_cases hb : last < b ∧ b < x
    · rw [if_pos hb]
      obtain ⟨h1, h2, h3⟩ := nextCut_spec all last l b (fun a ha => hl a (by simp [ha])) (.inr ⟨hl b (by simp), hb.1, by omega⟩) (by omega)
      refine ⟨h1, by omega, fun a ha h => ?_⟩
      rcases List.mem_cons.1 ha with rfl | ha
      · exact h2
      · exact h3 a ha h
    · rw [if_neg hb]
      obtain ⟨h1, h2, h3⟩ := nextCut_spec all last l x (fun a ha => hl a (by simp [ha])) h hx
      refine ⟨h1, h2, fun a ha h => ?_⟩
      rcases List.mem_cons.1 ha with rfl | ha
      · omega
      · exact h3 a ha h
theorem nextCut_is (all : List Int) (last : Int) : (nextCut all last = 4294967296 ∨ (nextCut all last ∈ all ∧ last < nextCut all last ∧ nextCut all last < 4294967296)) ∧ nextCut all last ≤ 4294967296 ∧ ∀ a ∈ all, last < a → nextCut all last ≤ a :=
  nextCut_spec all last all 4294967296 (fun _ h => h) (.inl rfl) (Int.le_refl _)
theorem above_lt {all : List Int} {last : Int} (h : nextCut all last ≤ 4294967295) : above all (nextCut all last) < above all last := by
  obtain ⟨h1, h2, h3⟩ := nextCut_is all last
  have h1 := h1.resolve_left (by omega)
  unfold above
  generalize nextCut all last = x at *
  have hsub : ∀ l : List Int, (l.filter fun a => decide (x < a) && decide (a < 4294967296)).length ≤ (l.filter fun a => decide (last < a) && decide (a < 4294967296)).length := by
    intro l
    induction l with
    | nil => simp
    | cons a l ih =>
      simp only [List.filter_cons]
      by_cases ha : x < a ∧ a < 4294967296
      · have : last < a := by omega
        simp [ha.1, ha.2, this, ih]
      · have hn : (decide (x < a) && decide (a < 4294967296)) = false := by
          simp only [Bool.and_eq_false_iff, decide_eq_false_iff_not]; omega
        rw [hn]
        simp only [Bool.false_eq_true, if_false]
        split
        · simp; omega
        · exact ih
  obtain ⟨s, t, rfl⟩ := List.append_of_mem h1.1
  rw [List.filter_append, List.filter_append, List.length_append, List.length_append]
  have e1 := hsub s
  have e2 := hsub t
  simp only [List.filter_cons]
  have hn : (decide (x < x) && decide (x < 4294967296)) = false := by simp
  have hy : (decide (last < x) && decide (x < 4294967296)) = true := by simp [h1.2.1, h1.2.2]
  rw [hn, hy]
  simp
  omega
theorem cutsFrom_fuel (all : List Int) : ∀ (n m : Nat) (last : Int), above all last ≤ n → above all last ≤ m → cutsFrom all n last = cutsFrom all m last
  | 0, 0, _, _, _ => rfl
  | 0, m + 1, last, h, _ => by
    unfold cutsFrom
    split
    · rename_i hc; have := above_lt hc; omega
    · rfl
  | n + 1, 0, last, _, h => by
    unfold cutsFrom
    split
    · rename_i hc; have := above_lt hc; omega
    · rfl
  | n + 1, m + 1, last, h1, h2 => by
    unfold cutsFrom
    split
    · rename_i hc
      have := above_lt hc
      rw [cutsFrom_fuel all n m _ (by omega) (by omega)]
    · rfl
def cutsOf (l : List Rg) : List Int := cutsFrom (cutsAll l) (above (cutsAll l) (-1)) (-1)
theorem above_le (all : List Int) (last : Int) : above all last ≤ all.length := List.length_filter_le _ _
theorem cutsFrom_len (all : List Int) : ∀ (n : Nat) (last : Int), (cutsFrom all n last).length ≤ n
  | 0, _ => by simp [cutsFrom]
  | n + 1, last => by
    unfold cutsFrom
    split
    · have := cutsFrom_len all n (nextCut all last); simp; omega
    · simp
theorem nextCut_take {all : List Int} {last : Int} {i : Nat} {a : Int} (h : all[i]? = some a) : nextCut (all.take (i + 1)) last = if last < a ∧ a < nextCut (all.take i) last then a else nextCut (all.take i) last := by
  unfold nextCut
  rw [List.take_add_one, h, List.foldl_append]
  rfl
end Go.Proofs.YtanimmdlgmkmkaaGreat.Av.Zn


/- The document's zones: the walks of Cuts, End, Join. -/
namespace Go.Proofs.YtanimmdlgmkmkaaGreat.Av.Zn
open Go
set_option linter.unusedSimpArgs false
set_option linter.unusedVariables false
set_option maxRecDepth 100000
set_option maxHeartbeats 4000000
set_option pp.maxSteps 300

theorem cutsFrom_step {all : List Int} {last : Int} (h : nextCut all last ≤ 4294967295) : cutsFrom all (above all last) last = nextCut all last :: cutsFrom all (above all (nextCut all last)) (nextCut all last) := by
  have hlt := above_lt h
  obtain ⟨n, hn⟩ : ∃ n, above all last = n + 1 := ⟨above all last - 1, by omega⟩
  rw [hn, cutsFrom, if_pos h, cutsFrom_fuel all n (above all (nextCut all last)) _ (by omega) (Nat.le_refl _)]
theorem cutsFrom_stop {all : List Int} {last : Int} (h : ¬ nextCut all last ≤ 4294967295) : cutsFrom all (above all last) last = [] := by
  cases above all last with
  | zero => rfl
  | succ n => rw [cutsFrom, if_neg h]

theorem cuts_calls (l : List Rg) (f : Bool) (hz : InZ l) (hl : l.length < 2 ^ 30) : PCalls Tryz.prog 113 [zAV l f] (inAV (cutsOf l) false) := by
  refine pbody Tryz.func113 rfl (N := 67) rfl rfl (by simp) (noIds_inAV _ _) fun σ => ?_
  (try (first | (with_reducible refine dops_go ?_; simp) | (with_reducible refine OKv_go ?_; simp) | (with_reducible refine OKr_go ?_; simp))); repeat' (first | refine awp_seq ?_ | refine awp_block ?_ | (refine awp_skip ?_; try simp) | (refine awp_exit ?_; try simp) | (refine awp_ret ?_; try simp) | (refine retP_same (by simp) ?_; simp) | (refine retP_flat (by simp) (by simp) (by simp (maxDischargeDepth := 30)) ?_; simp) | (refine awp_reg ?_; simp) | (refine awp_drawT (fun _ => false) mixed (by decide +kernel) ?_; simp) | (refine guarded_split ?_ ?_ <;> (intro hg; simp only [hg]; simp)) | (apply awp_cond_t; focus (simp; done)) | (apply awp_cond_f; focus (simp; done)) | (refine awp_cond ?_; simp; refine ⟨?_, ?_⟩ <;> intro hc))
  refine awp_block_cutH (fun A τ => OwnL σ τ 1 (A 3) ((cutsAll l).map iAV) ∧ Ext σ τ) ?_ ?_
  · intro R1 hR1
    refine awp_loopH (fun n A τ => ∃ (i : Nat) (v : AV), A 0 = zAV l f ∧ A 4 = .raw (.int .i64 i) ∧ A 3 = v ∧ OwnL σ τ 1 v ((cutsAll (l.take i)).map iAV) ∧ Ext σ τ ∧ i ≤ l.length ∧ n = l.length - i) l.length ?_ ?_
    · exact ⟨0, .rs ⟨10, σ.nx 10, 1⟩ 0 1, by simp, by simp, by simp, OwnL.of rfl (by simp [cutsAll, iAV]) (fresh_none _ _ _) (by simp [cutsAll]), Ext.new _ _ _ _, by omega, by omega⟩
    rintro n A τ ⟨i, v, a0, a4, a3, hO, hE, hi, rfl⟩ I1 hI1
    by_cases hlt : i < l.length
    · have hx : l[i]? = some l[i] := List.getElem?_eq_getElem hlt
      obtain ⟨x1, x2, x3, x4⟩ := hz l[i] (List.getElem_mem _)
      have ht := cutsAll_take hx
      have hlen := cutsAll_len (l.take i)
      rw [List.length_take, Nat.min_eq_left hi] at hlen
      have w1 : IntKind.i64.wrap ((i : Int) + 1) = ((i + 1 : Nat) : Int) := by rw [wrap64 (by omega) (by omega)]; omega
      have w2 : IntKind.i64.wrap l[i].lo = l[i].lo := wrap64 (by omega) (by omega)
      have w3 : IntKind.i64.wrap l[i].hi = l[i].hi := wrap64 (by omega) (by omega)
      have w4 : IntKind.i64.wrap (l[i].hi + 1) = l[i].hi + 1 := wrap64 (by omega) (by omega)
      (try (first | (with_reducible refine dops_go ?_; simp [-opAppend, a0, a4, a3, zAV, rgAV, hlt, hx, w2, w3, w4]) | (with_reducible refine OKv_go ?_; simp [-opAppend, a0, a4, a3, zAV, rgAV, hlt, hx, w2, w3, w4]) | (with_reducible refine OKr_go ?_; simp [-opAppend, a0, a4, a3, zAV, rgAV, hlt, hx, w2, w3, w4]))); repeat' (first | refine awp_seq ?_ | refine awp_block ?_ | (refine awp_skip ?_; try simp) | (refine awp_exit ?_; try simp) | (refine awp_ret ?_; try simp) | (refine retP_same (by simp) ?_; simp) | (refine retP_flat (by simp) (by simp) (by simp (maxDischargeDepth := 30) [-opAppend, a0, a4, a3, zAV, rgAV, hlt, hx, w2, w3, w4]) ?_; simp) | (refine awp_reg ?_; simp [-opAppend, a0, a4, a3, zAV, rgAV, hlt, hx, w2, w3, w4]) | (refine awp_drawT (fun _ => false) mixed (by decide +kernel) ?_; simp [-opAppend, a0, a4, a3, zAV, rgAV, hlt, hx, w2, w3, w4]) | (refine guarded_split ?_ ?_ <;> (intro hg; simp only [hg]; simp [-opAppend, a0, a4, a3, zAV, rgAV, hlt, hx, w2, w3, w4])) | (apply awp_cond_t; focus (simp [-opAppend, a0, a4, a3, zAV, rgAV, hlt, hx, w2, w3, w4]; done)) | (apply awp_cond_f; focus (simp [-opAppend, a0, a4, a3, zAV, rgAV, hlt, hx, w2, w3, w4]; done)))
      have hE31 := Ext.new τ 31 1 (.buf [.raw (.int .i64 l[i].lo), .raw (.int .i64 (l[i].hi + 1))])
      refine okr_append slt22 (hO.ext hE31) (hE.trans hE31) (ys := [iAV l[i].lo, iAV (l[i].hi + 1)]) (by simp [iAV]) (.inr rfl) (by simp [iAV]) (by simp; omega) ?_
      intro v' τ2 hO2 hE2 hkeep hnx
      have hO3 : OwnL σ τ2 1 v' ((cutsAll (l.take (i + 1))).map iAV) := by rw [ht]; simpa using hO2
      clear hkeep
      (try (first | (with_reducible refine dops_go ?_; simp [a0, a4, w1]) | (with_reducible refine OKv_go ?_; simp [a0, a4, w1]) | (with_reducible refine OKr_go ?_; simp [a0, a4, w1]))); repeat' (first | refine awp_seq ?_ | refine awp_block ?_ | (refine awp_skip ?_; try simp) | (refine awp_exit ?_; try simp) | (refine awp_ret ?_; try simp) | (refine retP_same (by simp) ?_; simp) | (refine retP_flat (by simp) (by simp) (by simp (maxDischargeDepth := 30) [a0, a4, w1]) ?_; simp) | (refine awp_reg ?_; simp [a0, a4, w1]) | (refine awp_drawT (fun _ => false) mixed (by decide +kernel) ?_; simp [a0, a4, w1]) | (refine guarded_split ?_ ?_ <;> (intro hg; simp only [hg]; simp [a0, a4, w1])) | (apply awp_cond_t; focus (simp [a0, a4, w1]; done)) | (apply awp_cond_f; focus (simp [a0, a4, w1]; done)) | (refine awp_cond ?_; simp [a0, a4, w1]; refine ⟨?_, ?_⟩ <;> intro hc))
      exact hI1 (l.length - (i + 1)) _ _ (by omega) ⟨i + 1, v', by simp [a0, zAV, rgAV], by simp, by simp, hO3, hE2, by omega, rfl⟩
    · have : i = l.length := by omega
      subst this
      rw [List.take_length] at hO
      (try (first | (with_reducible refine dops_go ?_; simp [a0, a4, zAV]) | (with_reducible refine OKv_go ?_; simp [a0, a4, zAV]) | (with_reducible refine OKr_go ?_; simp [a0, a4, zAV]))); repeat' (first | refine awp_seq ?_ | refine awp_block ?_ | (refine awp_skip ?_; try simp) | (refine awp_exit ?_; try simp) | (refine awp_ret ?_; try simp) | (refine retP_same (by simp) ?_; simp) | (refine retP_flat (by simp) (by simp) (by simp (maxDischargeDepth := 30) [a0, a4, zAV]) ?_; simp) | (refine awp_reg ?_; simp [a0, a4, zAV]) | (refine awp_drawT (fun _ => false) mixed (by decide +kernel) ?_; simp [a0, a4, zAV]) | (refine guarded_split ?_ ?_ <;> (intro hg; simp only [hg]; simp [a0, a4, zAV])) | (apply awp_cond_t; focus (simp [a0, a4, zAV]; done)) | (apply awp_cond_f; focus (simp [a0, a4, zAV]; done)) | (refine awp_cond ?_; simp [a0, a4, zAV]; refine ⟨?_, ?_⟩ <;> intro hc))
      exact hR1 _ _ ⟨by simp [a3]; exact hO, hE⟩
  · rintro A τ ⟨hO, hE⟩
    refine awp_settle 3 hO hE ?_
    rintro A τ hE a3 - - - - -
    have a3 : A 3 = inAV (cutsAll l) false := a3
    have hcut : cutsFrom (cutsAll l) (above (cutsAll l) (-1)) (-1) = cutsOf l := rfl
    have hcl : (cutsOf l).length ≤ 1 + 2 * l.length := Nat.le_trans (cutsFrom_len _ _ _) (by have := above_le (cutsAll l) (-1); rw [cutsAll_len] at this; exact this)
    have hall : (cutsAll l).length ≤ 2 ^ 32 := by rw [cutsAll_len]; omega
    generalize cutsOf l = C at *
    generalize cutsAll l = all at *
    clear hO
    have w0 : IntKind.i64.wrap (-1) = -1 := wrap64 (by omega) (by omega)
    (try (first | (with_reducible refine dops_go ?_; simp [a3, w0]) | (with_reducible refine OKv_go ?_; simp [a3, w0]) | (with_reducible refine OKr_go ?_; simp [a3, w0]))); repeat' (first | refine awp_seq ?_ | refine awp_block ?_ | (refine awp_skip ?_; try simp) | (refine awp_exit ?_; try simp) | (refine awp_ret ?_; try simp) | (refine retP_same (by simp) ?_; simp) | (refine retP_flat (by simp) (by simp) (by simp (maxDischargeDepth := 30) [a3, w0]) ?_; simp) | (refine awp_reg ?_; simp [a3, w0]) | (refine awp_drawT (fun _ => false) mixed (by decide +kernel) ?_; simp [a3, w0]) | (refine guarded_split ?_ ?_ <;> (intro hg; simp only [hg]; simp [a3, w0])) | (apply awp_cond_t; focus (simp [a3, w0]; done)) | (apply awp_cond_f; focus (simp [a3, w0]; done)) | (refine awp_cond ?_; simp [a3, w0]; refine ⟨?_, ?_⟩ <;> intro hc))
    refine awp_block_cutH (fun A τ => OwnL σ τ 1 (A 5) (C.map iAV) ∧ Ext σ τ) ?_ ?_
    · intro R1 hR1
      refine awp_loopH (fun n A τ => ∃ (last : Int) (v : AV) (out : List Int), A 3 = inAV all false ∧ A 5 = v ∧ A 6 = .raw (.int .i64 last) ∧ OwnL σ τ 1 v (out.map iAV) ∧ Ext σ τ ∧ out.length ≤ C.length ∧
        ((A 7 = .raw (.bool true) ∧ out ++ cutsFrom all (above all last) last = C ∧ n = above all last + 1) ∨ (A 7 = .raw (.bool false) ∧ out = C ∧ n = 0))) (above all (-1) + 1) ?_ ?_
      · exact ⟨-1, .sl 0 [] true, [], by simp [a3], by simp, by simp, OwnL.nil, hE, by simp, .inl ⟨by simp, hcut, rfl⟩⟩
      clear a3 hE
      rintro n A τ ⟨last, v, out, a3, a5, a6, hO, hE, hol, ⟨a7, hc, rfl⟩ | ⟨a7, rfl, rfl⟩⟩ I1 hI1
      · (try (first | (with_reducible refine dops_go ?_; simp [a3, a5, a6, a7]) | (with_reducible refine OKv_go ?_; simp [a3, a5, a6, a7]) | (with_reducible refine OKr_go ?_; simp [a3, a5, a6, a7]))); repeat' (first | refine awp_seq ?_ | refine awp_block ?_ | (refine awp_skip ?_; try simp) | (refine awp_exit ?_; try simp) | (refine awp_ret ?_; try simp) | (refine retP_same (by simp) ?_; simp) | (refine retP_flat (by simp) (by simp) (by simp (maxDischargeDepth := 30) [a3, a5, a6, a7]) ?_; simp) | (refine awp_reg ?_; simp [a3, a5, a6, a7]) | (refine awp_drawT (fun _ => false) mixed (by decide +kernel) ?_; simp [a3, a5, a6, a7]) | (refine guarded_split ?_ ?_ <;> (intro hg; simp only [hg]; simp [a3, a5, a6, a7])) | (apply awp_cond_t; focus (simp [a3, a5, a6, a7]; done)) | (apply awp_cond_f; focus (simp [a3, a5, a6, a7]; done)) | (refine awp_cond ?_; simp [a3, a5, a6, a7]; refine ⟨?_, ?_⟩ <;> intro hc))
        refine awp_block_cutH (fun A' τ' => A' 3 = inAV all false ∧ A' 5 = v ∧ A' 6 = .raw (.int .i64 last) ∧ A' 8 = .raw (.int .i64 (nextCut all last)) ∧ τ' = τ) ?_ ?_
        · intro R2 hR2
          refine awp_loopH (fun n A' τ' => ∃ i : Nat, A' 3 = inAV all false ∧ A' 5 = v ∧ A' 6 = .raw (.int .i64 last) ∧ A' 9 = .raw (.int .i64 i) ∧ A' 8 = .raw (.int .i64 (nextCut (all.take i) last)) ∧ τ' = τ ∧ i ≤ all.length ∧ n = all.length - i) all.length ?_ ?_
          · exact ⟨0, by simp [a3], by simp [a5], by simp [a6], by simp, by simp [nextCut], rfl, by omega, by omega⟩
          clear a3 a5 a6 a7
          rintro n A' τ' ⟨i, a3, a5, a6, a9, a8, rfl, hi, rfl⟩ I2 hI2
          by_cases hlt : i < all.length
          · have hx : all[i]? = some all[i] := List.getElem?_eq_getElem hlt
            have ht := nextCut_take (last := last) hx
            have w1 : IntKind.i64.wrap ((i : Int) + 1) = ((i + 1 : Nat) : Int) := by rw [wrap64 (by omega) (by omega)]; omega
            generalize nextCut (all.take i) last = x at *
            have hic : ∀ n, (iAV n).cells = [iAV n] := fun n => rfl
            by_cases c1 : last < all[i]
            · by_cases c2 : all[i] < x
              · rw [if_pos ⟨c1, c2⟩] at ht
                (try (first | (with_reducible refine dops_go ?_; simp [a3, a5, a6, a9, a8, inAV, iAV, hlt, c1, c2, w1]) | (with_reducible refine OKv_go ?_; simp [a3, a5, a6, a9, a8, inAV, iAV, hlt, c1, c2, w1]) | (with_reducible refine OKr_go ?_; simp [a3, a5, a6, a9, a8, inAV, iAV, hlt, c1, c2, w1]))); repeat' (first | refine awp_seq ?_ | refine awp_block ?_ | (refine awp_skip ?_; try simp) | (refine awp_exit ?_; try simp) | (refine awp_ret ?_; try simp) | (refine retP_same (by simp) ?_; simp) | (refine retP_flat (by simp) (by simp) (by simp (maxDischargeDepth := 30) [a3, a5, a6, a9, a8, inAV, iAV, hlt, c1, c2, w1]) ?_; simp) | (refine awp_reg ?_; simp [a3, a5, a6, a9, a8, inAV, iAV, hlt, c1, c2, w1]) | (refine awp_drawT (fun _ => false) mixed (by decide +kernel) ?_; simp [a3, a5, a6, a9, a8, inAV, iAV, hlt, c1, c2, w1]) | (refine guarded_split ?_ ?_ <;> (intro hg; simp only [hg]; simp [a3, a5, a6, a9, a8, inAV, iAV, hlt, c1, c2, w1])) | (apply awp_cond_t; focus (simp [a3, a5, a6, a9, a8, inAV, iAV, hlt, c1, c2, w1]; done)) | (apply awp_cond_f; focus (simp [a3, a5, a6, a9, a8, inAV, iAV, hlt, c1, c2, w1]; done)) | (refine awp_cond ?_; simp [a3, a5, a6, a9, a8, inAV, iAV, hlt, c1, c2, w1]; refine ⟨?_, ?_⟩ <;> intro hc))
                exact hI2 (all.length - (i + 1)) _ _ (by omega) ⟨i + 1, by simp [a3, inAV, iAV], by simp [a5], by simp [a6], by simp, by simp [ht], rfl, by omega, rfl⟩
              · rw [if_neg (fun h => c2 h.2)] at ht
                (try (first | (with_reducible refine dops_go ?_; simp [a3, a5, a6, a9, a8, inAV, iAV, hlt, c1, c2, w1]) | (with_reducible refine OKv_go ?_; simp [a3, a5, a6, a9, a8, inAV, iAV, hlt, c1, c2, w1]) | (with_reducible refine OKr_go ?_; simp [a3, a5, a6, a9, a8, inAV, iAV, hlt, c1, c2, w1]))); repeat' (first | refine awp_seq ?_ | refine awp_block ?_ | (refine awp_skip ?_; try simp) | (refine awp_exit ?_; try simp) | (refine awp_ret ?_; try simp) | (refine retP_same (by simp) ?_; simp) | (refine retP_flat (by simp) (by simp) (by simp (maxDischargeDepth := 30) [a3, a5, a6, a9, a8, inAV, iAV, hlt, c1, c2, w1]) ?_; simp) | (refine awp_reg ?_; simp [a3, a5, a6, a9, a8, inAV, iAV, hlt, c1, c2, w1]) | (refine awp_drawT (fun _ => false) mixed (by decide +kernel) ?_; simp [a3, a5, a6, a9, a8, inAV, iAV, hlt, c1, c2, w1]) | (refine guarded_split ?_ ?_ <;> (intro hg; simp only [hg]; simp [a3, a5, a6, a9, a8, inAV, iAV, hlt, c1, c2, w1])) | (apply awp_cond_t; focus (simp [a3, a5, a6, a9, a8, inAV, iAV, hlt, c1, c2, w1]; done)) | (apply awp_cond_f; focus (simp [a3, a5, a6, a9, a8, inAV, iAV, hlt, c1, c2, w1]; done)) | (refine awp_cond ?_; simp [a3, a5, a6, a9, a8, inAV, iAV, hlt, c1, c2, w1]; refine ⟨?_, ?_⟩ <;> intro hc))
                exact hI2 (all.length - (i + 1)) _ _ (by omega) ⟨i + 1, by simp [a3, inAV, iAV], by simp [a5], by simp [a6], by simp, by simp [a8, ht], rfl, by omega, rfl⟩
            · rw [if_neg (fun h => c1 h.1)] at ht
              (try (first | (with_reducible refine dops_go ?_; simp [a3, a5, a6, a9, a8, inAV, iAV, hlt, c1, w1]) | (with_reducible refine OKv_go ?_; simp [a3, a5, a6, a9, a8, inAV, iAV, hlt, c1, w1]) | (with_reducible refine OKr_go ?_; simp [a3, a5, a6, a9, a8, inAV, iAV, hlt, c1, w1]))); repeat' (first | refine awp_seq ?_ | refine awp_block ?_ | (refine awp_skip ?_; try simp) | (refine awp_exit ?_; try simp) | (refine awp_ret ?_; try simp) | (refine retP_same (by simp) ?_; simp) | (refine retP_flat (by simp) (by simp) (by simp (maxDischargeDepth := 30) [a3, a5, a6, a9, a8, inAV, iAV, hlt, c1, w1]) ?_; simp) | (refine awp_reg ?_; simp [a3, a5, a6, a9, a8, inAV, iAV, hlt, c1, w1]) | (refine awp_drawT (fun _ => false) mixed (by decide +kernel) ?_; simp [a3, a5, a6, a9, a8, inAV, iAV, hlt, c1, w1]) | (refine guarded_split ?_ ?_ <;> (intro hg; simp only [hg]; simp [a3, a5, a6, a9, a8, inAV, iAV, hlt, c1, w1])) | (apply awp_cond_t; focus (simp [a3, a5, a6, a9, a8, inAV, iAV, hlt, c1, w1]; done)) | (apply awp_cond_f; focus (simp [a3, a5, a6, a9, a8, inAV, iAV, hlt, c1, w1]; done)) | (refine awp_cond ?_; simp [a3, a5, a6, a9, a8, inAV, iAV, hlt, c1, w1]; refine ⟨?_, ?_⟩ <;> intro hc))
              exact hI2 (all.length - (i + 1)) _ _ (by omega) ⟨i + 1, by simp [a3, inAV, iAV], by simp [a5], by simp [a6], by simp, by simp [a8, ht], rfl, by omega, rfl⟩
          · have : i = all.length := by omega
            subst this
            rw [List.take_length] at a8
            (try (first | (with_reducible refine dops_go ?_; simp [a3, a5, a6, a9, a8, inAV]) | (with_reducible refine OKv_go ?_; simp [a3, a5, a6, a9, a8, inAV]) | (with_reducible refine OKr_go ?_; simp [a3, a5, a6, a9, a8, inAV]))); repeat' (first | refine awp_seq ?_ | refine awp_block ?_ | (refine awp_skip ?_; try simp) | (refine awp_exit ?_; try simp) | (refine awp_ret ?_; try simp) | (refine retP_same (by simp) ?_; simp) | (refine retP_flat (by simp) (by simp) (by simp (maxDischargeDepth := 30) [a3, a5, a6, a9, a8, inAV]) ?_; simp) | (refine awp_reg ?_; simp [a3, a5, a6, a9, a8, inAV]) | (refine awp_drawT (fun _ => false) mixed (by decide +kernel) ?_; simp [a3, a5, a6, a9, a8, inAV]) | (refine guarded_split ?_ ?_ <;> (intro hg; simp only [hg]; simp [a3, a5, a6, a9, a8, inAV])) | (apply awp_cond_t; focus (simp [a3, a5, a6, a9, a8, inAV]; done)) | (apply awp_cond_f; focus (simp [a3, a5, a6, a9, a8, inAV]; done)) | (refine awp_cond ?_; simp [a3, a5, a6, a9, a8, inAV]; refine ⟨?_, ?_⟩ <;> intro hc))
            exact hR2 _ _ ⟨by simp [a3, inAV], by simp [a5], by simp [a6], by simp [a8], rfl⟩
        · clear a3 a5 a6 a7
          rintro A τ' ⟨a3, a5, a6, a8, rfl⟩
          by_cases hn : nextCut all last ≤ 4294967295
          · have hlt := above_lt hn
            rw [cutsFrom_step hn] at hc
            generalize nextCut all last = x at *
            have hlc := congrArg List.length hc
            simp only [List.length_append, List.length_cons] at hlc
            (try (first | (with_reducible refine dops_go ?_; simp [-opAppend, a3, a5, a6, a8, hn]) | (with_reducible refine OKv_go ?_; simp [-opAppend, a3, a5, a6, a8, hn]) | (with_reducible refine OKr_go ?_; simp [-opAppend, a3, a5, a6, a8, hn]))); repeat' (first | refine awp_seq ?_ | refine awp_block ?_ | (refine awp_skip ?_; try simp) | (refine awp_exit ?_; try simp) | (refine awp_ret ?_; try simp) | (refine retP_same (by simp) ?_; simp) | (refine retP_flat (by simp) (by simp) (by simp (maxDischargeDepth := 30) [-opAppend, a3, a5, a6, a8, hn]) ?_; simp) | (refine awp_reg ?_; simp [-opAppend, a3, a5, a6, a8, hn]) | (refine awp_drawT (fun _ => false) mixed (by decide +kernel) ?_; simp [-opAppend, a3, a5, a6, a8, hn]) | (refine guarded_split ?_ ?_ <;> (intro hg; simp only [hg]; simp [-opAppend, a3, a5, a6, a8, hn])) | (apply awp_cond_t; focus (simp [-opAppend, a3, a5, a6, a8, hn]; done)) | (apply awp_cond_f; focus (simp [-opAppend, a3, a5, a6, a8, hn]; done)))
            have hE63 := Ext.new τ' 63 1 (.buf [.raw (.int .i64 x)])
            refine okr_append slt22 (hO.ext hE63) (hE.trans hE63) (ys := [iAV x]) (by simp [iAV]) (.inr rfl) (by simp [iAV]) (by simp; omega) ?_
            intro v' τ2 hO2 hE2 hkeep hnx
            have hO3 : OwnL σ τ2 1 v' ((out ++ [x]).map iAV) := by simpa using hO2
            clear hkeep
            (try (first | (with_reducible refine dops_go ?_; simp [a3, a8]) | (with_reducible refine OKv_go ?_; simp [a3, a8]) | (with_reducible refine OKr_go ?_; simp [a3, a8]))); repeat' (first | refine awp_seq ?_ | refine awp_block ?_ | (refine awp_skip ?_; try simp) | (refine awp_exit ?_; try simp) | (refine awp_ret ?_; try simp) | (refine retP_same (by simp) ?_; simp) | (refine retP_flat (by simp) (by simp) (by simp (maxDischargeDepth := 30) [a3, a8]) ?_; simp) | (refine awp_reg ?_; simp [a3, a8]) | (refine awp_drawT (fun _ => false) mixed (by decide +kernel) ?_; simp [a3, a8]) | (refine guarded_split ?_ ?_ <;> (intro hg; simp only [hg]; simp [a3, a8])) | (apply awp_cond_t; focus (simp [a3, a8]; done)) | (apply awp_cond_f; focus (simp [a3, a8]; done)) | (refine awp_cond ?_; simp [a3, a8]; refine ⟨?_, ?_⟩ <;> intro hc))
            exact hI1 (above all x + 1) _ _ (by omega) ⟨x, v', out ++ [x], by simp [a3], by simp, by simp, hO3, hE2, by simp; omega, .inl ⟨by simp, by simpa using hc, rfl⟩⟩
          · rw [cutsFrom_stop hn, List.append_nil] at hc
            subst hc
            generalize nextCut all last = x at *
            (try (first | (with_reducible refine dops_go ?_; simp [a3, a5, a6, a8, hn]) | (with_reducible refine OKv_go ?_; simp [a3, a5, a6, a8, hn]) | (with_reducible refine OKr_go ?_; simp [a3, a5, a6, a8, hn]))); repeat' (first | refine awp_seq ?_ | refine awp_block ?_ | (refine awp_skip ?_; try simp) | (refine awp_exit ?_; try simp) | (refine awp_ret ?_; try simp) | (refine retP_same (by simp) ?_; simp) | (refine retP_flat (by simp) (by simp) (by simp (maxDischargeDepth := 30) [a3, a5, a6, a8, hn]) ?_; simp) | (refine awp_reg ?_; simp [a3, a5, a6, a8, hn]) | (refine awp_drawT (fun _ => false) mixed (by decide +kernel) ?_; simp [a3, a5, a6, a8, hn]) | (refine guarded_split ?_ ?_ <;> (intro hg; simp only [hg]; simp [a3, a5, a6, a8, hn])) | (apply awp_cond_t; focus (simp [a3, a5, a6, a8, hn]; done)) | (apply awp_cond_f; focus (simp [a3, a5, a6, a8, hn]; done)) | (refine awp_cond ?_; simp [a3, a5, a6, a8, hn]; refine ⟨?_, ?_⟩ <;> intro hc))
            exact hI1 0 _ _ (by omega) ⟨last, v, out, by simp [a3], by simp [a5], by simp [a6], hO, hE, Nat.le_refl _, .inr ⟨by simp, rfl, rfl⟩⟩
      · (try (first | (with_reducible refine dops_go ?_; simp [a3, a5, a6, a7]) | (with_reducible refine OKv_go ?_; simp [a3, a5, a6, a7]) | (with_reducible refine OKr_go ?_; simp [a3, a5, a6, a7]))); repeat' (first | refine awp_seq ?_ | refine awp_block ?_ | (refine awp_skip ?_; try simp) | (refine awp_exit ?_; try simp) | (refine awp_ret ?_; try simp) | (refine retP_same (by simp) ?_; simp) | (refine retP_flat (by simp) (by simp) (by simp (maxDischargeDepth := 30) [a3, a5, a6, a7]) ?_; simp) | (refine awp_reg ?_; simp [a3, a5, a6, a7]) | (refine awp_drawT (fun _ => false) mixed (by decide +kernel) ?_; simp [a3, a5, a6, a7]) | (refine guarded_split ?_ ?_ <;> (intro hg; simp only [hg]; simp [a3, a5, a6, a7])) | (apply awp_cond_t; focus (simp [a3, a5, a6, a7]; done)) | (apply awp_cond_f; focus (simp [a3, a5, a6, a7]; done)) | (refine awp_cond ?_; simp [a3, a5, a6, a7]; refine ⟨?_, ?_⟩ <;> intro hc))
        exact hR1 _ _ ⟨by simp [a5]; exact hO, hE⟩
    · rintro A τ ⟨hO, hE⟩
      generalize ha5 : A 5 = v at *
      (try (first | (with_reducible refine dops_go ?_; simp [ha5]) | (with_reducible refine OKv_go ?_; simp [ha5]) | (with_reducible refine OKr_go ?_; simp [ha5]))); repeat' (first | refine awp_seq ?_ | refine awp_block ?_ | (refine awp_skip ?_; try simp) | (refine awp_exit ?_; try simp) | (refine awp_ret ?_; try simp) | (refine awp_reg ?_; simp [ha5]) | (refine awp_drawT (fun _ => false) mixed (by decide +kernel) ?_; simp [ha5]) | (refine guarded_split ?_ ?_ <;> (intro hg; simp only [hg]; simp [ha5])) | (apply awp_cond_t; focus (simp [ha5]; done)) | (apply awp_cond_f; focus (simp [ha5]; done)) | (refine awp_cond ?_; simp [ha5]; refine ⟨?_, ?_⟩ <;> intro hc))
      exact retP_own (.inr rfl) (by simp) hO hE
end Go.Proofs.YtanimmdlgmkmkaaGreat.Av.Zn


/- The document's zones: the walks of End, Join, Of, both. -/
namespace Go.Proofs.YtanimmdlgmkmkaaGreat.Av.Zn
open Go
set_option linter.unusedSimpArgs false
set_option linter.unusedVariables false
set_option maxRecDepth 100000
set_option maxHeartbeats 4000000
set_option pp.maxSteps 300

def endOf (C : List Int) (i : Nat) : Int := match C[i + 1]? with | some x => x - 1 | none => 4294967295
theorem end_calls (C : List Int) (f : Bool) (i : Nat) (hl : C.length < 2 ^ 60) (hi : i < 2 ^ 60) (hC : ∀ x ∈ C, 0 ≤ x ∧ x ≤ 4294967296) : PCalls Tryz.prog 114 [inAV C f, .raw (.int .i64 i)] (.raw (.int .i64 (endOf C i))) := by
  refine pbody Tryz.func114 rfl (N := 16) rfl rfl (by simp) (by simp [noIds]) fun σ => ?_
  have w1 : IntKind.i64.wrap ((i : Int) + 1) = ((i + 1 : Nat) : Int) := by rw [wrap64 (by omega) (by omega)]; omega
  obtain ⟨k, hk⟩ : ∃ k, i + 1 = k := ⟨_, rfl⟩
  rw [hk] at w1
  unfold endOf
  rw [hk]
  by_cases hlt : k < C.length
  · have hx : C[k]? = some C[k] := List.getElem?_eq_getElem hlt
    obtain ⟨x1, x2⟩ := hC C[k] (List.getElem_mem _)
    have w2 : IntKind.i64.wrap (C[k] - 1) = C[k] - 1 := wrap64 (by omega) (by omega)
    (try (first | (with_reducible refine dops_go ?_; simp [inAV, iAV, w1, hlt, w2]) | (with_reducible refine OKv_go ?_; simp [inAV, iAV, w1, hlt, w2]) | (with_reducible refine OKr_go ?_; simp [inAV, iAV, w1, hlt, w2]))); repeat' (first | refine awp_seq ?_ | refine awp_block ?_ | (refine awp_skip ?_; try simp) | (refine awp_exit ?_; try simp) | (refine awp_ret ?_; try simp) | (refine retP_same (by simp) ?_; simp) | (refine retP_flat (by simp) (by simp) (by simp (maxDischargeDepth := 30) [inAV, iAV, w1, hlt, w2]) ?_; simp) | (refine awp_reg ?_; simp [inAV, iAV, w1, hlt, w2]) | (refine awp_drawT (fun _ => false) mixed (by decide +kernel) ?_; simp [inAV, iAV, w1, hlt, w2]) | (refine guarded_split ?_ ?_ <;> (intro hg; simp only [hg]; simp [inAV, iAV, w1, hlt, w2])) | (apply awp_cond_t; focus (simp [inAV, iAV, w1, hlt, w2]; done)) | (apply awp_cond_f; focus (simp [inAV, iAV, w1, hlt, w2]; done)) | (refine awp_cond ?_; simp [inAV, iAV, w1, hlt, w2]; refine ⟨?_, ?_⟩ <;> intro hc))
  · have hx : C[k]? = none := List.getElem?_eq_none (by omega)
    rw [hx]
    (try (first | (with_reducible refine dops_go ?_; simp [inAV, iAV, w1, hlt]) | (with_reducible refine OKv_go ?_; simp [inAV, iAV, w1, hlt]) | (with_reducible refine OKr_go ?_; simp [inAV, iAV, w1, hlt]))); repeat' (first | refine awp_seq ?_ | refine awp_block ?_ | (refine awp_skip ?_; try simp) | (refine awp_exit ?_; try simp) | (refine awp_ret ?_; try simp) | (refine retP_same (by simp) ?_; simp) | (refine retP_flat (by simp) (by simp) (by simp (maxDischargeDepth := 30) [inAV, iAV, w1, hlt]) ?_; simp) | (refine awp_reg ?_; simp [inAV, iAV, w1, hlt]) | (refine awp_drawT (fun _ => false) mixed (by decide +kernel) ?_; simp [inAV, iAV, w1, hlt]) | (refine guarded_split ?_ ?_ <;> (intro hg; simp only [hg]; simp [inAV, iAV, w1, hlt])) | (apply awp_cond_t; focus (simp [inAV, iAV, w1, hlt]; done)) | (apply awp_cond_f; focus (simp [inAV, iAV, w1, hlt]; done)) | (refine awp_cond ?_; simp [inAV, iAV, w1, hlt]; refine ⟨?_, ?_⟩ <;> intro hc))

def joinZ (z : List Rg) (f t : Int) : List Rg :=
  match z[z.length - 1]? with
  | some r => if r.hi + 1 = f then z.set (z.length - 1) ⟨r.lo, t⟩ else z ++ [⟨f, t⟩]
  | none => z ++ [⟨f, t⟩]
/-- Joining the cuts that are wanted, behind what is there. -/
def joins (p : Int → Bool) (C : List Int) : Nat → List Rg
  | 0 => []
  | i + 1 => match C[i]? with
    | some c => if p c then joinZ (joins p C i) c (endOf C i) else joins p C i
    | none => joins p C i
def howP (how : Int) (p q : Bool) : Bool := (how == 1 && p && q) || (how == 2 && (p || q)) || (how == 3 && p && !q)
end Go.Proofs.YtanimmdlgmkmkaaGreat.Av.Zn


/- The document's comparisons of lists, rules, topologies; its ranges and atoms. -/
namespace Go.Proofs.YtanimmdlgmkmkaaGreat.Av
open Go
set_option linter.unusedSimpArgs false
set_option linter.unusedVariables false
set_option maxRecDepth 100000
set_option maxHeartbeats 4000000
set_option pp.maxSteps 600

theorem refInts_calls (x y : List Int) (fx fy : Bool) (hl : x.length < 2 ^ 60) (hl2 : y.length < 2 ^ 60) : PCalls Tryz.prog 121 [intsAV x fx, intsAV y fy] (.raw (.bool (decide (x = y)))) := by
  refine pbody Tryz.func121 rfl (N := 26) rfl rfl (by simp) (by simp [noIds]) fun σ => ?_
  by_cases hlen : x.length = y.length
  · have hli : (x.length : Int) = (y.length : Int) := by omega
    (try (first | (with_reducible refine dops_go ?_; simp [intsAV, hlen, hli]) | (with_reducible refine OKv_go ?_; simp [intsAV, hlen, hli]) | (with_reducible refine OKr_go ?_; simp [intsAV, hlen, hli]))); repeat' (first | refine awp_seq ?_ | refine awp_block ?_ | (refine awp_skip ?_; try simp) | (refine awp_exit ?_; try simp) | (refine awp_ret ?_; try simp) | (refine retP_same (by simp) ?_; simp) | (refine retP_flat (by simp) (by simp) (by simp (maxDischargeDepth := 30) [intsAV, hlen, hli]) ?_; simp) | (refine awp_reg ?_; simp [intsAV, hlen, hli]) | (refine awp_drawT (fun _ => false) mixed (by decide +kernel) ?_; simp [intsAV, hlen, hli]) | (refine guarded_split ?_ ?_ <;> (intro hg; simp only [hg]; simp [intsAV, hlen, hli])) | (apply awp_cond_t; focus (simp [intsAV, hlen, hli]; done)) | (apply awp_cond_f; focus (simp [intsAV, hlen, hli]; done)) | (refine awp_cond ?_; simp [intsAV, hlen, hli]; refine ⟨?_, ?_⟩ <;> intro hc))
    refine awp_loopH (fun n A τ => τ = σ ∧ A 0 = intsAV x fx ∧ A 1 = intsAV y fy ∧ ∃ i : Nat, A 5 = .raw (.int .i64 i) ∧ i ≤ y.length ∧ n = y.length - i ∧ x.take i = y.take i) y.length ?_ ?_
    · exact ⟨rfl, by simp [intsAV], by simp [intsAV], 0, by simp, by omega, by omega, by simp⟩
    rintro n A τ ⟨rfl, a0, a1, i, a5, hi, rfl, htk⟩ I1 hI1
    by_cases hlt : i < y.length
    · have hlx : i < x.length := by omega
      have hx : x[i]? = some x[i] := List.getElem?_eq_getElem hlx
      have hy : y[i]? = some y[i] := List.getElem?_eq_getElem hlt
      have w1 : IntKind.i64.wrap ((i : Int) + 1) = ((i + 1 : Nat) : Int) := by rw [wrap64 (by omega) (by omega)]; omega
      by_cases he : x[i] = y[i]
      · skip
        (try (first | (with_reducible refine dops_go ?_; simp [intsAV, iAV, a0, a1, a5, hlt, hlx, hlen, hx, hy, i_cells, he, w1]) | (with_reducible refine OKv_go ?_; simp [intsAV, iAV, a0, a1, a5, hlt, hlx, hlen, hx, hy, i_cells, he, w1]) | (with_reducible refine OKr_go ?_; simp [intsAV, iAV, a0, a1, a5, hlt, hlx, hlen, hx, hy, i_cells, he, w1]))); repeat' (first | refine awp_seq ?_ | refine awp_block ?_ | (refine awp_skip ?_; try simp) | (refine awp_exit ?_; try simp) | (refine awp_ret ?_; try simp) | (refine retP_same (by simp) ?_; simp) | (refine retP_flat (by simp) (by simp) (by simp (maxDischargeDepth := 30) [intsAV, iAV, a0, a1, a5, hlt, hlx, hlen, hx, hy, i_cells, he, w1]) ?_; simp) | (refine awp_reg ?_; simp [intsAV, iAV, a0, a1, a5, hlt, hlx, hlen, hx, hy, i_cells, he, w1]) | (refine awp_drawT (fun _ => false) mixed (by decide +kernel) ?_; simp [intsAV, iAV, a0, a1, a5, hlt, hlx, hlen, hx, hy, i_cells, he, w1]) | (refine guarded_split ?_ ?_ <;> (intro hg; simp only [hg]; simp [intsAV, iAV, a0, a1, a5, hlt, hlx, hlen, hx, hy, i_cells, he, w1])) | (apply awp_cond_t; focus (simp [intsAV, iAV, a0, a1, a5, hlt, hlx, hlen, hx, hy, i_cells, he, w1]; done)) | (apply awp_cond_f; focus (simp [intsAV, iAV, a0, a1, a5, hlt, hlx, hlen, hx, hy, i_cells, he, w1]; done)) | (refine awp_cond ?_; simp [intsAV, iAV, a0, a1, a5, hlt, hlx, hlen, hx, hy, i_cells, he, w1]; refine ⟨?_, ?_⟩ <;> intro hc))
        all_goals exact hI1 (y.length - (i + 1)) _ _ (by omega) ⟨rfl, by simp [a0, intsAV, iAV], by simp [a1, intsAV, iAV], i + 1, by simp [w1], by omega, rfl, take_eq htk hx (by rw [hy, he])⟩
      · skip
        (try (first | (with_reducible refine dops_go ?_; simp [intsAV, iAV, a0, a1, a5, hlt, hlx, hlen, hx, hy, i_cells, he, w1]) | (with_reducible refine OKv_go ?_; simp [intsAV, iAV, a0, a1, a5, hlt, hlx, hlen, hx, hy, i_cells, he, w1]) | (with_reducible refine OKr_go ?_; simp [intsAV, iAV, a0, a1, a5, hlt, hlx, hlen, hx, hy, i_cells, he, w1]))); repeat' (first | refine awp_seq ?_ | refine awp_block ?_ | (refine awp_skip ?_; try simp) | (refine awp_exit ?_; try simp) | (refine awp_ret ?_; try simp) | (refine retP_same (by simp) ?_; simp) | (refine retP_flat (by simp) (by simp) (by simp (maxDischargeDepth := 30) [intsAV, iAV, a0, a1, a5, hlt, hlx, hlen, hx, hy, i_cells, he, w1]) ?_; simp) | (refine awp_reg ?_; simp [intsAV, iAV, a0, a1, a5, hlt, hlx, hlen, hx, hy, i_cells, he, w1]) | (refine awp_drawT (fun _ => false) mixed (by decide +kernel) ?_; simp [intsAV, iAV, a0, a1, a5, hlt, hlx, hlen, hx, hy, i_cells, he, w1]) | (refine guarded_split ?_ ?_ <;> (intro hg; simp only [hg]; simp [intsAV, iAV, a0, a1, a5, hlt, hlx, hlen, hx, hy, i_cells, he, w1])) | (apply awp_cond_t; focus (simp [intsAV, iAV, a0, a1, a5, hlt, hlx, hlen, hx, hy, i_cells, he, w1]; done)) | (apply awp_cond_f; focus (simp [intsAV, iAV, a0, a1, a5, hlt, hlx, hlen, hx, hy, i_cells, he, w1]; done)) | (refine awp_cond ?_; simp [intsAV, iAV, a0, a1, a5, hlt, hlx, hlen, hx, hy, i_cells, he, w1]; refine ⟨?_, ?_⟩ <;> intro hc))
        all_goals (rintro rfl; exact he rfl)
    · have : i = y.length := by omega
      subst this
      have hxy : x = y := by
        rw [List.take_length, ← hlen, List.take_length] at htk; exact htk
      (try (first | (with_reducible refine dops_go ?_; simp [intsAV, a0, a1, a5, hlen]) | (with_reducible refine OKv_go ?_; simp [intsAV, a0, a1, a5, hlen]) | (with_reducible refine OKr_go ?_; simp [intsAV, a0, a1, a5, hlen]))); repeat' (first | refine awp_seq ?_ | refine awp_block ?_ | (refine awp_skip ?_; try simp) | (refine awp_exit ?_; try simp) | (refine awp_ret ?_; try simp) | (refine retP_same (by simp) ?_; simp) | (refine retP_flat (by simp) (by simp) (by simp (maxDischargeDepth := 30) [intsAV, a0, a1, a5, hlen]) ?_; simp) | (refine awp_reg ?_; simp [intsAV, a0, a1, a5, hlen]) | (refine awp_drawT (fun _ => false) mixed (by decide +kernel) ?_; simp [intsAV, a0, a1, a5, hlen]) | (refine guarded_split ?_ ?_ <;> (intro hg; simp only [hg]; simp [intsAV, a0, a1, a5, hlen])) | (apply awp_cond_t; focus (simp [intsAV, a0, a1, a5, hlen]; done)) | (apply awp_cond_f; focus (simp [intsAV, a0, a1, a5, hlen]; done)) | (refine awp_cond ?_; simp [intsAV, a0, a1, a5, hlen]; refine ⟨?_, ?_⟩ <;> intro hc))
      all_goals first | exact hxy | simp [hxy]
  · have hli : ¬ ((x.length : Int) = (y.length : Int)) := by omega
    (try (first | (with_reducible refine dops_go ?_; simp [intsAV, hlen, hli]) | (with_reducible refine OKv_go ?_; simp [intsAV, hlen, hli]) | (with_reducible refine OKr_go ?_; simp [intsAV, hlen, hli]))); repeat' (first | refine awp_seq ?_ | refine awp_block ?_ | (refine awp_skip ?_; try simp) | (refine awp_exit ?_; try simp) | (refine awp_ret ?_; try simp) | (refine retP_same (by simp) ?_; simp) | (refine retP_flat (by simp) (by simp) (by simp (maxDischargeDepth := 30) [intsAV, hlen, hli]) ?_; simp) | (refine awp_reg ?_; simp [intsAV, hlen, hli]) | (refine awp_drawT (fun _ => false) mixed (by decide +kernel) ?_; simp [intsAV, hlen, hli]) | (refine guarded_split ?_ ?_ <;> (intro hg; simp only [hg]; simp [intsAV, hlen, hli])) | (apply awp_cond_t; focus (simp [intsAV, hlen, hli]; done)) | (apply awp_cond_f; focus (simp [intsAV, hlen, hli]; done)) | (refine awp_cond ?_; simp [intsAV, hlen, hli]; refine ⟨?_, ?_⟩ <;> intro hc))
    all_goals (rintro rfl; exact hlen rfl)
theorem refHasI_calls (l : List Int) (f : Bool) (x : Int) (hl : l.length < 2 ^ 60) : PCalls Tryz.prog 118 [intsAV l f, .raw (.int .i64 x)] (.raw (.bool (decide (x ∈ l)))) := by
  refine pbody Tryz.func118 rfl (N := 18) rfl rfl (by simp) (by simp [noIds]) fun σ => ?_
  (try (first | (with_reducible refine dops_go ?_; simp [intsAV]) | (with_reducible refine OKv_go ?_; simp [intsAV]) | (with_reducible refine OKr_go ?_; simp [intsAV]))); repeat' (first | refine awp_seq ?_ | refine awp_block ?_ | (refine awp_skip ?_; try simp) | (refine awp_exit ?_; try simp) | (refine awp_ret ?_; try simp) | (refine retP_same (by simp) ?_; simp) | (refine retP_flat (by simp) (by simp) (by simp (maxDischargeDepth := 30) [intsAV]) ?_; simp) | (refine awp_reg ?_; simp [intsAV]) | (refine awp_drawT (fun _ => false) mixed (by decide +kernel) ?_; simp [intsAV]) | (refine guarded_split ?_ ?_ <;> (intro hg; simp only [hg]; simp [intsAV])) | (apply awp_cond_t; focus (simp [intsAV]; done)) | (apply awp_cond_f; focus (simp [intsAV]; done)) | (refine awp_cond ?_; simp [intsAV]; refine ⟨?_, ?_⟩ <;> intro hc))
  refine awp_loopH (fun n A τ => τ = σ ∧ A 0 = intsAV l f ∧ A 1 = .raw (.int .i64 x) ∧ ∃ i : Nat, A 5 = .raw (.int .i64 i) ∧ i ≤ l.length ∧ n = l.length - i ∧ x ∉ l.take i) l.length ?_ ?_
  · exact ⟨rfl, by simp [intsAV], by simp, 0, by simp, by omega, by omega, by simp⟩
  rintro n A τ ⟨rfl, a0, a1, i, a5, hi, rfl, htk⟩ I1 hI1
  by_cases hlt : i < l.length
  · have hx : l[i]? = some l[i] := List.getElem?_eq_getElem hlt
    have w1 : IntKind.i64.wrap ((i : Int) + 1) = ((i + 1 : Nat) : Int) := by rw [wrap64 (by omega) (by omega)]; omega
    by_cases he : l[i] = x
    · have hm : x ∈ l := he ▸ List.getElem_mem hlt
      (try (first | (with_reducible refine dops_go ?_; simp [intsAV, iAV, a0, a1, a5, hlt, hx, i_cells, he, w1, hm]) | (with_reducible refine OKv_go ?_; simp [intsAV, iAV, a0, a1, a5, hlt, hx, i_cells, he, w1, hm]) | (with_reducible refine OKr_go ?_; simp [intsAV, iAV, a0, a1, a5, hlt, hx, i_cells, he, w1, hm]))); repeat' (first | refine awp_seq ?_ | refine awp_block ?_ | (refine awp_skip ?_; try simp) | (refine awp_exit ?_; try simp) | (refine awp_ret ?_; try simp) | (refine retP_same (by simp) ?_; simp) | (refine retP_flat (by simp) (by simp) (by simp (maxDischargeDepth := 30) [intsAV, iAV, a0, a1, a5, hlt, hx, i_cells, he, w1, hm]) ?_; simp) | (refine awp_reg ?_; simp [intsAV, iAV, a0, a1, a5, hlt, hx, i_cells, he, w1, hm]) | (refine awp_drawT (fun _ => false) mixed (by decide +kernel) ?_; simp [intsAV, iAV, a0, a1, a5, hlt, hx, i_cells, he, w1, hm]) | (refine guarded_split ?_ ?_ <;> (intro hg; simp only [hg]; simp [intsAV, iAV, a0, a1, a5, hlt, hx, i_cells, he, w1, hm])) | (apply awp_cond_t; focus (simp [intsAV, iAV, a0, a1, a5, hlt, hx, i_cells, he, w1, hm]; done)) | (apply awp_cond_f; focus (simp [intsAV, iAV, a0, a1, a5, hlt, hx, i_cells, he, w1, hm]; done)) | (refine awp_cond ?_; simp [intsAV, iAV, a0, a1, a5, hlt, hx, i_cells, he, w1, hm]; refine ⟨?_, ?_⟩ <;> intro hc))
      all_goals exact hm
    · skip
      (try (first | (with_reducible refine dops_go ?_; simp [intsAV, iAV, a0, a1, a5, hlt, hx, i_cells, he, w1]) | (with_reducible refine OKv_go ?_; simp [intsAV, iAV, a0, a1, a5, hlt, hx, i_cells, he, w1]) | (with_reducible refine OKr_go ?_; simp [intsAV, iAV, a0, a1, a5, hlt, hx, i_cells, he, w1]))); repeat' (first | refine awp_seq ?_ | refine awp_block ?_ | (refine awp_skip ?_; try simp) | (refine awp_exit ?_; try simp) | (refine awp_ret ?_; try simp) | (refine retP_same (by simp) ?_; simp) | (refine retP_flat (by simp) (by simp) (by simp (maxDischargeDepth := 30) [intsAV, iAV, a0, a1, a5, hlt, hx, i_cells, he, w1]) ?_; simp) | (refine awp_reg ?_; simp [intsAV, iAV, a0, a1, a5, hlt, hx, i_cells, he, w1]) | (refine awp_drawT (fun _ => false) mixed (by decide +kernel) ?_; simp [intsAV, iAV, a0, a1, a5, hlt, hx, i_cells, he, w1]) | (refine guarded_split ?_ ?_ <;> (intro hg; simp only [hg]; simp [intsAV, iAV, a0, a1, a5, hlt, hx, i_cells, he, w1])) | (apply awp_cond_t; focus (simp [intsAV, iAV, a0, a1, a5, hlt, hx, i_cells, he, w1]; done)) | (apply awp_cond_f; focus (simp [intsAV, iAV, a0, a1, a5, hlt, hx, i_cells, he, w1]; done)) | (refine awp_cond ?_; simp [intsAV, iAV, a0, a1, a5, hlt, hx, i_cells, he, w1]; refine ⟨?_, ?_⟩ <;> intro hc))
      all_goals refine hI1 (l.length - (i + 1)) _ _ (by omega) ⟨rfl, by simp [a0, intsAV, iAV], by simp [a1], i + 1, by simp [w1], by omega, rfl, ?_⟩
      rw [List.take_add_one, hx]
      intro hm
      rcases List.mem_append.1 hm with hm | hm
      · exact htk hm
      · simp at hm; exact he hm.symm
  · have : i = l.length := by omega
    subst this
    rw [List.take_length] at htk
    (try (first | (with_reducible refine dops_go ?_; simp [intsAV, a0, a1, a5, htk]) | (with_reducible refine OKv_go ?_; simp [intsAV, a0, a1, a5, htk]) | (with_reducible refine OKr_go ?_; simp [intsAV, a0, a1, a5, htk]))); repeat' (first | refine awp_seq ?_ | refine awp_block ?_ | (refine awp_skip ?_; try simp) | (refine awp_exit ?_; try simp) | (refine awp_ret ?_; try simp) | (refine retP_same (by simp) ?_; simp) | (refine retP_flat (by simp) (by simp) (by simp (maxDischargeDepth := 30) [intsAV, a0, a1, a5, htk]) ?_; simp) | (refine awp_reg ?_; simp [intsAV, a0, a1, a5, htk]) | (refine awp_drawT (fun _ => false) mixed (by decide +kernel) ?_; simp [intsAV, a0, a1, a5, htk]) | (refine guarded_split ?_ ?_ <;> (intro hg; simp only [hg]; simp [intsAV, a0, a1, a5, htk])) | (apply awp_cond_t; focus (simp [intsAV, a0, a1, a5, htk]; done)) | (apply awp_cond_f; focus (simp [intsAV, a0, a1, a5, htk]; done)) | (refine awp_cond ?_; simp [intsAV, a0, a1, a5, htk]; refine ⟨?_, ?_⟩ <;> intro hc))
    all_goals exact htk
theorem refTopo_calls (x y : Tp) (fx fy : Fl) (h1 : x.ports.length < 2 ^ 60) (h2 : y.ports.length < 2 ^ 60) (h3 : x.links.length < 2 ^ 60) (h4 : y.links.length < 2 ^ 60) : PCalls Tryz.prog 68 [tpAV x fx, tpAV y fy] (.raw (.bool (decide (x = y)))) := by
  refine pbody Tryz.func68 rfl (N := 59) rfl rfl (by simp) (by simp [noIds]) fun σ => ?_
  have f2 : σ.m ⟨2, σ.nx 2, 2⟩ = none := fresh_none _ _ _
  have f3 : σ.m ⟨3, σ.nx 3, 2⟩ = none := fresh_none _ _ _
  refine awp_seq ?_
  refine awp_reg ?_
  simp [tp_cells]
  refine awp_freeze ⟨2, σ.nx 2, 2⟩ ?_
  refine awp_freeze ⟨3, σ.nx 3, 2⟩ ?_
  generalize hτ : St.del _ _ = τ
  generalize hA : (fun t => giveUp _ _ _) = A
  have a2 : A 2 = .pp (tpAV x fx).cells 0 := by rw [← hA, ← hτ]; simp [giveUp, St.new, St.del, tp_cells, new_nx']
  have a3 : A 3 = .pp (tpAV y fy).cells 0 := by rw [← hA, ← hτ]; simp [giveUp, St.new, St.del, tp_cells, new_nx']
  have hE : Ext σ τ := by
    rw [← hτ]
    refine ⟨fun i o h => ?_, fun s => ?_⟩
    · have q2 : i ≠ ⟨2, σ.nx 2, 2⟩ := fun e => by rw [e, f2] at h; cases h
      have q3 : i ≠ ⟨3, σ.nx 3, 2⟩ := fun e => by rw [e, f3] at h; cases h
      simp [St.del, St.new, q2, q3, h]
    · simp only [St.del, St.new]
      repeat' split
      all_goals omega
  clear hτ hA
  have no : (¬ x.ports.length = y.ports.length ∨ ¬ x.links.length = y.links.length) → ¬ x = y := fun h e => by subst e; simp at h
  by_cases hlen : x.ports.length = y.ports.length
  · have hli : (x.ports.length : Int) = (y.ports.length : Int) := by omega
    by_cases hlen2 : x.links.length = y.links.length
    · have hli2 : (x.links.length : Int) = (y.links.length : Int) := by omega
      clear no
      (try ((first | with_reducible refine dops_go ?_ | with_reducible refine OKv_go ?_ | with_reducible refine OKr_go ?_); simp [-cellOK, intsAV, linksAV, a2, a3, tp_cells, hlen, hli, hlen2, hli2])); repeat' (first | refine awp_seq ?_ | refine awp_block ?_ | (refine awp_skip ?_; try simp) | (refine awp_exit ?_; try simp) | (refine awp_ret ?_; try simp) | (refine retP_same (by simp) ?_; simp) | (refine retP_no (by simp) (by simp [noIds]) (by repeat (first | assumption | exact Ext.refl _ | refine ext_new' ?_ | refine Ext.setF ?_ (by first | assumption | (simp [new_nx', St.set, fresh_none]; done) | exact ext_fresh (by assumption)))) ?_; simp [-cellOK, intsAV, linksAV, a2, a3, tp_cells, hlen, hli, hlen2, hli2, new_m, set_m, new_nx']) | ((first | refine awp_reg ?_ | refine awp_drawT (fun _ => false) mixed (by decide +kernel) ?_ | refine awp_drawT isCallO mixed (by decide +kernel) ?_); simp [-cellOK, intsAV, linksAV, a2, a3, tp_cells, hlen, hli, hlen2, hli2]) | (refine guarded_split ?_ ?_ <;> (intro hg; simp only [hg]; simp [-cellOK, intsAV, linksAV, a2, a3, tp_cells, hlen, hli, hlen2, hli2])) | (apply awp_cond_t; focus (simp [-cellOK, intsAV, linksAV, a2, a3, tp_cells, hlen, hli, hlen2, hli2]; done)) | (apply awp_cond_f; focus (simp [-cellOK, intsAV, linksAV, a2, a3, tp_cells, hlen, hli, hlen2, hli2]; done)) | (refine awp_cond ?_; simp [-cellOK, intsAV, linksAV, a2, a3, tp_cells, hlen, hli, hlen2, hli2]; refine ⟨?_, ?_⟩ <;> intro hc) | fail)
      refine awp_block_cutH (fun B ρ => ρ = τ ∧ B 2 = .pp (tpAV x fx).cells 0 ∧ B 3 = .pp (tpAV y fy).cells 0 ∧ x.ports = y.ports) ?_ ?_
      · intro R1 hR1
        refine awp_loopH (fun n B ρ => ρ = τ ∧ B 2 = .pp (tpAV x fx).cells 0 ∧ B 3 = .pp (tpAV y fy).cells 0 ∧ ∃ i : Nat, B 5 = .raw (.int .i64 i) ∧ i ≤ y.ports.length ∧ n = y.ports.length - i ∧ x.ports.take i = y.ports.take i) y.ports.length ?_ ?_
        · exact ⟨rfl, by simp [a2], by simp [a3], 0, by simp, by omega, by omega, by simp⟩
        rintro n B ρ ⟨rfl, a2, a3, i, a5, hi, rfl, htk⟩ I1 hI1
        by_cases hlt : i < y.ports.length
        · have hlx : i < x.ports.length := by omega
          have hx : x.ports[i]? = some x.ports[i] := List.getElem?_eq_getElem hlx
          have hy : y.ports[i]? = some y.ports[i] := List.getElem?_eq_getElem hlt
          have w1 : IntKind.i64.wrap ((i : Int) + 1) = ((i + 1 : Nat) : Int) := by rw [wrap64 (by omega) (by omega)]; omega
          by_cases he : x.ports[i] = y.ports[i]
          · skip
            (try ((first | with_reducible refine dops_go ?_ | with_reducible refine OKv_go ?_ | with_reducible refine OKr_go ?_); simp [-cellOK, tp_cells, intsAV, iAV, a2, a3, a5, hlt, hlx, hlen, hx, hy, i_cells, he, w1])); repeat' (first | refine awp_seq ?_ | refine awp_block ?_ | (refine awp_skip ?_; try simp) | (refine awp_exit ?_; try simp) | (refine awp_ret ?_; try simp) | (refine retP_same (by simp) ?_; simp) | (refine retP_no (by simp) (by simp [noIds]) (by repeat (first | assumption | exact Ext.refl _ | refine ext_new' ?_ | refine Ext.setF ?_ (by first | assumption | (simp [new_nx', St.set, fresh_none]; done) | exact ext_fresh (by assumption)))) ?_; simp [-cellOK, tp_cells, intsAV, iAV, a2, a3, a5, hlt, hlx, hlen, hx, hy, i_cells, he, w1, new_m, set_m, new_nx']) | ((first | refine awp_reg ?_ | refine awp_drawT (fun _ => false) mixed (by decide +kernel) ?_ | refine awp_drawT isCallO mixed (by decide +kernel) ?_); simp [-cellOK, tp_cells, intsAV, iAV, a2, a3, a5, hlt, hlx, hlen, hx, hy, i_cells, he, w1]) | (refine guarded_split ?_ ?_ <;> (intro hg; simp only [hg]; simp [-cellOK, tp_cells, intsAV, iAV, a2, a3, a5, hlt, hlx, hlen, hx, hy, i_cells, he, w1])) | (apply awp_cond_t; focus (simp [-cellOK, tp_cells, intsAV, iAV, a2, a3, a5, hlt, hlx, hlen, hx, hy, i_cells, he, w1]; done)) | (apply awp_cond_f; focus (simp [-cellOK, tp_cells, intsAV, iAV, a2, a3, a5, hlt, hlx, hlen, hx, hy, i_cells, he, w1]; done)) | (refine awp_cond ?_; simp [-cellOK, tp_cells, intsAV, iAV, a2, a3, a5, hlt, hlx, hlen, hx, hy, i_cells, he, w1]; refine ⟨?_, ?_⟩ <;> intro hc) | fail)
            all_goals exact hI1 (y.ports.length - (i + 1)) _ _ (by omega) ⟨rfl, by simp [a2], by simp [a3], i + 1, by simp [w1], by omega, rfl, take_eq htk hx (by rw [hy, he])⟩
          · have hne : ¬ x = y := fun e => he (by subst e; rfl)
            (try ((first | with_reducible refine dops_go ?_ | with_reducible refine OKv_go ?_ | with_reducible refine OKr_go ?_); simp [-cellOK, tp_cells, intsAV, iAV, a2, a3, a5, hlt, hlx, hlen, hx, hy, i_cells, he, w1, hne])); repeat' (first | refine awp_seq ?_ | refine awp_block ?_ | (refine awp_skip ?_; try simp) | (refine awp_exit ?_; try simp) | (refine awp_ret ?_; try simp) | (refine retP_same (by simp) ?_; simp) | (refine retP_no (by simp) (by simp [noIds]) (by repeat (first | assumption | exact Ext.refl _ | refine ext_new' ?_ | refine Ext.setF ?_ (by first | assumption | (simp [new_nx', St.set, fresh_none]; done) | exact ext_fresh (by assumption)))) ?_; simp [-cellOK, tp_cells, intsAV, iAV, a2, a3, a5, hlt, hlx, hlen, hx, hy, i_cells, he, w1, hne, new_m, set_m, new_nx']) | ((first | refine awp_reg ?_ | refine awp_drawT (fun _ => false) mixed (by decide +kernel) ?_ | refine awp_drawT isCallO mixed (by decide +kernel) ?_); simp [-cellOK, tp_cells, intsAV, iAV, a2, a3, a5, hlt, hlx, hlen, hx, hy, i_cells, he, w1, hne]) | (refine guarded_split ?_ ?_ <;> (intro hg; simp only [hg]; simp [-cellOK, tp_cells, intsAV, iAV, a2, a3, a5, hlt, hlx, hlen, hx, hy, i_cells, he, w1, hne])) | (apply awp_cond_t; focus (simp [-cellOK, tp_cells, intsAV, iAV, a2, a3, a5, hlt, hlx, hlen, hx, hy, i_cells, he, w1, hne]; done)) | (apply awp_cond_f; focus (simp [-cellOK, tp_cells, intsAV, iAV, a2, a3, a5, hlt, hlx, hlen, hx, hy, i_cells, he, w1, hne]; done)) | (refine awp_cond ?_; simp [-cellOK, tp_cells, intsAV, iAV, a2, a3, a5, hlt, hlx, hlen, hx, hy, i_cells, he, w1, hne]; refine ⟨?_, ?_⟩ <;> intro hc) | fail)
        · have : i = y.ports.length := by omega
          subst this
          have hxy : x.ports = y.ports := by
            rw [List.take_length, ← hlen, List.take_length] at htk; exact htk
          (try ((first | with_reducible refine dops_go ?_ | with_reducible refine OKv_go ?_ | with_reducible refine OKr_go ?_); simp [-cellOK, tp_cells, intsAV, a2, a3, a5, hlen])); repeat' (first | refine awp_seq ?_ | refine awp_block ?_ | (refine awp_skip ?_; try simp) | (refine awp_exit ?_; try simp) | (refine awp_ret ?_; try simp) | (refine retP_same (by simp) ?_; simp) | (refine retP_no (by simp) (by simp [noIds]) (by repeat (first | assumption | exact Ext.refl _ | refine ext_new' ?_ | refine Ext.setF ?_ (by first | assumption | (simp [new_nx', St.set, fresh_none]; done) | exact ext_fresh (by assumption)))) ?_; simp [-cellOK, tp_cells, intsAV, a2, a3, a5, hlen, new_m, set_m, new_nx']) | ((first | refine awp_reg ?_ | refine awp_drawT (fun _ => false) mixed (by decide +kernel) ?_ | refine awp_drawT isCallO mixed (by decide +kernel) ?_); simp [-cellOK, tp_cells, intsAV, a2, a3, a5, hlen]) | (refine guarded_split ?_ ?_ <;> (intro hg; simp only [hg]; simp [-cellOK, tp_cells, intsAV, a2, a3, a5, hlen])) | (apply awp_cond_t; focus (simp [-cellOK, tp_cells, intsAV, a2, a3, a5, hlen]; done)) | (apply awp_cond_f; focus (simp [-cellOK, tp_cells, intsAV, a2, a3, a5, hlen]; done)) | (refine awp_cond ?_; simp [-cellOK, tp_cells, intsAV, a2, a3, a5, hlen]; refine ⟨?_, ?_⟩ <;> intro hc) | fail)
          all_goals exact hR1 _ _ ⟨rfl, by simp [a2], by simp [a3], hxy⟩
      · rintro B ρ ⟨rfl, a2, a3, hp⟩
        (try ((first | with_reducible refine dops_go ?_ | with_reducible refine OKv_go ?_ | with_reducible refine OKr_go ?_); simp [-cellOK, intsAV, linksAV, a2, a3, tp_cells])); repeat' (first | refine awp_seq ?_ | refine awp_block ?_ | (refine awp_skip ?_; try simp) | (refine awp_exit ?_; try simp) | (refine awp_ret ?_; try simp) | (refine retP_same (by simp) ?_; simp) | (refine retP_no (by simp) (by simp [noIds]) (by repeat (first | assumption | exact Ext.refl _ | refine ext_new' ?_ | refine Ext.setF ?_ (by first | assumption | (simp [new_nx', St.set, fresh_none]; done) | exact ext_fresh (by assumption)))) ?_; simp [-cellOK, intsAV, linksAV, a2, a3, tp_cells, new_m, set_m, new_nx']) | ((first | refine awp_reg ?_ | refine awp_drawT (fun _ => false) mixed (by decide +kernel) ?_ | refine awp_drawT isCallO mixed (by decide +kernel) ?_); simp [-cellOK, intsAV, linksAV, a2, a3, tp_cells]) | (refine guarded_split ?_ ?_ <;> (intro hg; simp only [hg]; simp [-cellOK, intsAV, linksAV, a2, a3, tp_cells])) | (apply awp_cond_t; focus (simp [-cellOK, intsAV, linksAV, a2, a3, tp_cells]; done)) | (apply awp_cond_f; focus (simp [-cellOK, intsAV, linksAV, a2, a3, tp_cells]; done)) | (refine awp_cond ?_; simp [-cellOK, intsAV, linksAV, a2, a3, tp_cells]; refine ⟨?_, ?_⟩ <;> intro hc) | fail)
        refine awp_loopH (fun n B π => π = ρ ∧ B 2 = .pp (tpAV x fx).cells 0 ∧ B 3 = .pp (tpAV y fy).cells 0 ∧ ∃ i : Nat, B 6 = .raw (.int .i64 i) ∧ i ≤ y.links.length ∧ n = y.links.length - i ∧ x.links.take i = y.links.take i) y.links.length ?_ ?_
        · exact ⟨rfl, by simp [a2], by simp [a3], 0, by simp, by omega, by omega, by simp⟩
        rintro n B π ⟨rfl, a2, a3, i, a6, hi, rfl, htk⟩ I1 hI1
        by_cases hlt : i < y.links.length
        · have hlx : i < x.links.length := by omega
          have hx : x.links[i]? = some x.links[i] := List.getElem?_eq_getElem hlx
          have hy : y.links[i]? = some y.links[i] := List.getElem?_eq_getElem hlt
          have w1 : IntKind.i64.wrap ((i : Int) + 1) = ((i + 1 : Nat) : Int) := by rw [wrap64 (by omega) (by omega)]; omega
          have fx_ : AV.agg [.raw (.int .i64 x.links[i].a.dev), .raw (.int .i64 x.links[i].a.port), .raw (.int .i64 x.links[i].b.dev), .raw (.int .i64 x.links[i].b.port)] = lkAV x.links[i] := rfl
          have fy_ : AV.agg [.raw (.int .i64 y.links[i].a.dev), .raw (.int .i64 y.links[i].a.port), .raw (.int .i64 y.links[i].b.dev), .raw (.int .i64 y.links[i].b.port)] = lkAV y.links[i] := rfl
          by_cases he : x.links[i] = y.links[i]
          · skip
            (try ((first | with_reducible refine dops_go ?_ | with_reducible refine OKv_go ?_ | with_reducible refine OKr_go ?_); simp [-cellOK, tp_cells, linksAV, a2, a3, a6, hlt, hlx, hlen2, hx, hy, lk_cells, fx_, fy_, lk_neq, opBin_raw, -opBin, he, w1])); repeat' (first | refine awp_seq ?_ | refine awp_block ?_ | (refine awp_skip ?_; try simp) | (refine awp_exit ?_; try simp) | (refine awp_ret ?_; try simp) | (refine retP_same (by simp) ?_; simp) | (refine retP_no (by simp) (by simp [noIds]) (by repeat (first | assumption | exact Ext.refl _ | refine ext_new' ?_ | refine Ext.setF ?_ (by first | assumption | (simp [new_nx', St.set, fresh_none]; done) | exact ext_fresh (by assumption)))) ?_; simp [-cellOK, tp_cells, linksAV, a2, a3, a6, hlt, hlx, hlen2, hx, hy, lk_cells, fx_, fy_, lk_neq, opBin_raw, -opBin, he, w1, new_m, set_m, new_nx']) | ((first | refine awp_reg ?_ | refine awp_drawT (fun _ => false) mixed (by decide +kernel) ?_ | refine awp_drawT isCallO mixed (by decide +kernel) ?_); simp [-cellOK, tp_cells, linksAV, a2, a3, a6, hlt, hlx, hlen2, hx, hy, lk_cells, fx_, fy_, lk_neq, opBin_raw, -opBin, he, w1]) | (refine guarded_split ?_ ?_ <;> (intro hg; simp only [hg]; simp [-cellOK, tp_cells, linksAV, a2, a3, a6, hlt, hlx, hlen2, hx, hy, lk_cells, fx_, fy_, lk_neq, opBin_raw, -opBin, he, w1])) | (apply awp_cond_t; focus (simp [-cellOK, tp_cells, linksAV, a2, a3, a6, hlt, hlx, hlen2, hx, hy, lk_cells, fx_, fy_, lk_neq, opBin_raw, -opBin, he, w1]; done)) | (apply awp_cond_f; focus (simp [-cellOK, tp_cells, linksAV, a2, a3, a6, hlt, hlx, hlen2, hx, hy, lk_cells, fx_, fy_, lk_neq, opBin_raw, -opBin, he, w1]; done)) | (refine awp_cond ?_; simp [-cellOK, tp_cells, linksAV, a2, a3, a6, hlt, hlx, hlen2, hx, hy, lk_cells, fx_, fy_, lk_neq, opBin_raw, -opBin, he, w1]; refine ⟨?_, ?_⟩ <;> intro hc) | fail)
            all_goals exact hI1 (y.links.length - (i + 1)) _ _ (by omega) ⟨rfl, by simp [a2], by simp [a3], i + 1, by simp [w1], by omega, rfl, take_eq htk hx (by rw [hy, he])⟩
          · have hne : ¬ x = y := fun e => he (by subst e; rfl)
            (try ((first | with_reducible refine dops_go ?_ | with_reducible refine OKv_go ?_ | with_reducible refine OKr_go ?_); simp [-cellOK, tp_cells, linksAV, a2, a3, a6, hlt, hlx, hlen2, hx, hy, lk_cells, fx_, fy_, lk_neq, opBin_raw, -opBin, he, w1, hne])); repeat' (first | refine awp_seq ?_ | refine awp_block ?_ | (refine awp_skip ?_; try simp) | (refine awp_exit ?_; try simp) | (refine awp_ret ?_; try simp) | (refine retP_same (by simp) ?_; simp) | (refine retP_no (by simp) (by simp [noIds]) (by repeat (first | assumption | exact Ext.refl _ | refine ext_new' ?_ | refine Ext.setF ?_ (by first | assumption | (simp [new_nx', St.set, fresh_none]; done) | exact ext_fresh (by assumption)))) ?_; simp [-cellOK, tp_cells, linksAV, a2, a3, a6, hlt, hlx, hlen2, hx, hy, lk_cells, fx_, fy_, lk_neq, opBin_raw, -opBin, he, w1, hne, new_m, set_m, new_nx']) | ((first | refine awp_reg ?_ | refine awp_drawT (fun _ => false) mixed (by decide +kernel) ?_ | refine awp_drawT isCallO mixed (by decide +kernel) ?_); simp [-cellOK, tp_cells, linksAV, a2, a3, a6, hlt, hlx, hlen2, hx, hy, lk_cells, fx_, fy_, lk_neq, opBin_raw, -opBin, he, w1, hne]) | (refine guarded_split ?_ ?_ <;> (intro hg; simp only [hg]; simp [-cellOK, tp_cells, linksAV, a2, a3, a6, hlt, hlx, hlen2, hx, hy, lk_cells, fx_, fy_, lk_neq, opBin_raw, -opBin, he, w1, hne])) | (apply awp_cond_t; focus (simp [-cellOK, tp_cells, linksAV, a2, a3, a6, hlt, hlx, hlen2, hx, hy, lk_cells, fx_, fy_, lk_neq, opBin_raw, -opBin, he, w1, hne]; done)) | (apply awp_cond_f; focus (simp [-cellOK, tp_cells, linksAV, a2, a3, a6, hlt, hlx, hlen2, hx, hy, lk_cells, fx_, fy_, lk_neq, opBin_raw, -opBin, he, w1, hne]; done)) | (refine awp_cond ?_; simp [-cellOK, tp_cells, linksAV, a2, a3, a6, hlt, hlx, hlen2, hx, hy, lk_cells, fx_, fy_, lk_neq, opBin_raw, -opBin, he, w1, hne]; refine ⟨?_, ?_⟩ <;> intro hc) | fail)
        · have : i = y.links.length := by omega
          subst this
          have hxy : x.links = y.links := by
            rw [List.take_length, ← hlen2, List.take_length] at htk; exact htk
          have hall : x = y := by cases x; cases y; simp only [Tp.mk.injEq]; exact ⟨hp, hxy⟩
          (try ((first | with_reducible refine dops_go ?_ | with_reducible refine OKv_go ?_ | with_reducible refine OKr_go ?_); simp [-cellOK, tp_cells, linksAV, a2, a3, a6, hlen2, hall])); repeat' (first | refine awp_seq ?_ | refine awp_block ?_ | (refine awp_skip ?_; try simp) | (refine awp_exit ?_; try simp) | (refine awp_ret ?_; try simp) | (refine retP_same (by simp) ?_; simp) | (refine retP_no (by simp) (by simp [noIds]) (by repeat (first | assumption | exact Ext.refl _ | refine ext_new' ?_ | refine Ext.setF ?_ (by first | assumption | (simp [new_nx', St.set, fresh_none]; done) | exact ext_fresh (by assumption)))) ?_; simp [-cellOK, tp_cells, linksAV, a2, a3, a6, hlen2, hall, new_m, set_m, new_nx']) | ((first | refine awp_reg ?_ | refine awp_drawT (fun _ => false) mixed (by decide +kernel) ?_ | refine awp_drawT isCallO mixed (by decide +kernel) ?_); simp [-cellOK, tp_cells, linksAV, a2, a3, a6, hlen2, hall]) | (refine guarded_split ?_ ?_ <;> (intro hg; simp only [hg]; simp [-cellOK, tp_cells, linksAV, a2, a3, a6, hlen2, hall])) | (apply awp_cond_t; focus (simp [-cellOK, tp_cells, linksAV, a2, a3, a6, hlen2, hall]; done)) | (apply awp_cond_f; focus (simp [-cellOK, tp_cells, linksAV, a2, a3, a6, hlen2, hall]; done)) | (refine awp_cond ?_; simp [-cellOK, tp_cells, linksAV, a2, a3, a6, hlen2, hall]; refine ⟨?_, ?_⟩ <;> intro hc) | fail)
    · have hli2 : ¬ (x.links.length : Int) = (y.links.length : Int) := by omega
      have no := no (.inr hlen2)
      (try ((first | with_reducible refine dops_go ?_ | with_reducible refine OKv_go ?_ | with_reducible refine OKr_go ?_); simp [-cellOK, intsAV, linksAV, a2, a3, tp_cells, hlen, hli, hlen2, hli2, no])); repeat' (first | refine awp_seq ?_ | refine awp_block ?_ | (refine awp_skip ?_; try simp) | (refine awp_exit ?_; try simp) | (refine awp_ret ?_; try simp) | (refine retP_same (by simp) ?_; simp) | (refine retP_no (by simp) (by simp [noIds]) (by repeat (first | assumption | exact Ext.refl _ | refine ext_new' ?_ | refine Ext.setF ?_ (by first | assumption | (simp [new_nx', St.set, fresh_none]; done) | exact ext_fresh (by assumption)))) ?_; simp [-cellOK, intsAV, linksAV, a2, a3, tp_cells, hlen, hli, hlen2, hli2, no, new_m, set_m, new_nx']) | ((first | refine awp_reg ?_ | refine awp_drawT (fun _ => false) mixed (by decide +kernel) ?_ | refine awp_drawT isCallO mixed (by decide +kernel) ?_); simp [-cellOK, intsAV, linksAV, a2, a3, tp_cells, hlen, hli, hlen2, hli2, no]) | (refine guarded_split ?_ ?_ <;> (intro hg; simp only [hg]; simp [-cellOK, intsAV, linksAV, a2, a3, tp_cells, hlen, hli, hlen2, hli2, no])) | (apply awp_cond_t; focus (simp [-cellOK, intsAV, linksAV, a2, a3, tp_cells, hlen, hli, hlen2, hli2, no]; done)) | (apply awp_cond_f; focus (simp [-cellOK, intsAV, linksAV, a2, a3, tp_cells, hlen, hli, hlen2, hli2, no]; done)) | (refine awp_cond ?_; simp [-cellOK, intsAV, linksAV, a2, a3, tp_cells, hlen, hli, hlen2, hli2, no]; refine ⟨?_, ?_⟩ <;> intro hc) | fail)
  · have hli : ¬ (x.ports.length : Int) = (y.ports.length : Int) := by omega
    have no := no (.inl hlen)
    (try ((first | with_reducible refine dops_go ?_ | with_reducible refine OKv_go ?_ | with_reducible refine OKr_go ?_); simp [-cellOK, intsAV, linksAV, a2, a3, tp_cells, hlen, hli, no])); repeat' (first | refine awp_seq ?_ | refine awp_block ?_ | (refine awp_skip ?_; try simp) | (refine awp_exit ?_; try simp) | (refine awp_ret ?_; try simp) | (refine retP_same (by simp) ?_; simp) | (refine retP_no (by simp) (by simp [noIds]) (by repeat (first | assumption | exact Ext.refl _ | refine ext_new' ?_ | refine Ext.setF ?_ (by first | assumption | (simp [new_nx', St.set, fresh_none]; done) | exact ext_fresh (by assumption)))) ?_; simp [-cellOK, intsAV, linksAV, a2, a3, tp_cells, hlen, hli, no, new_m, set_m, new_nx']) | ((first | refine awp_reg ?_ | refine awp_drawT (fun _ => false) mixed (by decide +kernel) ?_ | refine awp_drawT isCallO mixed (by decide +kernel) ?_); simp [-cellOK, intsAV, linksAV, a2, a3, tp_cells, hlen, hli, no]) | (refine guarded_split ?_ ?_ <;> (intro hg; simp only [hg]; simp [-cellOK, intsAV, linksAV, a2, a3, tp_cells, hlen, hli, no])) | (apply awp_cond_t; focus (simp [-cellOK, intsAV, linksAV, a2, a3, tp_cells, hlen, hli, no]; done)) | (apply awp_cond_f; focus (simp [-cellOK, intsAV, linksAV, a2, a3, tp_cells, hlen, hli, no]; done)) | (refine awp_cond ?_; simp [-cellOK, intsAV, linksAV, a2, a3, tp_cells, hlen, hli, no]; refine ⟨?_, ?_⟩ <;> intro hc) | fail)
end Go.Proofs.YtanimmdlgmkmkaaGreat.Av


/- The document's trace. -/
namespace Go.Proofs.YtanimmdlgmkmkaaGreat.Av
open Go
set_option linter.unusedSimpArgs false
set_option linter.unusedVariables false
set_option maxRecDepth 100000
set_option maxHeartbeats 4000000
set_option pp.maxSteps 600

@[simp] theorem regD_o (ops : List Oper) (rcs : Oper → Bool) (o : Oper) : (regD ops rcs o).o = o := rfl
theorem refTrace_calls (N : Nw) (f : Fl) (d a : Int) (hN : NwOK N) (hr : rightN N = true) : PCalls Tryz.prog 69 [nwAV N f, .raw (.int .i64 d), .raw (.int .u32 a)] (.tup [tkAV (traceR N d a).1 false, .raw (.int .i64 (traceR N d a).2)]) := by
  have hstep := fun d' => refStep_calls N f d' a (by have := hN.links; omega) hN.rules
  have hnext := fun p => refNext_calls N.t f p (by have := hN.links; omega)
  have hnd : (flatP N.t.links).Nodup := by
    unfold rightN at hr
    simp only [Bool.and_eq_true] at hr
    exact rightT_nodup hr.1
  simp only [step_eq hr] at hstep
  simp only [← nextM_eq N.t _ hnd] at hnext
  have hl := hN.links
  refine pbody Tryz.func69 rfl (N := 64) rfl rfl (by simp) (by simp [noIds]) fun σ => ?_
  have f3 : σ.m ⟨3, σ.nx 3, 3⟩ = none := fresh_none _ _ _
  have f6 : σ.m ⟨6, σ.nx 6, 4⟩ = none := fresh_none _ _ _
  have f8 : σ.m ⟨8, σ.nx 8, 4⟩ = none := fresh_none _ _ _
  by_cases q : d < 0 ∨ N.t.ports.length ≤ d
  · unfold traceR
    rw [if_pos q]
    have hw : Weaker (.tup [.agg [.sl 0 [] true, .raw (.int .i64 0), .raw (.int .i64 0), .raw (.int .i64 0)], .raw (.int .i64 91)]) (.tup [tkAV ⟨[], 0, ⟨0, 0⟩⟩ false, .raw (.int .i64 91)]) := weaker_tup (weaker_agg weaker_sl)
    have fin : ∀ {A : Env} {τ : St}, Ext σ τ → aresult Tryz.prog τ.m A Tryz.f69.results = some (.tup [.agg [.sl 0 [] true, .raw (.int .i64 0), .raw (.int .i64 0), .raw (.int .i64 0)], .raw (.int .i64 91)]) → RetP Tryz.prog Tryz.f69 σ (.tup [tkAV ⟨[], 0, ⟨0, 0⟩⟩ false, .raw (.int .i64 91)]) .ret A τ := fun hE h =>
      retP_weak (.inr rfl) hE h (by simpa [giveUps, giveUp] using hw)
    by_cases q1 : d < 0
    · (try ((first | with_reducible refine dops_go ?_ | with_reducible refine OKv_go ?_ | with_reducible refine OKr_go ?_); simp [-cellOK, nw_cells, q1])); repeat' (first | refine awp_seq ?_ | refine awp_block ?_ | (refine awp_skip ?_; try simp) | (refine awp_exit ?_; try simp) | (refine awp_ret ?_; try simp) | ((first | refine awp_reg ?_ | refine awp_drawT (fun _ => false) mixed (by decide +kernel) ?_ | refine awp_drawT isCallO mixed (by decide +kernel) ?_); simp [-cellOK, nw_cells, q1]) | (refine guarded_split ?_ ?_ <;> (intro hg; simp only [hg]; simp [-cellOK, nw_cells, q1])) | (apply awp_cond_t; focus (simp [-cellOK, nw_cells, q1]; done)) | (apply awp_cond_f; focus (simp [-cellOK, nw_cells, q1]; done)) | (refine awp_cond ?_; simp [-cellOK, nw_cells, q1]; refine ⟨?_, ?_⟩ <;> intro hc) | fail)
      exact fin (by repeat (first | assumption | exact Ext.refl _ | refine ext_new' ?_ | refine Ext.setF ?_ (by first | assumption | (simp [new_nx', St.set, fresh_none]; done) | exact ext_fresh (by assumption)))) (by simp [new_m, set_m, new_nx'])
    · have q2 : (N.t.ports.length : Int) ≤ d := by omega
      (try ((first | with_reducible refine dops_go ?_ | with_reducible refine OKv_go ?_ | with_reducible refine OKr_go ?_); simp [-cellOK, nw_cells, q1, q2, intsAV])); repeat' (first | refine awp_seq ?_ | refine awp_block ?_ | (refine awp_skip ?_; try simp) | (refine awp_exit ?_; try simp) | (refine awp_ret ?_; try simp) | ((first | refine awp_reg ?_ | refine awp_drawT (fun _ => false) mixed (by decide +kernel) ?_ | refine awp_drawT isCallO mixed (by decide +kernel) ?_); simp [-cellOK, nw_cells, q1, q2, intsAV]) | (refine guarded_split ?_ ?_ <;> (intro hg; simp only [hg]; simp [-cellOK, nw_cells, q1, q2, intsAV])) | (apply awp_cond_t; focus (simp [-cellOK, nw_cells, q1, q2, intsAV]; done)) | (apply awp_cond_f; focus (simp [-cellOK, nw_cells, q1, q2, intsAV]; done)) | (refine awp_cond ?_; simp [-cellOK, nw_cells, q1, q2, intsAV]; refine ⟨?_, ?_⟩ <;> intro hc) | fail)
      exact fin (by repeat (first | assumption | exact Ext.refl _ | refine ext_new' ?_ | refine Ext.setF ?_ (by first | assumption | (simp [new_nx', St.set, fresh_none]; done) | exact ext_fresh (by assumption)))) (by simp [new_m, set_m, new_nx'])
  have q1 : ¬ d < 0 := fun h => q (.inl h)
  have q2 : ¬ (N.t.ports.length : Int) ≤ d := fun h => q (.inr h)
  have hres : traceR N d a = (traceF N d a, 0) := by unfold traceR; rw [if_neg q]
  rw [hres]
  have hp : ∀ m, opLen Tryz.prog m 22 (intsAV N.t.ports f.p) = some (.raw (.int .i64 N.t.ports.length)) := fun m => by simp [intsAV]
  (try ((first | with_reducible refine dops_go ?_ | with_reducible refine OKv_go ?_ | with_reducible refine OKr_go ?_); simp [-cellOK, nw_cells, nw_fold, q1, q2, -opLen, hp, new_m, set_m, new_nx'])); repeat' (first | refine awp_seq ?_ | refine awp_block ?_ | (refine awp_skip ?_; try simp) | (refine awp_exit ?_; try simp) | (refine awp_ret ?_; try simp) | (refine retP_same (by simp) ?_; simp) | (refine retP_no (by simp) (by simp [noIds]) (by repeat (first | assumption | exact Ext.refl _ | refine ext_new' ?_ | refine Ext.setF ?_ (by first | assumption | (simp [new_nx', St.set, fresh_none]; done) | exact ext_fresh (by assumption)))) ?_; simp [-cellOK, nw_cells, nw_fold, q1, q2, -opLen, hp, new_m, set_m, new_nx', new_m, set_m, new_nx']) | ((first | refine awp_reg ?_ | refine awp_drawT (fun _ => false) mixed (by decide +kernel) ?_ | refine awp_drawT isCallO mixed (by decide +kernel) ?_); simp [-cellOK, nw_cells, nw_fold, q1, q2, -opLen, hp, new_m, set_m, new_nx']) | (refine guarded_split ?_ ?_ <;> (intro hg; simp only [hg]; simp [-cellOK, nw_cells, nw_fold, q1, q2, -opLen, hp, new_m, set_m, new_nx'])) | (apply awp_cond_t; focus (simp [-cellOK, nw_cells, nw_fold, q1, q2, -opLen, hp, new_m, set_m, new_nx']; done)) | (apply awp_cond_f; focus (simp [-cellOK, nw_cells, nw_fold, q1, q2, -opLen, hp, new_m, set_m, new_nx']; done)) | (refine awp_cond ?_; simp [-cellOK, nw_cells, nw_fold, q1, q2, -opLen, hp, new_m, set_m, new_nx']; refine ⟨?_, ?_⟩ <;> intro hc) | fail)
  generalize hA0 : put 64 _ _ _ = A0
  have c2 : A0 2 = .raw (.int .u32 a) := by rw [← hA0]; simp
  have c3 : A0 3 = .rp ⟨3, σ.nx 3, 3⟩ 0 0 := by rw [← hA0]; simp
  have c6 : A0 6 = .rp ⟨6, σ.nx 6, 4⟩ 0 0 := by rw [← hA0]; simp
  have c8 : A0 8 = .rp ⟨8, σ.nx 8, 4⟩ 0 0 := by rw [← hA0]; simp
  have c9 : A0 9 = .raw (.int .i64 d) := by rw [← hA0]; simp
  clear hA0
  refine awp_freeze ⟨3, σ.nx 3, 3⟩ ?_
  generalize hAA : (fun t => giveUp _ _ _) = A
  have a2 : A 2 = .raw (.int .u32 a) := by rw [← hAA]; show giveUp _ _ (A0 2) = _; rw [c2]; rfl
  have a3 : A 3 = .pp (nwAV N f).cells 0 := by
    rw [← hAA]
    show giveUp _ _ (A0 3) = _
    rw [c3, giveUp_rp_made (es := [nwAV N f]) (e := nwAV N f) (by simp [St.del]) (by simp [St.new, St.set]) rfl]
  have a6 : A 6 = .rp ⟨6, σ.nx 6, 4⟩ 0 0 := by rw [← hAA]; show giveUp _ _ (A0 6) = _; rw [c6]; exact giveUp_rp_ne (by simp)
  have a8 : A 8 = .rp ⟨8, σ.nx 8, 4⟩ 0 0 := by rw [← hAA]; show giveUp _ _ (A0 8) = _; rw [c8]; exact giveUp_rp_ne (by simp)
  have a9 : A 9 = .raw (.int .i64 d) := by rw [← hAA]; show giveUp _ _ (A0 9) = _; rw [c9]; rfl
  generalize hτ : St.del _ _ = τ
  have m6 : τ.m ⟨6, σ.nx 6, 4⟩ = some (.buf [.agg [.sl 0 [] true, .raw (.int .i64 0), .raw (.int .i64 0), .raw (.int .i64 0)]]) := by rw [← hτ]; simp [St.del, new_m, set_m, new_nx']
  have m8 : τ.m ⟨8, σ.nx 8, 4⟩ = some (.buf [.agg [.sl 0 [] true, .raw (.int .i64 0), .raw (.int .i64 0), .raw (.int .i64 0)]]) := by rw [← hτ]; simp [St.del, new_m, set_m, new_nx']
  have hE : Ext σ τ := by
    rw [← hτ]
    refine ⟨fun i o h => ?_, fun s => ?_⟩
    · have q3 : i ≠ ⟨3, σ.nx 3, 3⟩ := fun e => by rw [e, f3] at h; cases h
      have q6 : i ≠ ⟨6, σ.nx 6, 4⟩ := fun e => by rw [e, f6] at h; cases h
      have q8 : i ≠ ⟨8, σ.nx 8, 4⟩ := fun e => by rw [e, f8] at h; cases h
      simp [St.del, St.new, St.set, q3, q6, q8, h]
    · simp only [St.del, St.new, St.set]
      repeat' split
      all_goals omega
  clear hτ hAA c2 c3 c6 c8 c9
  obtain ⟨i6, hi6⟩ : ∃ i, (⟨6, σ.nx 6, 4⟩ : Id) = i := ⟨_, rfl⟩
  obtain ⟨i8, hi8⟩ : ∃ i, (⟨8, σ.nx 8, 4⟩ : Id) = i := ⟨_, rfl⟩
  have s6 : i6.sz = 4 := by rw [← hi6]
  have s8 : i8.sz = 4 := by rw [← hi8]
  have d68 : i6 ≠ i8 := by rw [← hi6, ← hi8]; simp
  rw [hi6] at m6 f6 a6
  rw [hi8] at m8 f8 a8
  clear hi6 hi8
  refine awp_loopH (fun n' B ρ => B 2 = .raw (.int .u32 a) ∧ B 3 = .pp (nwAV N f).cells 0 ∧ B 6 = .rp i6 0 0 ∧ B 8 = .rp i8 0 0 ∧ ∃ (v : AV) (p : List Int) (d' : Int), B 9 = .raw (.int .i64 d') ∧ Way N a d d' p ∧ TrS σ ρ i6 i8 v p ∧ n' = 2 + 2 * N.t.links.length - p.length) (2 + 2 * N.t.links.length) ?_ ?_
  · exact ⟨a2, a3, a6, a8, .sl 0 [] true, [], d, a9, Way.start N a d, ⟨hE, m6, m8, .inl ⟨rfl, rfl⟩⟩, rfl⟩
  clear a2 a3 a6 a8 a9 m6 m8 hE
  rintro n' B ρ ⟨a2, a3, a6, a8, v, p, d', a9, hw, hS, rfl⟩ I1 hI1
  have hpl := hw.len
  have m8 := hS.m8
  have m6 := hS.m6
  have hO := hS.own
  have hE := hS.ext
  have hhas := refHasI_calls p false d' (by omega)
  (try ((first | with_reducible refine dops_go ?_ | with_reducible refine OKv_go ?_ | with_reducible refine OKr_go ?_); simp [-cellOK, a2, a3, a6, a8, a9, m8])); repeat' (first | refine awp_seq ?_ | refine awp_block ?_ | (refine awp_skip ?_; try simp) | (refine awp_exit ?_; try simp) | (refine awp_ret ?_; try simp) | (refine retP_same (by simp) ?_; simp) | (refine retP_no (by simp) (by simp [noIds]) (by repeat (first | assumption | exact Ext.refl _ | refine ext_new' ?_ | refine Ext.setF ?_ (by first | assumption | (simp [new_nx', St.set, fresh_none]; done) | exact ext_fresh (by assumption)))) ?_; simp [-cellOK, a2, a3, a6, a8, a9, m8, new_m, set_m, new_nx']) | ((first | refine awp_reg ?_ | refine awp_drawT (fun _ => false) mixed (by decide +kernel) ?_ | refine awp_drawT isCallO mixed (by decide +kernel) ?_); simp [-cellOK, a2, a3, a6, a8, a9, m8]) | (refine guarded_split ?_ ?_ <;> (intro hg; simp only [hg]; simp [-cellOK, a2, a3, a6, a8, a9, m8])) | (apply awp_cond_t; focus (simp [-cellOK, a2, a3, a6, a8, a9, m8]; done)) | (apply awp_cond_f; focus (simp [-cellOK, a2, a3, a6, a8, a9, m8]; done)) | (refine awp_cond ?_; simp [-cellOK, a2, a3, a6, a8, a9, m8]; refine ⟨?_, ?_⟩ <;> intro hc) | fail)
  refine PCalls.useP hhas rfl hO.toP ?_
  (try ((first | with_reducible refine dops_go ?_ | with_reducible refine OKv_go ?_ | with_reducible refine OKr_go ?_); simp [-cellOK, a2, a3, a6, a8, a9, m8, -opAppend])); repeat' (first | refine awp_seq ?_ | refine awp_block ?_ | (refine awp_skip ?_; try simp) | (refine awp_exit ?_; try simp) | (refine awp_ret ?_; try simp) | (refine retP_same (by simp) ?_; simp) | (refine retP_no (by simp) (by simp [noIds]) (by repeat (first | assumption | exact Ext.refl _ | refine ext_new' ?_ | refine Ext.setF ?_ (by first | assumption | (simp [new_nx', St.set, fresh_none]; done) | exact ext_fresh (by assumption)))) ?_; simp [-cellOK, a2, a3, a6, a8, a9, m8, -opAppend, new_m, set_m, new_nx']) | ((first | refine awp_reg ?_ | refine awp_drawT (fun _ => false) mixed (by decide +kernel) ?_ | refine awp_drawT isCallO mixed (by decide +kernel) ?_); simp [-cellOK, a2, a3, a6, a8, a9, m8, -opAppend]) | (refine guarded_split ?_ ?_ <;> (intro hg; simp only [hg]; simp [-cellOK, a2, a3, a6, a8, a9, m8, -opAppend])) | (apply awp_cond_t; focus (simp [-cellOK, a2, a3, a6, a8, a9, m8, -opAppend]; done)) | (apply awp_cond_f; focus (simp [-cellOK, a2, a3, a6, a8, a9, m8, -opAppend]; done)) | (refine awp_cond ?_; simp [-cellOK, a2, a3, a6, a8, a9, m8, -opAppend]; refine ⟨?_, ?_⟩ <;> intro hc) | fail)
  refine okr_append slt22 (σ0 := σ) (hO.ext (by repeat (first | assumption | exact Ext.refl _ | refine ext_new' ?_ | refine Ext.setF ?_ (by first | assumption | (simp [new_nx', St.set, fresh_none]; done) | exact ext_fresh (by assumption))))) (by repeat (first | assumption | exact Ext.refl _ | refine ext_new' ?_ | refine Ext.setF ?_ (by first | assumption | (simp [new_nx', St.set, fresh_none]; done) | exact ext_fresh (by assumption)))) (ys := [iAV d']) (by simp [new_m, new_nx', iAV]) (.inr rfl) (by simp [iAV]) (by simp; omega) ?_
  intro v' τ' hO' hE' hk hnx
  obtain ⟨k8, _⟩ := hk i8 _ (new_up _ _ m8) (hO.ne_sz (by rw [s8]; decide))
  obtain ⟨k6, _⟩ := hk i6 _ (new_up _ _ m6) (hO.ne_sz (by rw [s6]; decide))
  clear hk hS
  have hv1 := hO'.cells
  have hv2 := hO'.cellOK
  have hO' : OwnL σ τ' 1 v' ((p ++ [d']).map iAV) := by rw [List.map_append]; exact hO'
  have hcl : ∀ x y z : Int, AV.cells (.agg [v', .raw (.int .i64 x), .raw (.int .i64 y), .raw (.int .i64 z)]) = [v', .raw (.int .i64 x), .raw (.int .i64 y), .raw (.int .i64 z)] := fun _ _ _ => rfl
  have hn6 : ∀ k l, v' ≠ .rs i6 k l := hO'.ne_sz (by rw [s6]; decide)
  have hn8 : ∀ k l, v' ≠ .rs i8 k l := hO'.ne_sz (by rw [s8]; decide)
  have e8 : ∀ s x, (i8 = (⟨s, x, 2⟩ : Id)) = False := fun s x => eq_false fun h => by rw [h] at s8; cases s8
  have e6 : ∀ s x, (i6 = (⟨s, x, 2⟩ : Id)) = False := fun s x => eq_false fun h => by rw [h] at s6; cases s6
  have e8' : ∀ s x, ((⟨s, x, 2⟩ : Id) = i8) = False := fun s x => eq_false fun h => by rw [← h] at s8; cases s8
  have e6' : ∀ s x, ((⟨s, x, 2⟩ : Id) = i6) = False := fun s x => eq_false fun h => by rw [← h] at s6; cases s6
  have hw1 : ∀ z : List AV, v' ≠ .agg z := fun z e => by rw [e] at hv2; cases hv2
  by_cases hm : d' ∈ p
  · have hfin := hw.again hm
    rw [hfin]
    (try ((first | with_reducible refine dops_go ?_ | with_reducible refine OKv_go ?_ | with_reducible refine OKr_go ?_); simp [-cellOK, a2, a3, a6, a8, a9, k8, k6, hv1, hv2, hm, new_m, set_m, new_nx', d68, Ne.symm d68])); repeat' (first | refine awp_seq ?_ | refine awp_block ?_ | (refine awp_skip ?_; try simp) | (refine awp_exit ?_; try simp) | (refine awp_ret ?_; try simp) | ((first | refine awp_reg ?_ | refine awp_drawT (fun _ => false) mixed (by decide +kernel) ?_ | refine awp_drawT isCallO mixed (by decide +kernel) ?_); simp [-cellOK, a2, a3, a6, a8, a9, k8, k6, hv1, hv2, hm, new_m, set_m, new_nx', d68, Ne.symm d68]) | (refine guarded_split ?_ ?_ <;> (intro hg; simp only [hg]; simp [-cellOK, a2, a3, a6, a8, a9, k8, k6, hv1, hv2, hm, new_m, set_m, new_nx', d68, Ne.symm d68])) | (apply awp_cond_t; focus (simp [-cellOK, a2, a3, a6, a8, a9, k8, k6, hv1, hv2, hm, new_m, set_m, new_nx', d68, Ne.symm d68]; done)) | (apply awp_cond_f; focus (simp [-cellOK, a2, a3, a6, a8, a9, k8, k6, hv1, hv2, hm, new_m, set_m, new_nx', d68, Ne.symm d68]; done)) | (refine awp_cond ?_; simp [-cellOK, a2, a3, a6, a8, a9, k8, k6, hv1, hv2, hm, new_m, set_m, new_nx', d68, Ne.symm d68]; refine ⟨?_, ?_⟩ <;> intro hc) | fail)
    exact retP_ownAT (b := .int .i64 4) (c := .int .i64 0) (d := .int .i64 0) (u := .int .i64 0) (.inr rfl) (by simp [a6, k6, k8, set_m, d68, Ne.symm d68]) ((hO'.set hn8).set hn6) (Ext.setF (Ext.setF hE' f8) f6)
  · have hstep := hstep d'
    by_cases h4 : (stepF N d' a).1 = 4
    · have hon := hw.on hm h4
      have hnext := hnext (stepF N d' a).2
      have hnx1 : ((nextM N.t (stepF N d' a).2).getD ⟨0, 0⟩).dev = nextDev N (stepF N d' a).2 := rfl
      generalize nextDev N (stepF N d' a).2 = nd at *
      generalize (nextM N.t (stepF N d' a).2).getD ⟨0, 0⟩ = qp at *
      generalize (nextM N.t (stepF N d' a).2).isSome = qb at *
      generalize (stepF N d' a).2 = pt at *
      rw [h4] at hstep
      (try ((first | with_reducible refine dops_go ?_ | with_reducible refine OKv_go ?_ | with_reducible refine OKr_go ?_); simp [-cellOK, a2, a3, a6, a8, a9, k8, k6, hv1, hv2, hm, nw_cells, nw_fold, pt_cells, pt_put, new_m, set_m, new_nx', d68, Ne.symm d68, e8, e6, e8', e6'])); repeat' (first | refine awp_seq ?_ | refine awp_block ?_ | (refine awp_skip ?_; try simp) | (refine awp_exit ?_; try simp) | (refine awp_ret ?_; try simp) | (refine retP_same (by simp) ?_; simp) | (refine retP_no (by simp) (by simp [noIds]) (by repeat (first | assumption | exact Ext.refl _ | refine ext_new' ?_ | refine Ext.setF ?_ (by first | assumption | (simp [new_nx', St.set, fresh_none]; done) | exact ext_fresh (by assumption)))) ?_; simp [-cellOK, a2, a3, a6, a8, a9, k8, k6, hv1, hv2, hm, nw_cells, nw_fold, pt_cells, pt_put, new_m, set_m, new_nx', d68, Ne.symm d68, e8, e6, e8', e6', new_m, set_m, new_nx']) | ((first | refine awp_reg ?_ | refine awp_drawT (fun _ => false) mixed (by decide +kernel) ?_ | refine awp_drawT isCallO mixed (by decide +kernel) ?_ | refine PCalls.use (hstep) ?_ | refine Or.inl ⟨_, Or.inl (hstep), ?_⟩ | refine PCalls.use (hnext) ?_ | refine Or.inl ⟨_, Or.inl (hnext), ?_⟩); simp [-cellOK, a2, a3, a6, a8, a9, k8, k6, hv1, hv2, hm, nw_cells, nw_fold, pt_cells, pt_put, new_m, set_m, new_nx', d68, Ne.symm d68, e8, e6, e8', e6']) | (refine guarded_split ?_ ?_ <;> (intro hg; simp only [hg]; simp [-cellOK, a2, a3, a6, a8, a9, k8, k6, hv1, hv2, hm, nw_cells, nw_fold, pt_cells, pt_put, new_m, set_m, new_nx', d68, Ne.symm d68, e8, e6, e8', e6'])) | (apply awp_cond_t; focus (simp [-cellOK, a2, a3, a6, a8, a9, k8, k6, hv1, hv2, hm, nw_cells, nw_fold, pt_cells, pt_put, new_m, set_m, new_nx', d68, Ne.symm d68, e8, e6, e8', e6']; done)) | (apply awp_cond_f; focus (simp [-cellOK, a2, a3, a6, a8, a9, k8, k6, hv1, hv2, hm, nw_cells, nw_fold, pt_cells, pt_put, new_m, set_m, new_nx', d68, Ne.symm d68, e8, e6, e8', e6']; done)) | (refine awp_cond ?_; simp [-cellOK, a2, a3, a6, a8, a9, k8, k6, hv1, hv2, hm, nw_cells, nw_fold, pt_cells, pt_put, new_m, set_m, new_nx', d68, Ne.symm d68, e8, e6, e8', e6']; refine ⟨?_, ?_⟩ <;> intro hc) | fail)
      refine hI1 (2 + 2 * N.t.links.length - (p ++ [d']).length) _ _ (by simp; omega) ⟨by simp [a2], by simp [a3], by simp [a6], by simp [a8], v', p ++ [d'], nd, by simp [hnx1], hon, ⟨?_, ?_, ?_, ?_⟩, rfl⟩
      · exact (by repeat (first | assumption | exact Ext.refl _ | refine ext_new' ?_ | refine Ext.setF ?_ (by first | assumption | (simp [new_nx', St.set, fresh_none, e8']; done) | exact ext_fresh (by assumption))))
      · simp [new_m, set_m, new_nx', e6, e8, k6, k8, d68]
      · simp [new_m, set_m, new_nx', e6, e8, k6, k8, d68]
      · exact (hO'.set hn8).ext (by repeat (first | assumption | exact Ext.refl _ | refine ext_new' ?_ | refine Ext.setF ?_ (by first | assumption | (simp [new_nx', St.set, fresh_none, e8']; done) | exact ext_fresh (by assumption))))
    · have hfin := hw.fin hm h4
      rw [hfin]
      generalize (stepF N d' a).2 = pt at *
      generalize (stepF N d' a).1 = sf at *
      (try ((first | with_reducible refine dops_go ?_ | with_reducible refine OKv_go ?_ | with_reducible refine OKr_go ?_); simp [-cellOK, a2, a3, a6, a8, a9, k8, k6, hv1, hv2, hm, h4, nw_cells, nw_fold, pt_cells, pt_put, new_m, set_m, new_nx', d68, Ne.symm d68, e8, e6, e8', e6'])); repeat' (first | refine awp_seq ?_ | refine awp_block ?_ | (refine awp_skip ?_; try simp) | (refine awp_exit ?_; try simp) | (refine awp_ret ?_; try simp) | ((first | refine awp_reg ?_ | refine awp_drawT (fun _ => false) mixed (by decide +kernel) ?_ | refine awp_drawT isCallO mixed (by decide +kernel) ?_ | refine PCalls.use (hstep) ?_ | refine Or.inl ⟨_, Or.inl (hstep), ?_⟩); simp [-cellOK, a2, a3, a6, a8, a9, k8, k6, hv1, hv2, hm, h4, nw_cells, nw_fold, pt_cells, pt_put, new_m, set_m, new_nx', d68, Ne.symm d68, e8, e6, e8', e6']) | (refine guarded_split ?_ ?_ <;> (intro hg; simp only [hg]; simp [-cellOK, a2, a3, a6, a8, a9, k8, k6, hv1, hv2, hm, h4, nw_cells, nw_fold, pt_cells, pt_put, new_m, set_m, new_nx', d68, Ne.symm d68, e8, e6, e8', e6'])) | (apply awp_cond_t; focus (simp [-cellOK, a2, a3, a6, a8, a9, k8, k6, hv1, hv2, hm, h4, nw_cells, nw_fold, pt_cells, pt_put, new_m, set_m, new_nx', d68, Ne.symm d68, e8, e6, e8', e6']; done)) | (apply awp_cond_f; focus (simp [-cellOK, a2, a3, a6, a8, a9, k8, k6, hv1, hv2, hm, h4, nw_cells, nw_fold, pt_cells, pt_put, new_m, set_m, new_nx', d68, Ne.symm d68, e8, e6, e8', e6']; done)) | (refine awp_cond ?_; simp [-cellOK, a2, a3, a6, a8, a9, k8, k6, hv1, hv2, hm, h4, nw_cells, nw_fold, pt_cells, pt_put, new_m, set_m, new_nx', d68, Ne.symm d68, e8, e6, e8', e6']; refine ⟨?_, ?_⟩ <;> intro hc) | fail)
      exact retP_ownAT (v := v') (b := .int .i64 sf) (c := .int .i64 pt.dev) (d := .int .i64 pt.port) (u := .int .i64 0) (.inr rfl) (by simp [a6, k6, k8, new_m, set_m, new_nx', e6, e8, e6', e8', d68, Ne.symm d68]) ((((hO'.set hn8).ext (by repeat (first | assumption | exact Ext.refl _ | refine ext_new' ?_ | refine Ext.setF ?_ (by first | assumption | (simp [new_nx', St.set, fresh_none, e8']; done) | exact ext_fresh (by assumption))))).set hn8).set hn6) (by repeat (first | assumption | exact Ext.refl _ | refine ext_new' ?_ | refine Ext.setF ?_ (by first | assumption | (simp [new_nx', St.set, fresh_none, e8']; done) | exact ext_fresh (by assumption))))
end Go.Proofs.YtanimmdlgmkmkaaGreat.Av


/- The document's queries: one, right, sources, breaks, alike. -/
namespace Go.Proofs.YtanimmdlgmkmkaaGreat.Av
open Go
set_option linter.unusedSimpArgs false
set_option linter.unusedVariables false
set_option maxRecDepth 100000
set_option maxHeartbeats 4000000
set_option pp.maxSteps 600

theorem refOne_calls (q : Qy) : PCalls Tryz.prog 62 [qyAV q] (.raw (.bool (singleB q))) := by
  refine pbody Tryz.func62 rfl (N := 16) rfl rfl (by simp) (by simp [noIds]) fun σ => ?_
  unfold singleB
  by_cases h0 : q.kind = 0
  · (try ((first | with_reducible refine dops_go ?_ | with_reducible refine OKv_go ?_ | with_reducible refine OKr_go ?_); simp [-cellOK, qy_cells, h0])); repeat' (first | refine awp_seq ?_ | refine awp_block ?_ | (refine awp_skip ?_; try simp) | (refine awp_exit ?_; try simp) | (refine awp_ret ?_; try simp) | (refine retP_same (by simp) ?_; simp) | (refine retP_no (by simp) (by simp [noIds]) (by repeat (first | assumption | exact Ext.refl _ | refine ext_new' ?_ | refine Ext.setF ?_ (by first | assumption | (simp [new_nx', St.set, fresh_none]; done) | exact ext_fresh (by assumption)))) ?_; simp [-cellOK, qy_cells, h0, new_m, set_m, new_nx']) | ((first | refine awp_reg ?_ | refine awp_drawT (fun _ => false) mixed (by decide +kernel) ?_ | refine awp_drawT isCallO mixed (by decide +kernel) ?_); simp [-cellOK, qy_cells, h0]) | (refine guarded_split ?_ ?_ <;> (intro hg; simp only [hg]; simp [-cellOK, qy_cells, h0])) | (apply awp_cond_t; focus (simp [-cellOK, qy_cells, h0]; done)) | (apply awp_cond_f; focus (simp [-cellOK, qy_cells, h0]; done)) | (refine awp_cond ?_; simp [-cellOK, qy_cells, h0]; refine ⟨?_, ?_⟩ <;> intro hc) | fail)
  · by_cases h3 : q.kind = 3
    · (try ((first | with_reducible refine dops_go ?_ | with_reducible refine OKv_go ?_ | with_reducible refine OKr_go ?_); simp [-cellOK, qy_cells, h0, h3])); repeat' (first | refine awp_seq ?_ | refine awp_block ?_ | (refine awp_skip ?_; try simp) | (refine awp_exit ?_; try simp) | (refine awp_ret ?_; try simp) | (refine retP_same (by simp) ?_; simp) | (refine retP_no (by simp) (by simp [noIds]) (by repeat (first | assumption | exact Ext.refl _ | refine ext_new' ?_ | refine Ext.setF ?_ (by first | assumption | (simp [new_nx', St.set, fresh_none]; done) | exact ext_fresh (by assumption)))) ?_; simp [-cellOK, qy_cells, h0, h3, new_m, set_m, new_nx']) | ((first | refine awp_reg ?_ | refine awp_drawT (fun _ => false) mixed (by decide +kernel) ?_ | refine awp_drawT isCallO mixed (by decide +kernel) ?_); simp [-cellOK, qy_cells, h0, h3]) | (refine guarded_split ?_ ?_ <;> (intro hg; simp only [hg]; simp [-cellOK, qy_cells, h0, h3])) | (apply awp_cond_t; focus (simp [-cellOK, qy_cells, h0, h3]; done)) | (apply awp_cond_f; focus (simp [-cellOK, qy_cells, h0, h3]; done)) | (refine awp_cond ?_; simp [-cellOK, qy_cells, h0, h3]; refine ⟨?_, ?_⟩ <;> intro hc) | fail)
    · by_cases h4 : q.kind = 4
      · (try ((first | with_reducible refine dops_go ?_ | with_reducible refine OKv_go ?_ | with_reducible refine OKr_go ?_); simp [-cellOK, qy_cells, h0, h3, h4])); repeat' (first | refine awp_seq ?_ | refine awp_block ?_ | (refine awp_skip ?_; try simp) | (refine awp_exit ?_; try simp) | (refine awp_ret ?_; try simp) | (refine retP_same (by simp) ?_; simp) | (refine retP_no (by simp) (by simp [noIds]) (by repeat (first | assumption | exact Ext.refl _ | refine ext_new' ?_ | refine Ext.setF ?_ (by first | assumption | (simp [new_nx', St.set, fresh_none]; done) | exact ext_fresh (by assumption)))) ?_; simp [-cellOK, qy_cells, h0, h3, h4, new_m, set_m, new_nx']) | ((first | refine awp_reg ?_ | refine awp_drawT (fun _ => false) mixed (by decide +kernel) ?_ | refine awp_drawT isCallO mixed (by decide +kernel) ?_); simp [-cellOK, qy_cells, h0, h3, h4]) | (refine guarded_split ?_ ?_ <;> (intro hg; simp only [hg]; simp [-cellOK, qy_cells, h0, h3, h4])) | (apply awp_cond_t; focus (simp [-cellOK, qy_cells, h0, h3, h4]; done)) | (apply awp_cond_f; focus (simp [-cellOK, qy_cells, h0, h3, h4]; done)) | (refine awp_cond ?_; simp [-cellOK, qy_cells, h0, h3, h4]; refine ⟨?_, ?_⟩ <;> intro hc) | fail)
      · (try ((first | with_reducible refine dops_go ?_ | with_reducible refine OKv_go ?_ | with_reducible refine OKr_go ?_); simp [-cellOK, qy_cells, h0, h3, h4])); repeat' (first | refine awp_seq ?_ | refine awp_block ?_ | (refine awp_skip ?_; try simp) | (refine awp_exit ?_; try simp) | (refine awp_ret ?_; try simp) | (refine retP_same (by simp) ?_; simp) | (refine retP_no (by simp) (by simp [noIds]) (by repeat (first | assumption | exact Ext.refl _ | refine ext_new' ?_ | refine Ext.setF ?_ (by first | assumption | (simp [new_nx', St.set, fresh_none]; done) | exact ext_fresh (by assumption)))) ?_; simp [-cellOK, qy_cells, h0, h3, h4, new_m, set_m, new_nx']) | ((first | refine awp_reg ?_ | refine awp_drawT (fun _ => false) mixed (by decide +kernel) ?_ | refine awp_drawT isCallO mixed (by decide +kernel) ?_); simp [-cellOK, qy_cells, h0, h3, h4]) | (refine guarded_split ?_ ?_ <;> (intro hg; simp only [hg]; simp [-cellOK, qy_cells, h0, h3, h4])) | (apply awp_cond_t; focus (simp [-cellOK, qy_cells, h0, h3, h4]; done)) | (apply awp_cond_f; focus (simp [-cellOK, qy_cells, h0, h3, h4]; done)) | (refine awp_cond ?_; simp [-cellOK, qy_cells, h0, h3, h4]; refine ⟨?_, ?_⟩ <;> intro hc) | fail)
theorem refTkSame_calls (x y : Tk) (fx fy : Bool) (hx : x.path.length < 2 ^ 60) (hy : y.path.length < 2 ^ 60) : PCalls Tryz.prog 71 [tkAV x fx, tkAV y fy] (.raw (.bool (decide (x = y)))) := by
  have h := refInts_calls x.path y.path fx fy hx hy
  have hxy : decide (x = y) = (decide (x.path = y.path) && (decide (x.out = y.out) && (decide (x.last.dev = y.last.dev) && decide (x.last.port = y.last.port)))) := by
    rcases x with ⟨p, o, ⟨a, b⟩⟩; rcases y with ⟨p', o', ⟨a', b'⟩⟩
    rw [Bool.eq_iff_iff]; simp
  rw [hxy]
  generalize decide (x.path = y.path) = b at *
  refine pbody Tryz.func71 rfl (N := 26) rfl rfl (by simp) (by simp [noIds]) fun σ => ?_
  have k1 : (x.out = y.out) = True ∨ (x.out = y.out) = False := by by_cases h : x.out = y.out <;> simp [h]
  have k2 : (x.last.dev = y.last.dev) = True ∨ (x.last.dev = y.last.dev) = False := by by_cases h : x.last.dev = y.last.dev <;> simp [h]
  have k3 : (x.last.port = y.last.port) = True ∨ (x.last.port = y.last.port) = False := by by_cases h : x.last.port = y.last.port <;> simp [h]
  cases b <;> rcases k1 with k1 | k1 <;> rcases k2 with k2 | k2 <;> rcases k3 with k3 | k3
  all_goals
    (try ((first | with_reducible refine dops_go ?_ | with_reducible refine OKv_go ?_ | with_reducible refine OKr_go ?_); simp [-cellOK, tk_cells, k1, k2, k3, new_m, set_m, new_nx'])); repeat' (first | refine awp_seq ?_ | refine awp_block ?_ | (refine awp_skip ?_; try simp) | (refine awp_exit ?_; try simp) | (refine awp_ret ?_; try simp) | (refine retP_same (by simp) ?_; simp) | (refine retP_no (by simp) (by simp [noIds]) (by repeat (first | assumption | exact Ext.refl _ | refine ext_new' ?_ | refine Ext.setF ?_ (by first | assumption | (simp [new_nx', St.set, fresh_none]; done) | exact ext_fresh (by assumption)))) ?_; simp [-cellOK, tk_cells, k1, k2, k3, new_m, set_m, new_nx', new_m, set_m, new_nx']) | ((first | refine awp_reg ?_ | refine awp_drawT (fun _ => false) mixed (by decide +kernel) ?_ | refine awp_drawT isCallO mixed (by decide +kernel) ?_ | refine PCalls.use (h) ?_ | refine Or.inl ⟨_, Or.inl (h), ?_⟩); simp [-cellOK, tk_cells, k1, k2, k3, new_m, set_m, new_nx']) | (refine guarded_split ?_ ?_ <;> (intro hg; simp only [hg]; simp [-cellOK, tk_cells, k1, k2, k3, new_m, set_m, new_nx'])) | (apply awp_cond_t; focus (simp [-cellOK, tk_cells, k1, k2, k3, new_m, set_m, new_nx']; done)) | (apply awp_cond_f; focus (simp [-cellOK, tk_cells, k1, k2, k3, new_m, set_m, new_nx']; done)) | (refine awp_cond ?_; simp [-cellOK, tk_cells, k1, k2, k3, new_m, set_m, new_nx']; refine ⟨?_, ?_⟩ <;> intro hc) | fail)
theorem refVdSame_calls (x y : Vd) (f g : Bool) (hx : x.tr.path.length < 2 ^ 60) (hy : y.tr.path.length < 2 ^ 60) : PCalls Tryz.prog 19 [vdAV x f, vdAV y g] (.raw (.bool (decide (x = y)))) := by
  have h := refTkSame_calls x.tr y.tr f g hx hy
  have hxy : decide (x = y) = (decide (x.tr = y.tr) && ((x.holds == y.holds) && (decide (x.src = y.src) && decide (x.addr = y.addr)))) := by
    rcases x with ⟨p, o, a, b⟩; rcases y with ⟨p', o', a', b'⟩
    rw [Bool.eq_iff_iff]; simp; constructor
    · rintro ⟨h1, h2, h3, h4⟩; exact ⟨h4, h1, h2, h3⟩
    · rintro ⟨h4, h1, h2, h3⟩; exact ⟨h1, h2, h3, h4⟩
  rw [hxy]
  have htk : ∀ t b, AV.agg [intsAV t.path b, .raw (.int .i64 t.out), .raw (.int .i64 t.last.dev), .raw (.int .i64 t.last.port)] = tkAV t b := fun _ _ => rfl
  generalize decide (x.tr = y.tr) = b at *
  refine pbody Tryz.func19 rfl (N := 33) rfl rfl (by simp) (by simp [noIds]) fun σ => ?_
  obtain ⟨b1, hb1⟩ : ∃ b, (x.holds == y.holds) = b := ⟨_, rfl⟩
  have k2 : (x.src = y.src) = True ∨ (x.src = y.src) = False := by by_cases h : x.src = y.src <;> simp [h]
  have k3 : (x.addr = y.addr) = True ∨ (x.addr = y.addr) = False := by by_cases h : x.addr = y.addr <;> simp [h]
  rw [hb1]
  cases b <;> cases b1 <;> rcases k2 with k2 | k2 <;> rcases k3 with k3 | k3
  all_goals
    (try ((first | with_reducible refine dops_go ?_ | with_reducible refine OKv_go ?_ | with_reducible refine OKr_go ?_); simp [-cellOK, vd_cells, htk, hb1, k2, k3, new_m, set_m, new_nx'])); repeat' (first | refine awp_seq ?_ | refine awp_block ?_ | (refine awp_skip ?_; try simp) | (refine awp_exit ?_; try simp) | (refine awp_ret ?_; try simp) | (refine retP_same (by simp) ?_; simp) | (refine retP_no (by simp) (by simp [noIds]) (by repeat (first | assumption | exact Ext.refl _ | refine ext_new' ?_ | refine Ext.setF ?_ (by first | assumption | (simp [new_nx', St.set, fresh_none]; done) | exact ext_fresh (by assumption)))) ?_; simp [-cellOK, vd_cells, htk, hb1, k2, k3, new_m, set_m, new_nx', new_m, set_m, new_nx']) | ((first | refine awp_reg ?_ | refine awp_drawT (fun _ => false) mixed (by decide +kernel) ?_ | refine awp_drawT isCallO mixed (by decide +kernel) ?_ | refine PCalls.use (h) ?_ | refine Or.inl ⟨_, Or.inl (h), ?_⟩); simp [-cellOK, vd_cells, htk, hb1, k2, k3, new_m, set_m, new_nx']) | (refine guarded_split ?_ ?_ <;> (intro hg; simp only [hg]; simp [-cellOK, vd_cells, htk, hb1, k2, k3, new_m, set_m, new_nx'])) | (apply awp_cond_t; focus (simp [-cellOK, vd_cells, htk, hb1, k2, k3, new_m, set_m, new_nx']; done)) | (apply awp_cond_f; focus (simp [-cellOK, vd_cells, htk, hb1, k2, k3, new_m, set_m, new_nx']; done)) | (refine awp_cond ?_; simp [-cellOK, vd_cells, htk, hb1, k2, k3, new_m, set_m, new_nx']; refine ⟨?_, ?_⟩ <;> intro hc) | fail)
theorem refSources_calls (n : Nw) (f : Fl) (q : Qy) (hl : n.t.ports.length < 2 ^ 44) : PCalls Tryz.prog 22 [nwAV n f, qyAV q] (intsAV (sourcesQ n q) false) := by
  have hs := refOne_calls q
  unfold sourcesQ
  generalize singleB q = sb at hs ⊢
  refine pbody Tryz.func22 rfl (N := 27) rfl rfl (by simp) (by simp [noIds]) fun σ => ?_
  have hp : ∀ m, opLen Tryz.prog m 22 (intsAV n.t.ports f.p) = some (.raw (.int .i64 n.t.ports.length)) := fun m => by simp [intsAV]
  cases sb with
  | true =>
    (try ((first | with_reducible refine dops_go ?_ | with_reducible refine OKv_go ?_ | with_reducible refine OKr_go ?_); simp [-cellOK, nw_cells, qy_cells, qy_fold, new_m, new_nx'])); repeat' (first | refine awp_seq ?_ | refine awp_block ?_ | (refine awp_skip ?_; try simp) | (refine awp_exit ?_; try simp) | (refine awp_ret ?_; try simp) | ((first | refine awp_reg ?_ | refine awp_drawT (fun _ => false) mixed (by decide +kernel) ?_ | refine awp_drawT isCallO mixed (by decide +kernel) ?_ | refine PCalls.use (hs) ?_ | refine Or.inl ⟨_, Or.inl (hs), ?_⟩); simp [-cellOK, nw_cells, qy_cells, qy_fold, new_m, new_nx']) | (refine guarded_split ?_ ?_ <;> (intro hg; simp only [hg]; simp [-cellOK, nw_cells, qy_cells, qy_fold, new_m, new_nx'])) | (apply awp_cond_t; focus (simp [-cellOK, nw_cells, qy_cells, qy_fold, new_m, new_nx']; done)) | (apply awp_cond_f; focus (simp [-cellOK, nw_cells, qy_cells, qy_fold, new_m, new_nx']; done)) | (refine awp_cond ?_; simp [-cellOK, nw_cells, qy_cells, qy_fold, new_m, new_nx']; refine ⟨?_, ?_⟩ <;> intro hc) | fail)
    refine retP_give (x := .rs ⟨13, σ.nx 13, 1⟩ 0 1) (.inr rfl) (by repeat (first | assumption | exact Ext.refl _ | refine ext_new' ?_ | refine Ext.setF ?_ (by first | assumption | (simp [new_nx', St.set, fresh_none]; done) | exact ext_fresh (by assumption)))) ?_ ?_
    · simp [new_nx']
    · simp [giveUps, giveUp, fresh_none, new_m, new_nx', intsAV, iAV]
  | false =>
    (try ((first | with_reducible refine dops_go ?_ | with_reducible refine OKv_go ?_ | with_reducible refine OKr_go ?_); simp [-cellOK, nw_cells, qy_cells, qy_fold, new_m, new_nx', -opLen, hp])); repeat' (first | refine awp_seq ?_ | refine awp_block ?_ | (refine awp_skip ?_; try simp) | (refine awp_exit ?_; try simp) | (refine awp_ret ?_; try simp) | (refine retP_same (by simp) ?_; simp) | (refine retP_no (by simp) (by simp [noIds]) (by repeat (first | assumption | exact Ext.refl _ | refine ext_new' ?_ | refine Ext.setF ?_ (by first | assumption | (simp [new_nx', St.set, fresh_none]; done) | exact ext_fresh (by assumption)))) ?_; simp [-cellOK, nw_cells, qy_cells, qy_fold, new_m, new_nx', -opLen, hp, new_m, set_m, new_nx']) | ((first | refine awp_reg ?_ | refine awp_drawT (fun _ => false) mixed (by decide +kernel) ?_ | refine awp_drawT isCallO mixed (by decide +kernel) ?_ | refine PCalls.use (hs) ?_ | refine Or.inl ⟨_, Or.inl (hs), ?_⟩); simp [-cellOK, nw_cells, qy_cells, qy_fold, new_m, new_nx', -opLen, hp]) | (refine guarded_split ?_ ?_ <;> (intro hg; simp only [hg]; simp [-cellOK, nw_cells, qy_cells, qy_fold, new_m, new_nx', -opLen, hp])) | (apply awp_cond_t; focus (simp [-cellOK, nw_cells, qy_cells, qy_fold, new_m, new_nx', -opLen, hp]; done)) | (apply awp_cond_f; focus (simp [-cellOK, nw_cells, qy_cells, qy_fold, new_m, new_nx', -opLen, hp]; done)) | (refine awp_cond ?_; simp [-cellOK, nw_cells, qy_cells, qy_fold, new_m, new_nx', -opLen, hp]; refine ⟨?_, ?_⟩ <;> intro hc) | fail)
    refine awp_loopH (fun n' B ρ => Ext σ ρ ∧ B 2 = .rp ⟨2, σ.nx 2, 3⟩ 0 0 ∧ ρ.m ⟨2, σ.nx 2, 3⟩ = some (.buf [nwAV n f]) ∧ ∃ (i : Nat) (v : AV), B 7 = .raw (.int .i64 i) ∧ i ≤ n.t.ports.length ∧ n' = n.t.ports.length - i ∧ B 6 = v ∧ OwnL σ ρ 1 v (((List.range i).map fun i : Nat => (i : Int)).map iAV)) n.t.ports.length ?_ ?_
    · exact ⟨(by repeat (first | assumption | exact Ext.refl _ | refine ext_new' ?_ | refine Ext.setF ?_ (by first | assumption | (simp [new_nx', St.set, fresh_none]; done) | exact ext_fresh (by assumption)))), by simp, by simp [new_m, new_nx'], 0, .sl 0 [] true, by simp, by omega, by omega, by simp, .inl ⟨by simp, rfl⟩⟩
    rintro n' B ρ ⟨hE, a2, m2, i, v, a7, hi, rfl, a6, hO⟩ I1 hI1
    by_cases hlt : i < n.t.ports.length
    · have w1 : IntKind.i64.wrap ((i : Int) + 1) = ((i + 1 : Nat) : Int) := by rw [wrap64 (by omega) (by omega)]; omega
      (try ((first | with_reducible refine dops_go ?_ | with_reducible refine OKv_go ?_ | with_reducible refine OKr_go ?_); simp [-cellOK, a2, m2, a6, a7, hlt, w1, nw_cells, -opLen, hp, -opAppend])); repeat' (first | refine awp_seq ?_ | refine awp_block ?_ | (refine awp_skip ?_; try simp) | (refine awp_exit ?_; try simp) | (refine awp_ret ?_; try simp) | (refine retP_same (by simp) ?_; simp) | (refine retP_no (by simp) (by simp [noIds]) (by repeat (first | assumption | exact Ext.refl _ | refine ext_new' ?_ | refine Ext.setF ?_ (by first | assumption | (simp [new_nx', St.set, fresh_none]; done) | exact ext_fresh (by assumption)))) ?_; simp [-cellOK, a2, m2, a6, a7, hlt, w1, nw_cells, -opLen, hp, -opAppend, new_m, set_m, new_nx']) | ((first | refine awp_reg ?_ | refine awp_drawT (fun _ => false) mixed (by decide +kernel) ?_ | refine awp_drawT isCallO mixed (by decide +kernel) ?_); simp [-cellOK, a2, m2, a6, a7, hlt, w1, nw_cells, -opLen, hp, -opAppend]) | (refine guarded_split ?_ ?_ <;> (intro hg; simp only [hg]; simp [-cellOK, a2, m2, a6, a7, hlt, w1, nw_cells, -opLen, hp, -opAppend])) | (apply awp_cond_t; focus (simp [-cellOK, a2, m2, a6, a7, hlt, w1, nw_cells, -opLen, hp, -opAppend]; done)) | (apply awp_cond_f; focus (simp [-cellOK, a2, m2, a6, a7, hlt, w1, nw_cells, -opLen, hp, -opAppend]; done)) | (refine awp_cond ?_; simp [-cellOK, a2, m2, a6, a7, hlt, w1, nw_cells, -opLen, hp, -opAppend]; refine ⟨?_, ?_⟩ <;> intro hc) | fail)
      refine okr_append slt22 (σ0 := σ) (hO.ext (by repeat (first | assumption | exact Ext.refl _ | refine ext_new' ?_ | refine Ext.setF ?_ (by first | assumption | (simp [new_nx', St.set, fresh_none]; done) | exact ext_fresh (by assumption))))) (by repeat (first | assumption | exact Ext.refl _ | refine ext_new' ?_ | refine Ext.setF ?_ (by first | assumption | (simp [new_nx', St.set, fresh_none]; done) | exact ext_fresh (by assumption)))) (ys := [iAV i]) (by simp [new_m, new_nx', iAV]) (.inr rfl) (by simp [iAV]) (by simp; omega) ?_
      intro v' τ' hO' hE' hk _
      obtain ⟨k2, _⟩ := hk ⟨2, σ.nx 2, 3⟩ _ (new_up _ _ m2) (hO.ne_sz (by simp))
      (try ((first | with_reducible refine dops_go ?_ | with_reducible refine OKv_go ?_ | with_reducible refine OKr_go ?_); simp [-cellOK, a2, a6, a7, w1])); repeat' (first | refine awp_seq ?_ | refine awp_block ?_ | (refine awp_skip ?_; try simp) | (refine awp_exit ?_; try simp) | (refine awp_ret ?_; try simp) | (refine retP_same (by simp) ?_; simp) | (refine retP_no (by simp) (by simp [noIds]) (by repeat (first | assumption | exact Ext.refl _ | refine ext_new' ?_ | refine Ext.setF ?_ (by first | assumption | (simp [new_nx', St.set, fresh_none]; done) | exact ext_fresh (by assumption)))) ?_; simp [-cellOK, a2, a6, a7, w1, new_m, set_m, new_nx']) | ((first | refine awp_reg ?_ | refine awp_drawT (fun _ => false) mixed (by decide +kernel) ?_ | refine awp_drawT isCallO mixed (by decide +kernel) ?_); simp [-cellOK, a2, a6, a7, w1]) | (refine guarded_split ?_ ?_ <;> (intro hg; simp only [hg]; simp [-cellOK, a2, a6, a7, w1])) | (apply awp_cond_t; focus (simp [-cellOK, a2, a6, a7, w1]; done)) | (apply awp_cond_f; focus (simp [-cellOK, a2, a6, a7, w1]; done)) | (refine awp_cond ?_; simp [-cellOK, a2, a6, a7, w1]; refine ⟨?_, ?_⟩ <;> intro hc) | fail)
      refine hI1 (n.t.ports.length - (i + 1)) _ _ (by omega) ⟨hE', by simp [a2], k2, i + 1, v', by simp, by omega, rfl, by simp, ?_⟩
      rw [List.range_succ, List.map_append, List.map_append]
      exact hO'
    · have : i = n.t.ports.length := by omega
      subst this
      (try ((first | with_reducible refine dops_go ?_ | with_reducible refine OKv_go ?_ | with_reducible refine OKr_go ?_); simp [-cellOK, a2, m2, a6, a7, nw_cells, -opLen, hp])); repeat' (first | refine awp_seq ?_ | refine awp_block ?_ | (refine awp_skip ?_; try simp) | (refine awp_exit ?_; try simp) | (refine awp_ret ?_; try simp) | ((first | refine awp_reg ?_ | refine awp_drawT (fun _ => false) mixed (by decide +kernel) ?_ | refine awp_drawT isCallO mixed (by decide +kernel) ?_); simp [-cellOK, a2, m2, a6, a7, nw_cells, -opLen, hp]) | (refine guarded_split ?_ ?_ <;> (intro hg; simp only [hg]; simp [-cellOK, a2, m2, a6, a7, nw_cells, -opLen, hp])) | (apply awp_cond_t; focus (simp [-cellOK, a2, m2, a6, a7, nw_cells, -opLen, hp]; done)) | (apply awp_cond_f; focus (simp [-cellOK, a2, m2, a6, a7, nw_cells, -opLen, hp]; done)) | (refine awp_cond ?_; simp [-cellOK, a2, m2, a6, a7, nw_cells, -opLen, hp]; refine ⟨?_, ?_⟩ <;> intro hc) | fail)
      exact retP_own (v := v) (.inr rfl) (by simp) hO hE
theorem comesB_mem (t : Tk) (d : Int) : comesB t d = decide (d ∈ t.path) := by
  unfold comesB
  rw [Bool.eq_iff_iff, List.any_eq_true, decide_eq_true_eq]
  constructor
  · rintro ⟨x, h1, h2⟩
    simp only [decide_eq_true_eq] at h2
    exact h2 ▸ h1
  · intro h; exact ⟨d, h, by simp⟩
theorem refBreaks_calls (q : Qy) (t u : Tk) (ft fu : Bool) (hq : 0 ≤ q.kind ∧ q.kind ≤ 5) (ht : t.path.length < 2 ^ 60) (hu : u.path.length < 2 ^ 60) :
    PCalls Tryz.prog 70 [qyAV q, tkAV t ft, tkAV u fu] (.raw (.bool (breaksQ q t u))) := by
  have h1 := refHasI_calls t.path ft q.b ht
  have h2 := refHasI_calls t.path ft q.w ht
  have h3 := refTkSame_calls t u ft fu ht hu
  rw [← comesB_mem] at h1 h2
  refine pbody Tryz.func70 rfl (N := 68) rfl rfl (by simp) (by simp [noIds]) fun σ => ?_
  unfold breaksQ leavesB
  have k1 : (t.out = 3) = True ∨ (t.out = 3) = False := by by_cases h : t.out = 3 <;> simp [h]
  have k2 : (t.last.dev = q.b) = True ∨ (t.last.dev = q.b) = False := by by_cases h : t.last.dev = q.b <;> simp [h]
  generalize comesB t q.b = cb at *
  generalize comesB t q.w = cw at *
  generalize decide (t = u) = eq at *
  by_cases q0 : q.kind = 0
  · rw [if_pos q0]
    rcases k1 with k1 | k1 <;> rcases k2 with k2 | k2
    all_goals
      (try ((first | with_reducible refine dops_go ?_ | with_reducible refine OKv_go ?_ | with_reducible refine OKr_go ?_); simp [-cellOK, qy_cells, qy_fold, tk_cells, tk_fold, q0, k1, k2, new_m, set_m, new_nx'])); repeat' (first | refine awp_seq ?_ | refine awp_block ?_ | (refine awp_skip ?_; try simp) | (refine awp_exit ?_; try simp) | (refine awp_ret ?_; try simp) | (refine retP_same (by simp) ?_; simp) | (refine retP_no (by simp) (by simp [noIds]) (by repeat (first | assumption | exact Ext.refl _ | refine ext_new' ?_ | refine Ext.setF ?_ (by first | assumption | (simp [new_nx', St.set, fresh_none]; done) | exact ext_fresh (by assumption)))) ?_; simp [-cellOK, qy_cells, qy_fold, tk_cells, tk_fold, q0, k1, k2, new_m, set_m, new_nx', new_m, set_m, new_nx']) | ((first | refine awp_reg ?_ | refine awp_drawT (fun _ => false) mixed (by decide +kernel) ?_ | refine awp_drawT isCallO mixed (by decide +kernel) ?_); simp [-cellOK, qy_cells, qy_fold, tk_cells, tk_fold, q0, k1, k2, new_m, set_m, new_nx']) | (refine guarded_split ?_ ?_ <;> (intro hg; simp only [hg]; simp [-cellOK, qy_cells, qy_fold, tk_cells, tk_fold, q0, k1, k2, new_m, set_m, new_nx'])) | (apply awp_cond_t; focus (simp [-cellOK, qy_cells, qy_fold, tk_cells, tk_fold, q0, k1, k2, new_m, set_m, new_nx']; done)) | (apply awp_cond_f; focus (simp [-cellOK, qy_cells, qy_fold, tk_cells, tk_fold, q0, k1, k2, new_m, set_m, new_nx']; done)) | (refine awp_cond ?_; simp [-cellOK, qy_cells, qy_fold, tk_cells, tk_fold, q0, k1, k2, new_m, set_m, new_nx']; refine ⟨?_, ?_⟩ <;> intro hc) | fail)
  rw [if_neg q0]
  by_cases q1 : q.kind = 1
  · rw [if_pos q1]
    (try ((first | with_reducible refine dops_go ?_ | with_reducible refine OKv_go ?_ | with_reducible refine OKr_go ?_); simp [-cellOK, qy_cells, qy_fold, tk_cells, tk_fold, q0, q1, new_m, set_m, new_nx'])); repeat' (first | refine awp_seq ?_ | refine awp_block ?_ | (refine awp_skip ?_; try simp) | (refine awp_exit ?_; try simp) | (refine awp_ret ?_; try simp) | (refine retP_same (by simp) ?_; simp) | (refine retP_no (by simp) (by simp [noIds]) (by repeat (first | assumption | exact Ext.refl _ | refine ext_new' ?_ | refine Ext.setF ?_ (by first | assumption | (simp [new_nx', St.set, fresh_none]; done) | exact ext_fresh (by assumption)))) ?_; simp [-cellOK, qy_cells, qy_fold, tk_cells, tk_fold, q0, q1, new_m, set_m, new_nx', new_m, set_m, new_nx']) | ((first | refine awp_reg ?_ | refine awp_drawT (fun _ => false) mixed (by decide +kernel) ?_ | refine awp_drawT isCallO mixed (by decide +kernel) ?_); simp [-cellOK, qy_cells, qy_fold, tk_cells, tk_fold, q0, q1, new_m, set_m, new_nx']) | (refine guarded_split ?_ ?_ <;> (intro hg; simp only [hg]; simp [-cellOK, qy_cells, qy_fold, tk_cells, tk_fold, q0, q1, new_m, set_m, new_nx'])) | (apply awp_cond_t; focus (simp [-cellOK, qy_cells, qy_fold, tk_cells, tk_fold, q0, q1, new_m, set_m, new_nx']; done)) | (apply awp_cond_f; focus (simp [-cellOK, qy_cells, qy_fold, tk_cells, tk_fold, q0, q1, new_m, set_m, new_nx']; done)) | (refine awp_cond ?_; simp [-cellOK, qy_cells, qy_fold, tk_cells, tk_fold, q0, q1, new_m, set_m, new_nx']; refine ⟨?_, ?_⟩ <;> intro hc) | fail)
  rw [if_neg q1]
  by_cases q2 : q.kind = 2
  · rw [if_pos q2]
    (try ((first | with_reducible refine dops_go ?_ | with_reducible refine OKv_go ?_ | with_reducible refine OKr_go ?_); simp [-cellOK, qy_cells, qy_fold, tk_cells, tk_fold, q0, q1, q2, new_m, set_m, new_nx'])); repeat' (first | refine awp_seq ?_ | refine awp_block ?_ | (refine awp_skip ?_; try simp) | (refine awp_exit ?_; try simp) | (refine awp_ret ?_; try simp) | (refine retP_same (by simp) ?_; simp) | (refine retP_no (by simp) (by simp [noIds]) (by repeat (first | assumption | exact Ext.refl _ | refine ext_new' ?_ | refine Ext.setF ?_ (by first | assumption | (simp [new_nx', St.set, fresh_none]; done) | exact ext_fresh (by assumption)))) ?_; simp [-cellOK, qy_cells, qy_fold, tk_cells, tk_fold, q0, q1, q2, new_m, set_m, new_nx', new_m, set_m, new_nx']) | ((first | refine awp_reg ?_ | refine awp_drawT (fun _ => false) mixed (by decide +kernel) ?_ | refine awp_drawT isCallO mixed (by decide +kernel) ?_); simp [-cellOK, qy_cells, qy_fold, tk_cells, tk_fold, q0, q1, q2, new_m, set_m, new_nx']) | (refine guarded_split ?_ ?_ <;> (intro hg; simp only [hg]; simp [-cellOK, qy_cells, qy_fold, tk_cells, tk_fold, q0, q1, q2, new_m, set_m, new_nx'])) | (apply awp_cond_t; focus (simp [-cellOK, qy_cells, qy_fold, tk_cells, tk_fold, q0, q1, q2, new_m, set_m, new_nx']; done)) | (apply awp_cond_f; focus (simp [-cellOK, qy_cells, qy_fold, tk_cells, tk_fold, q0, q1, q2, new_m, set_m, new_nx']; done)) | (refine awp_cond ?_; simp [-cellOK, qy_cells, qy_fold, tk_cells, tk_fold, q0, q1, q2, new_m, set_m, new_nx']; refine ⟨?_, ?_⟩ <;> intro hc) | fail)
  rw [if_neg q2]
  by_cases q3 : q.kind = 3
  · rw [if_pos q3]
    (try ((first | with_reducible refine dops_go ?_ | with_reducible refine OKv_go ?_ | with_reducible refine OKr_go ?_); simp [-cellOK, qy_cells, qy_fold, tk_cells, tk_fold, q0, q1, q2, q3, new_m, set_m, new_nx'])); repeat' (first | refine awp_seq ?_ | refine awp_block ?_ | (refine awp_skip ?_; try simp) | (refine awp_exit ?_; try simp) | (refine awp_ret ?_; try simp) | (refine retP_same (by simp) ?_; simp) | (refine retP_no (by simp) (by simp [noIds]) (by repeat (first | assumption | exact Ext.refl _ | refine ext_new' ?_ | refine Ext.setF ?_ (by first | assumption | (simp [new_nx', St.set, fresh_none]; done) | exact ext_fresh (by assumption)))) ?_; simp [-cellOK, qy_cells, qy_fold, tk_cells, tk_fold, q0, q1, q2, q3, new_m, set_m, new_nx', new_m, set_m, new_nx']) | ((first | refine awp_reg ?_ | refine awp_drawT (fun _ => false) mixed (by decide +kernel) ?_ | refine awp_drawT isCallO mixed (by decide +kernel) ?_ | refine PCalls.use (h1) ?_ | refine Or.inl ⟨_, Or.inl (h1), ?_⟩); simp [-cellOK, qy_cells, qy_fold, tk_cells, tk_fold, q0, q1, q2, q3, new_m, set_m, new_nx']) | (refine guarded_split ?_ ?_ <;> (intro hg; simp only [hg]; simp [-cellOK, qy_cells, qy_fold, tk_cells, tk_fold, q0, q1, q2, q3, new_m, set_m, new_nx'])) | (apply awp_cond_t; focus (simp [-cellOK, qy_cells, qy_fold, tk_cells, tk_fold, q0, q1, q2, q3, new_m, set_m, new_nx']; done)) | (apply awp_cond_f; focus (simp [-cellOK, qy_cells, qy_fold, tk_cells, tk_fold, q0, q1, q2, q3, new_m, set_m, new_nx']; done)) | (refine awp_cond ?_; simp [-cellOK, qy_cells, qy_fold, tk_cells, tk_fold, q0, q1, q2, q3, new_m, set_m, new_nx']; refine ⟨?_, ?_⟩ <;> intro hc) | fail)
  rw [if_neg q3]
  by_cases q4 : q.kind = 4
  · rw [if_pos q4]
    cases cw <;> rcases k1 with k1 | k1 <;> rcases k2 with k2 | k2
    all_goals
      (try ((first | with_reducible refine dops_go ?_ | with_reducible refine OKv_go ?_ | with_reducible refine OKr_go ?_); simp [-cellOK, qy_cells, qy_fold, tk_cells, tk_fold, q0, q1, q2, q3, q4, k1, k2, new_m, set_m, new_nx'])); repeat' (first | refine awp_seq ?_ | refine awp_block ?_ | (refine awp_skip ?_; try simp) | (refine awp_exit ?_; try simp) | (refine awp_ret ?_; try simp) | (refine retP_same (by simp) ?_; simp) | (refine retP_no (by simp) (by simp [noIds]) (by repeat (first | assumption | exact Ext.refl _ | refine ext_new' ?_ | refine Ext.setF ?_ (by first | assumption | (simp [new_nx', St.set, fresh_none]; done) | exact ext_fresh (by assumption)))) ?_; simp [-cellOK, qy_cells, qy_fold, tk_cells, tk_fold, q0, q1, q2, q3, q4, k1, k2, new_m, set_m, new_nx', new_m, set_m, new_nx']) | ((first | refine awp_reg ?_ | refine awp_drawT (fun _ => false) mixed (by decide +kernel) ?_ | refine awp_drawT isCallO mixed (by decide +kernel) ?_ | refine PCalls.use (h2) ?_ | refine Or.inl ⟨_, Or.inl (h2), ?_⟩); simp [-cellOK, qy_cells, qy_fold, tk_cells, tk_fold, q0, q1, q2, q3, q4, k1, k2, new_m, set_m, new_nx']) | (refine guarded_split ?_ ?_ <;> (intro hg; simp only [hg]; simp [-cellOK, qy_cells, qy_fold, tk_cells, tk_fold, q0, q1, q2, q3, q4, k1, k2, new_m, set_m, new_nx'])) | (apply awp_cond_t; focus (simp [-cellOK, qy_cells, qy_fold, tk_cells, tk_fold, q0, q1, q2, q3, q4, k1, k2, new_m, set_m, new_nx']; done)) | (apply awp_cond_f; focus (simp [-cellOK, qy_cells, qy_fold, tk_cells, tk_fold, q0, q1, q2, q3, q4, k1, k2, new_m, set_m, new_nx']; done)) | (refine awp_cond ?_; simp [-cellOK, qy_cells, qy_fold, tk_cells, tk_fold, q0, q1, q2, q3, q4, k1, k2, new_m, set_m, new_nx']; refine ⟨?_, ?_⟩ <;> intro hc) | fail)
  rw [if_neg q4, if_pos (show q.kind = 5 by omega)]
  (try ((first | with_reducible refine dops_go ?_ | with_reducible refine OKv_go ?_ | with_reducible refine OKr_go ?_); simp [-cellOK, qy_cells, qy_fold, tk_cells, tk_fold, q0, q1, q2, q3, q4, new_m, set_m, new_nx'])); repeat' (first | refine awp_seq ?_ | refine awp_block ?_ | (refine awp_skip ?_; try simp) | (refine awp_exit ?_; try simp) | (refine awp_ret ?_; try simp) | (refine retP_same (by simp) ?_; simp) | (refine retP_no (by simp) (by simp [noIds]) (by repeat (first | assumption | exact Ext.refl _ | refine ext_new' ?_ | refine Ext.setF ?_ (by first | assumption | (simp [new_nx', St.set, fresh_none]; done) | exact ext_fresh (by assumption)))) ?_; simp [-cellOK, qy_cells, qy_fold, tk_cells, tk_fold, q0, q1, q2, q3, q4, new_m, set_m, new_nx', new_m, set_m, new_nx']) | ((first | refine awp_reg ?_ | refine awp_drawT (fun _ => false) mixed (by decide +kernel) ?_ | refine awp_drawT isCallO mixed (by decide +kernel) ?_ | refine PCalls.use (h3) ?_ | refine Or.inl ⟨_, Or.inl (h3), ?_⟩); simp [-cellOK, qy_cells, qy_fold, tk_cells, tk_fold, q0, q1, q2, q3, q4, new_m, set_m, new_nx']) | (refine guarded_split ?_ ?_ <;> (intro hg; simp only [hg]; simp [-cellOK, qy_cells, qy_fold, tk_cells, tk_fold, q0, q1, q2, q3, q4, new_m, set_m, new_nx'])) | (apply awp_cond_t; focus (simp [-cellOK, qy_cells, qy_fold, tk_cells, tk_fold, q0, q1, q2, q3, q4, new_m, set_m, new_nx']; done)) | (apply awp_cond_f; focus (simp [-cellOK, qy_cells, qy_fold, tk_cells, tk_fold, q0, q1, q2, q3, q4, new_m, set_m, new_nx']; done)) | (refine awp_cond ?_; simp [-cellOK, qy_cells, qy_fold, tk_cells, tk_fold, q0, q1, q2, q3, q4, new_m, set_m, new_nx']; refine ⟨?_, ?_⟩ <;> intro hc) | fail)
end Go.Proofs.YtanimmdlgmkmkaaGreat.Av


/- The document's queries: right. -/
namespace Go.Proofs.YtanimmdlgmkmkaaGreat.Av
open Go
set_option linter.unusedSimpArgs false
set_option linter.unusedVariables false
set_option maxRecDepth 100000
set_option maxHeartbeats 4000000
set_option pp.maxSteps 600

theorem refRightQ_calls (n : Nw) (f : Fl) (q : Qy) : PCalls Tryz.prog 15 [nwAV n f, qyAV q] (.raw (.bool (rightQ n q))) := by
  have hs := refOne_calls q
  have hp : ∀ m, opLen Tryz.prog m 22 (intsAV n.t.ports f.p) = some (.raw (.int .i64 n.t.ports.length)) := fun m => by simp [intsAV]
  obtain ⟨ob, hob⟩ : ∃ b, (q.other.toList == (ByteArray.toList ⟨#[]⟩)) = b := ⟨_, rfl⟩
  have hstr : ∀ op m, op = BinOp.eql → m = Value.string ⟨#[]⟩ → opBin Tryz.prog op 9 (.raw (.string q.other)) (.raw m) = some (.raw (.bool ob)) := fun op m h1 h2 => by
    subst h1; subst h2
    show Option.map AV.raw (strBin .eql q.other ⟨#[]⟩) = _
    simp only [strBin, hob, Option.map_some]
  have hstr := hstr .eql _ rfl rfl
  have hno : noOther q = ob := hob
  refine pbody Tryz.func15 rfl (N := 91) rfl rfl (by simp) (by simp [noIds]) fun σ => ?_
  generalize hk : (n.t.ports.length : Int) = k at hp
  by_cases c1 : q.kind < 0
  · have e : rightQ n q = false := by simp [rightQ, noDev, hk, c1]
    rw [e]
    (try ((first | with_reducible refine dops_go ?_ | with_reducible refine OKv_go ?_ | with_reducible refine OKr_go ?_); simp [-cellOK, nw_cells, qy_cells, qy_fold, -opLen, hp, c1, new_m, set_m, new_nx'])); repeat' (first | refine awp_seq ?_ | refine awp_block ?_ | (refine awp_skip ?_; try simp) | (refine awp_exit ?_; try simp) | (refine awp_ret ?_; try simp) | (refine retP_same (by simp) ?_; simp) | (refine retP_no (by simp) (by simp [noIds]) (by repeat (first | assumption | exact Ext.refl _ | refine ext_new' ?_ | refine Ext.setF ?_ (by first | assumption | (simp [new_nx', St.set, fresh_none]; done) | exact ext_fresh (by assumption)))) ?_; simp [-cellOK, nw_cells, qy_cells, qy_fold, -opLen, hp, c1, new_m, set_m, new_nx', new_m, set_m, new_nx']) | ((first | refine awp_reg ?_ | refine awp_drawT (fun _ => false) mixed (by decide +kernel) ?_ | refine awp_drawT isCallO mixed (by decide +kernel) ?_ | refine PCalls.use (hs) ?_ | refine Or.inl ⟨_, Or.inl (hs), ?_⟩); simp [-cellOK, nw_cells, qy_cells, qy_fold, -opLen, hp, c1, new_m, set_m, new_nx']) | (refine guarded_split ?_ ?_ <;> (intro hg; simp only [hg]; simp [-cellOK, nw_cells, qy_cells, qy_fold, -opLen, hp, c1, new_m, set_m, new_nx'])) | (apply awp_cond_t; focus (simp [-cellOK, nw_cells, qy_cells, qy_fold, -opLen, hp, c1, new_m, set_m, new_nx']; done)) | (apply awp_cond_f; focus (simp [-cellOK, nw_cells, qy_cells, qy_fold, -opLen, hp, c1, new_m, set_m, new_nx']; done)) | (refine awp_cond ?_; simp [-cellOK, nw_cells, qy_cells, qy_fold, -opLen, hp, c1, new_m, set_m, new_nx']; refine ⟨?_, ?_⟩ <;> intro hc) | fail)
  by_cases c2 : 5 < q.kind
  · have e : rightQ n q = false := by simp [rightQ, noDev, hk, c1, c2]
    rw [e]
    (try ((first | with_reducible refine dops_go ?_ | with_reducible refine OKv_go ?_ | with_reducible refine OKr_go ?_); simp [-cellOK, nw_cells, qy_cells, qy_fold, -opLen, hp, c1, c2, new_m, set_m, new_nx'])); repeat' (first | refine awp_seq ?_ | refine awp_block ?_ | (refine awp_skip ?_; try simp) | (refine awp_exit ?_; try simp) | (refine awp_ret ?_; try simp) | (refine retP_same (by simp) ?_; simp) | (refine retP_no (by simp) (by simp [noIds]) (by repeat (first | assumption | exact Ext.refl _ | refine ext_new' ?_ | refine Ext.setF ?_ (by first | assumption | (simp [new_nx', St.set, fresh_none]; done) | exact ext_fresh (by assumption)))) ?_; simp [-cellOK, nw_cells, qy_cells, qy_fold, -opLen, hp, c1, c2, new_m, set_m, new_nx', new_m, set_m, new_nx']) | ((first | refine awp_reg ?_ | refine awp_drawT (fun _ => false) mixed (by decide +kernel) ?_ | refine awp_drawT isCallO mixed (by decide +kernel) ?_ | refine PCalls.use (hs) ?_ | refine Or.inl ⟨_, Or.inl (hs), ?_⟩); simp [-cellOK, nw_cells, qy_cells, qy_fold, -opLen, hp, c1, c2, new_m, set_m, new_nx']) | (refine guarded_split ?_ ?_ <;> (intro hg; simp only [hg]; simp [-cellOK, nw_cells, qy_cells, qy_fold, -opLen, hp, c1, c2, new_m, set_m, new_nx'])) | (apply awp_cond_t; focus (simp [-cellOK, nw_cells, qy_cells, qy_fold, -opLen, hp, c1, c2, new_m, set_m, new_nx']; done)) | (apply awp_cond_f; focus (simp [-cellOK, nw_cells, qy_cells, qy_fold, -opLen, hp, c1, c2, new_m, set_m, new_nx']; done)) | (refine awp_cond ?_; simp [-cellOK, nw_cells, qy_cells, qy_fold, -opLen, hp, c1, c2, new_m, set_m, new_nx']; refine ⟨?_, ?_⟩ <;> intro hc) | fail)
  by_cases c3 : q.r.hi < q.r.lo
  · have e : rightQ n q = false := by simp [rightQ, noDev, hk, c1, c2, c3]
    rw [e]
    (try ((first | with_reducible refine dops_go ?_ | with_reducible refine OKv_go ?_ | with_reducible refine OKr_go ?_); simp [-cellOK, nw_cells, qy_cells, qy_fold, -opLen, hp, c1, c2, c3, new_m, set_m, new_nx'])); repeat' (first | refine awp_seq ?_ | refine awp_block ?_ | (refine awp_skip ?_; try simp) | (refine awp_exit ?_; try simp) | (refine awp_ret ?_; try simp) | (refine retP_same (by simp) ?_; simp) | (refine retP_no (by simp) (by simp [noIds]) (by repeat (first | assumption | exact Ext.refl _ | refine ext_new' ?_ | refine Ext.setF ?_ (by first | assumption | (simp [new_nx', St.set, fresh_none]; done) | exact ext_fresh (by assumption)))) ?_; simp [-cellOK, nw_cells, qy_cells, qy_fold, -opLen, hp, c1, c2, c3, new_m, set_m, new_nx', new_m, set_m, new_nx']) | ((first | refine awp_reg ?_ | refine awp_drawT (fun _ => false) mixed (by decide +kernel) ?_ | refine awp_drawT isCallO mixed (by decide +kernel) ?_ | refine PCalls.use (hs) ?_ | refine Or.inl ⟨_, Or.inl (hs), ?_⟩); simp [-cellOK, nw_cells, qy_cells, qy_fold, -opLen, hp, c1, c2, c3, new_m, set_m, new_nx']) | (refine guarded_split ?_ ?_ <;> (intro hg; simp only [hg]; simp [-cellOK, nw_cells, qy_cells, qy_fold, -opLen, hp, c1, c2, c3, new_m, set_m, new_nx'])) | (apply awp_cond_t; focus (simp [-cellOK, nw_cells, qy_cells, qy_fold, -opLen, hp, c1, c2, c3, new_m, set_m, new_nx']; done)) | (apply awp_cond_f; focus (simp [-cellOK, nw_cells, qy_cells, qy_fold, -opLen, hp, c1, c2, c3, new_m, set_m, new_nx']; done)) | (refine awp_cond ?_; simp [-cellOK, nw_cells, qy_cells, qy_fold, -opLen, hp, c1, c2, c3, new_m, set_m, new_nx']; refine ⟨?_, ?_⟩ <;> intro hc) | fail)
  by_cases c4 : q.a < 0
  · have e : rightQ n q = false := by simp [rightQ, noDev, hk, c1, c2, c3, c4]
    rw [e]
    (try ((first | with_reducible refine dops_go ?_ | with_reducible refine OKv_go ?_ | with_reducible refine OKr_go ?_); simp [-cellOK, nw_cells, qy_cells, qy_fold, -opLen, hp, c1, c2, c3, c4, new_m, set_m, new_nx'])); repeat' (first | refine awp_seq ?_ | refine awp_block ?_ | (refine awp_skip ?_; try simp) | (refine awp_exit ?_; try simp) | (refine awp_ret ?_; try simp) | (refine retP_same (by simp) ?_; simp) | (refine retP_no (by simp) (by simp [noIds]) (by repeat (first | assumption | exact Ext.refl _ | refine ext_new' ?_ | refine Ext.setF ?_ (by first | assumption | (simp [new_nx', St.set, fresh_none]; done) | exact ext_fresh (by assumption)))) ?_; simp [-cellOK, nw_cells, qy_cells, qy_fold, -opLen, hp, c1, c2, c3, c4, new_m, set_m, new_nx', new_m, set_m, new_nx']) | ((first | refine awp_reg ?_ | refine awp_drawT (fun _ => false) mixed (by decide +kernel) ?_ | refine awp_drawT isCallO mixed (by decide +kernel) ?_ | refine PCalls.use (hs) ?_ | refine Or.inl ⟨_, Or.inl (hs), ?_⟩); simp [-cellOK, nw_cells, qy_cells, qy_fold, -opLen, hp, c1, c2, c3, c4, new_m, set_m, new_nx']) | (refine guarded_split ?_ ?_ <;> (intro hg; simp only [hg]; simp [-cellOK, nw_cells, qy_cells, qy_fold, -opLen, hp, c1, c2, c3, c4, new_m, set_m, new_nx'])) | (apply awp_cond_t; focus (simp [-cellOK, nw_cells, qy_cells, qy_fold, -opLen, hp, c1, c2, c3, c4, new_m, set_m, new_nx']; done)) | (apply awp_cond_f; focus (simp [-cellOK, nw_cells, qy_cells, qy_fold, -opLen, hp, c1, c2, c3, c4, new_m, set_m, new_nx']; done)) | (refine awp_cond ?_; simp [-cellOK, nw_cells, qy_cells, qy_fold, -opLen, hp, c1, c2, c3, c4, new_m, set_m, new_nx']; refine ⟨?_, ?_⟩ <;> intro hc) | fail)
  by_cases c5 : q.b < 0
  · have e : rightQ n q = false := by simp [rightQ, noDev, hk, c1, c2, c3, c4, c5]
    rw [e]
    (try ((first | with_reducible refine dops_go ?_ | with_reducible refine OKv_go ?_ | with_reducible refine OKr_go ?_); simp [-cellOK, nw_cells, qy_cells, qy_fold, -opLen, hp, c1, c2, c3, c4, c5, new_m, set_m, new_nx'])); repeat' (first | refine awp_seq ?_ | refine awp_block ?_ | (refine awp_skip ?_; try simp) | (refine awp_exit ?_; try simp) | (refine awp_ret ?_; try simp) | (refine retP_same (by simp) ?_; simp) | (refine retP_no (by simp) (by simp [noIds]) (by repeat (first | assumption | exact Ext.refl _ | refine ext_new' ?_ | refine Ext.setF ?_ (by first | assumption | (simp [new_nx', St.set, fresh_none]; done) | exact ext_fresh (by assumption)))) ?_; simp [-cellOK, nw_cells, qy_cells, qy_fold, -opLen, hp, c1, c2, c3, c4, c5, new_m, set_m, new_nx', new_m, set_m, new_nx']) | ((first | refine awp_reg ?_ | refine awp_drawT (fun _ => false) mixed (by decide +kernel) ?_ | refine awp_drawT isCallO mixed (by decide +kernel) ?_ | refine PCalls.use (hs) ?_ | refine Or.inl ⟨_, Or.inl (hs), ?_⟩); simp [-cellOK, nw_cells, qy_cells, qy_fold, -opLen, hp, c1, c2, c3, c4, c5, new_m, set_m, new_nx']) | (refine guarded_split ?_ ?_ <;> (intro hg; simp only [hg]; simp [-cellOK, nw_cells, qy_cells, qy_fold, -opLen, hp, c1, c2, c3, c4, c5, new_m, set_m, new_nx'])) | (apply awp_cond_t; focus (simp [-cellOK, nw_cells, qy_cells, qy_fold, -opLen, hp, c1, c2, c3, c4, c5, new_m, set_m, new_nx']; done)) | (apply awp_cond_f; focus (simp [-cellOK, nw_cells, qy_cells, qy_fold, -opLen, hp, c1, c2, c3, c4, c5, new_m, set_m, new_nx']; done)) | (refine awp_cond ?_; simp [-cellOK, nw_cells, qy_cells, qy_fold, -opLen, hp, c1, c2, c3, c4, c5, new_m, set_m, new_nx']; refine ⟨?_, ?_⟩ <;> intro hc) | fail)
  by_cases c6 : q.w < 0
  · have e : rightQ n q = false := by simp [rightQ, noDev, hk, c1, c2, c3, c4, c5, c6]
    rw [e]
    (try ((first | with_reducible refine dops_go ?_ | with_reducible refine OKv_go ?_ | with_reducible refine OKr_go ?_); simp [-cellOK, nw_cells, qy_cells, qy_fold, -opLen, hp, c1, c2, c3, c4, c5, c6, new_m, set_m, new_nx'])); repeat' (first | refine awp_seq ?_ | refine awp_block ?_ | (refine awp_skip ?_; try simp) | (refine awp_exit ?_; try simp) | (refine awp_ret ?_; try simp) | (refine retP_same (by simp) ?_; simp) | (refine retP_no (by simp) (by simp [noIds]) (by repeat (first | assumption | exact Ext.refl _ | refine ext_new' ?_ | refine Ext.setF ?_ (by first | assumption | (simp [new_nx', St.set, fresh_none]; done) | exact ext_fresh (by assumption)))) ?_; simp [-cellOK, nw_cells, qy_cells, qy_fold, -opLen, hp, c1, c2, c3, c4, c5, c6, new_m, set_m, new_nx', new_m, set_m, new_nx']) | ((first | refine awp_reg ?_ | refine awp_drawT (fun _ => false) mixed (by decide +kernel) ?_ | refine awp_drawT isCallO mixed (by decide +kernel) ?_ | refine PCalls.use (hs) ?_ | refine Or.inl ⟨_, Or.inl (hs), ?_⟩); simp [-cellOK, nw_cells, qy_cells, qy_fold, -opLen, hp, c1, c2, c3, c4, c5, c6, new_m, set_m, new_nx']) | (refine guarded_split ?_ ?_ <;> (intro hg; simp only [hg]; simp [-cellOK, nw_cells, qy_cells, qy_fold, -opLen, hp, c1, c2, c3, c4, c5, c6, new_m, set_m, new_nx'])) | (apply awp_cond_t; focus (simp [-cellOK, nw_cells, qy_cells, qy_fold, -opLen, hp, c1, c2, c3, c4, c5, c6, new_m, set_m, new_nx']; done)) | (apply awp_cond_f; focus (simp [-cellOK, nw_cells, qy_cells, qy_fold, -opLen, hp, c1, c2, c3, c4, c5, c6, new_m, set_m, new_nx']; done)) | (refine awp_cond ?_; simp [-cellOK, nw_cells, qy_cells, qy_fold, -opLen, hp, c1, c2, c3, c4, c5, c6, new_m, set_m, new_nx']; refine ⟨?_, ?_⟩ <;> intro hc) | fail)
  by_cases c7 : k ≤ q.a
  · have e : rightQ n q = false := by simp [rightQ, noDev, hk, c1, c2, c3, c4, c5, c6, c7]
    rw [e]
    (try ((first | with_reducible refine dops_go ?_ | with_reducible refine OKv_go ?_ | with_reducible refine OKr_go ?_); simp [-cellOK, nw_cells, qy_cells, qy_fold, -opLen, hp, c1, c2, c3, c4, c5, c6, c7, new_m, set_m, new_nx'])); repeat' (first | refine awp_seq ?_ | refine awp_block ?_ | (refine awp_skip ?_; try simp) | (refine awp_exit ?_; try simp) | (refine awp_ret ?_; try simp) | (refine retP_same (by simp) ?_; simp) | (refine retP_no (by simp) (by simp [noIds]) (by repeat (first | assumption | exact Ext.refl _ | refine ext_new' ?_ | refine Ext.setF ?_ (by first | assumption | (simp [new_nx', St.set, fresh_none]; done) | exact ext_fresh (by assumption)))) ?_; simp [-cellOK, nw_cells, qy_cells, qy_fold, -opLen, hp, c1, c2, c3, c4, c5, c6, c7, new_m, set_m, new_nx', new_m, set_m, new_nx']) | ((first | refine awp_reg ?_ | refine awp_drawT (fun _ => false) mixed (by decide +kernel) ?_ | refine awp_drawT isCallO mixed (by decide +kernel) ?_ | refine PCalls.use (hs) ?_ | refine Or.inl ⟨_, Or.inl (hs), ?_⟩); simp [-cellOK, nw_cells, qy_cells, qy_fold, -opLen, hp, c1, c2, c3, c4, c5, c6, c7, new_m, set_m, new_nx']) | (refine guarded_split ?_ ?_ <;> (intro hg; simp only [hg]; simp [-cellOK, nw_cells, qy_cells, qy_fold, -opLen, hp, c1, c2, c3, c4, c5, c6, c7, new_m, set_m, new_nx'])) | (apply awp_cond_t; focus (simp [-cellOK, nw_cells, qy_cells, qy_fold, -opLen, hp, c1, c2, c3, c4, c5, c6, c7, new_m, set_m, new_nx']; done)) | (apply awp_cond_f; focus (simp [-cellOK, nw_cells, qy_cells, qy_fold, -opLen, hp, c1, c2, c3, c4, c5, c6, c7, new_m, set_m, new_nx']; done)) | (refine awp_cond ?_; simp [-cellOK, nw_cells, qy_cells, qy_fold, -opLen, hp, c1, c2, c3, c4, c5, c6, c7, new_m, set_m, new_nx']; refine ⟨?_, ?_⟩ <;> intro hc) | fail)
  by_cases c8 : k ≤ q.b
  · have e : rightQ n q = false := by simp [rightQ, noDev, hk, c1, c2, c3, c4, c5, c6, c7, c8]
    rw [e]
    (try ((first | with_reducible refine dops_go ?_ | with_reducible refine OKv_go ?_ | with_reducible refine OKr_go ?_); simp [-cellOK, nw_cells, qy_cells, qy_fold, -opLen, hp, c1, c2, c3, c4, c5, c6, c7, c8, new_m, set_m, new_nx'])); repeat' (first | refine awp_seq ?_ | refine awp_block ?_ | (refine awp_skip ?_; try simp) | (refine awp_exit ?_; try simp) | (refine awp_ret ?_; try simp) | (refine retP_same (by simp) ?_; simp) | (refine retP_no (by simp) (by simp [noIds]) (by repeat (first | assumption | exact Ext.refl _ | refine ext_new' ?_ | refine Ext.setF ?_ (by first | assumption | (simp [new_nx', St.set, fresh_none]; done) | exact ext_fresh (by assumption)))) ?_; simp [-cellOK, nw_cells, qy_cells, qy_fold, -opLen, hp, c1, c2, c3, c4, c5, c6, c7, c8, new_m, set_m, new_nx', new_m, set_m, new_nx']) | ((first | refine awp_reg ?_ | refine awp_drawT (fun _ => false) mixed (by decide +kernel) ?_ | refine awp_drawT isCallO mixed (by decide +kernel) ?_ | refine PCalls.use (hs) ?_ | refine Or.inl ⟨_, Or.inl (hs), ?_⟩); simp [-cellOK, nw_cells, qy_cells, qy_fold, -opLen, hp, c1, c2, c3, c4, c5, c6, c7, c8, new_m, set_m, new_nx']) | (refine guarded_split ?_ ?_ <;> (intro hg; simp only [hg]; simp [-cellOK, nw_cells, qy_cells, qy_fold, -opLen, hp, c1, c2, c3, c4, c5, c6, c7, c8, new_m, set_m, new_nx'])) | (apply awp_cond_t; focus (simp [-cellOK, nw_cells, qy_cells, qy_fold, -opLen, hp, c1, c2, c3, c4, c5, c6, c7, c8, new_m, set_m, new_nx']; done)) | (apply awp_cond_f; focus (simp [-cellOK, nw_cells, qy_cells, qy_fold, -opLen, hp, c1, c2, c3, c4, c5, c6, c7, c8, new_m, set_m, new_nx']; done)) | (refine awp_cond ?_; simp [-cellOK, nw_cells, qy_cells, qy_fold, -opLen, hp, c1, c2, c3, c4, c5, c6, c7, c8, new_m, set_m, new_nx']; refine ⟨?_, ?_⟩ <;> intro hc) | fail)
  by_cases c9 : k ≤ q.w
  · have e : rightQ n q = false := by simp [rightQ, noDev, hk, c1, c2, c3, c4, c5, c6, c7, c8, c9]
    rw [e]
    (try ((first | with_reducible refine dops_go ?_ | with_reducible refine OKv_go ?_ | with_reducible refine OKr_go ?_); simp [-cellOK, nw_cells, qy_cells, qy_fold, -opLen, hp, c1, c2, c3, c4, c5, c6, c7, c8, c9, new_m, set_m, new_nx'])); repeat' (first | refine awp_seq ?_ | refine awp_block ?_ | (refine awp_skip ?_; try simp) | (refine awp_exit ?_; try simp) | (refine awp_ret ?_; try simp) | (refine retP_same (by simp) ?_; simp) | (refine retP_no (by simp) (by simp [noIds]) (by repeat (first | assumption | exact Ext.refl _ | refine ext_new' ?_ | refine Ext.setF ?_ (by first | assumption | (simp [new_nx', St.set, fresh_none]; done) | exact ext_fresh (by assumption)))) ?_; simp [-cellOK, nw_cells, qy_cells, qy_fold, -opLen, hp, c1, c2, c3, c4, c5, c6, c7, c8, c9, new_m, set_m, new_nx', new_m, set_m, new_nx']) | ((first | refine awp_reg ?_ | refine awp_drawT (fun _ => false) mixed (by decide +kernel) ?_ | refine awp_drawT isCallO mixed (by decide +kernel) ?_ | refine PCalls.use (hs) ?_ | refine Or.inl ⟨_, Or.inl (hs), ?_⟩); simp [-cellOK, nw_cells, qy_cells, qy_fold, -opLen, hp, c1, c2, c3, c4, c5, c6, c7, c8, c9, new_m, set_m, new_nx']) | (refine guarded_split ?_ ?_ <;> (intro hg; simp only [hg]; simp [-cellOK, nw_cells, qy_cells, qy_fold, -opLen, hp, c1, c2, c3, c4, c5, c6, c7, c8, c9, new_m, set_m, new_nx'])) | (apply awp_cond_t; focus (simp [-cellOK, nw_cells, qy_cells, qy_fold, -opLen, hp, c1, c2, c3, c4, c5, c6, c7, c8, c9, new_m, set_m, new_nx']; done)) | (apply awp_cond_f; focus (simp [-cellOK, nw_cells, qy_cells, qy_fold, -opLen, hp, c1, c2, c3, c4, c5, c6, c7, c8, c9, new_m, set_m, new_nx']; done)) | (refine awp_cond ?_; simp [-cellOK, nw_cells, qy_cells, qy_fold, -opLen, hp, c1, c2, c3, c4, c5, c6, c7, c8, c9, new_m, set_m, new_nx']; refine ⟨?_, ?_⟩ <;> intro hc) | fail)
  generalize hsb : singleB q = sb at hs
  have e : rightQ n q = ((sb || (decide (q.a = 0) && decide (q.b = 0))) && ((decide (q.kind = 4) || decide (q.w = 0)) && (decide (q.kind = 5) || ob))) := by simp [rightQ, noDev, hk, hsb, hno, c1, c2, c3, c4, c5, c6, c7, c8, c9]
  rw [e]
  have k1 : (q.a = 0) = True ∨ (q.a = 0) = False := by by_cases h : q.a = 0 <;> simp [h]
  have k2 : (q.b = 0) = True ∨ (q.b = 0) = False := by by_cases h : q.b = 0 <;> simp [h]
  have k3 : (q.w = 0) = True ∨ (q.w = 0) = False := by by_cases h : q.w = 0 <;> simp [h]
  have k4 : ((q.kind = 4) = True ∧ (q.kind = 5) = False) ∨ ((q.kind = 4) = False ∧ (q.kind = 5) = True) ∨ ((q.kind = 4) = False ∧ (q.kind = 5) = False) := by
    by_cases h : q.kind = 4
    · exact .inl ⟨eq_true h, eq_false (by omega)⟩
    · by_cases h2 : q.kind = 5
      · exact .inr (.inl ⟨eq_false h, eq_true h2⟩)
      · exact .inr (.inr ⟨eq_false h, eq_false h2⟩)
  cases sb <;> rcases k1 with k1 | k1 <;> rcases k2 with k2 | k2 <;> rcases k3 with k3 | k3 <;> rcases k4 with ⟨k4, k5⟩ | ⟨k4, k5⟩ | ⟨k4, k5⟩
  all_goals
    (try ((first | with_reducible refine dops_go ?_ | with_reducible refine OKv_go ?_ | with_reducible refine OKr_go ?_); simp [-cellOK, nw_cells, qy_cells, qy_fold, -opLen, hp, c1, c2, c3, c4, c5, c6, c7, c8, c9, k1, k2, k3, k4, k5, -opBin, opBin_raw, hstr, new_m, set_m, new_nx'])); repeat' (first | refine awp_seq ?_ | refine awp_block ?_ | (refine awp_skip ?_; try simp) | (refine awp_exit ?_; try simp) | (refine awp_ret ?_; try simp) | (refine retP_same (by simp) ?_; simp) | (refine retP_no (by simp) (by simp [noIds]) (by repeat (first | assumption | exact Ext.refl _ | refine ext_new' ?_ | refine Ext.setF ?_ (by first | assumption | (simp [new_nx', St.set, fresh_none]; done) | exact ext_fresh (by assumption)))) ?_; simp [-cellOK, nw_cells, qy_cells, qy_fold, -opLen, hp, c1, c2, c3, c4, c5, c6, c7, c8, c9, k1, k2, k3, k4, k5, -opBin, opBin_raw, hstr, new_m, set_m, new_nx', new_m, set_m, new_nx']) | ((first | refine awp_reg ?_ | refine awp_drawT (fun _ => false) mixed (by decide +kernel) ?_ | refine awp_drawT isCallO mixed (by decide +kernel) ?_ | refine PCalls.use (hs) ?_ | refine Or.inl ⟨_, Or.inl (hs), ?_⟩); simp [-cellOK, nw_cells, qy_cells, qy_fold, -opLen, hp, c1, c2, c3, c4, c5, c6, c7, c8, c9, k1, k2, k3, k4, k5, -opBin, opBin_raw, hstr, new_m, set_m, new_nx']) | (refine guarded_split ?_ ?_ <;> (intro hg; simp only [hg]; simp [-cellOK, nw_cells, qy_cells, qy_fold, -opLen, hp, c1, c2, c3, c4, c5, c6, c7, c8, c9, k1, k2, k3, k4, k5, -opBin, opBin_raw, hstr, new_m, set_m, new_nx'])) | (apply awp_cond_t; focus (simp [-cellOK, nw_cells, qy_cells, qy_fold, -opLen, hp, c1, c2, c3, c4, c5, c6, c7, c8, c9, k1, k2, k3, k4, k5, -opBin, opBin_raw, hstr, new_m, set_m, new_nx']; done)) | (apply awp_cond_f; focus (simp [-cellOK, nw_cells, qy_cells, qy_fold, -opLen, hp, c1, c2, c3, c4, c5, c6, c7, c8, c9, k1, k2, k3, k4, k5, -opBin, opBin_raw, hstr, new_m, set_m, new_nx']; done)) | (refine awp_cond ?_; simp [-cellOK, nw_cells, qy_cells, qy_fold, -opLen, hp, c1, c2, c3, c4, c5, c6, c7, c8, c9, k1, k2, k3, k4, k5, -opBin, opBin_raw, hstr, new_m, set_m, new_nx']; refine ⟨?_, ?_⟩ <;> intro hc) | fail)
end Go.Proofs.YtanimmdlgmkmkaaGreat.Av


/- Zones in plain Lean: what joining the wanted cuts comes to; counting. -/
namespace Go.Proofs.YtanimmdlgmkmkaaGreat.Av.Zn
set_option linter.unusedSimpArgs false
set_option linter.unusedVariables false

theorem cf_spec (all : List Int) : ∀ (n : Nat) (last : Int), above all last ≤ n →
    (∀ c ∈ cutsFrom all n last, c ∈ all ∧ last < c ∧ c < 4294967296) ∧
    (∀ a ∈ all, last < a → a < 4294967296 → ∃ d, (cutsFrom all n last)[0]? = some d ∧ d ≤ a) ∧
    (∀ (i : Nat) (c : Int), (cutsFrom all n last)[i]? = some c → ∀ a ∈ all, c < a → a < 4294967296 → ∃ d, (cutsFrom all n last)[i + 1]? = some d ∧ d ≤ a) ∧
    (∀ (i : Nat) (c d : Int), (cutsFrom all n last)[i]? = some c → (cutsFrom all n last)[i + 1]? = some d → c < d)
  | 0, last, h => by
    refine ⟨(fun c hc => by simp [cutsFrom] at hc), fun a ha h1 h2 => ?_, (fun i c hc => by simp [cutsFrom] at hc), (fun i c d hc => by simp [cutsFrom] at hc)⟩
    have : 0 < above all last := by
      unfold above
      exact List.length_pos_of_mem (List.mem_filter.2 ⟨ha, by simp [h1, h2]⟩)
    omega
  | n + 1, last, h => by
    obtain ⟨n1, n2, n3⟩ := nextCut_is all last
    unfold cutsFrom
    by_cases hx : nextCut all last ≤ 4294967295
    · rw [if_pos hx]
      have hlt := above_lt hx
      have n1 := n1.resolve_left (by omega)
      obtain ⟨h1, h2, h3, h4⟩ := cf_spec all n (nextCut all last) (by omega)
      generalize nextCut all last = x at *
      refine ⟨fun c hc => ?_, fun a ha q1 q2 => ⟨x, rfl, n3 a ha q1⟩, fun i c hc a ha q1 q2 => ?_, fun i c d hc hd => ?_⟩
      · rcases List.mem_cons.1 hc with rfl | hc
        · exact n1
        · have := h1 c hc; exact ⟨this.1, by omega, this.2.2⟩
      · cases i with
        | zero => simp at hc; subst hc; simpa using h2 a ha q1 q2
        | succ i => simpa using h3 i c (by simpa using hc) a ha q1 q2
      · cases i with
        | zero =>
          simp at hc; subst hc
          have := h1 d (List.mem_of_getElem? (by simpa using hd))
          exact this.2.1
        | succ i => exact h4 i c d (by simpa using hc) (by simpa using hd)
    · rw [if_neg hx]
      refine ⟨(fun c hc => by cases hc), fun a ha q1 q2 => ?_, (fun i c hc => by simp at hc), (fun i c d hc => by simp at hc)⟩
      have := n3 a ha q1; omega
theorem cutsAll_mem {l : List Rg} {a : Int} : a ∈ cutsAll l ↔ a = 0 ∨ ∃ r ∈ l, a = r.lo ∨ a = r.hi + 1 := by
  unfold cutsAll; simp
structure Cuts (l : List Rg) (C : List Int) : Prop where
  rng : ∀ c ∈ C, 0 ≤ c ∧ c < 4294967296
  zero : C[0]? = some 0
  up : ∀ (i : Nat) (c d : Int), C[i]? = some c → C[i + 1]? = some d → c < d
  full : ∀ (i : Nat) (c : Int), C[i]? = some c → ∀ a ∈ cutsAll l, c < a → a < 4294967296 → ∃ d, C[i + 1]? = some d ∧ d ≤ a
theorem cuts_of (l : List Rg) (hz : InZ l) : Cuts l (cutsOf l) := by
  obtain ⟨h1, h2, h3, h4⟩ := cf_spec (cutsAll l) (above (cutsAll l) (-1)) (-1) (Nat.le_refl _)
  have hr : ∀ c ∈ cutsOf l, 0 ≤ c ∧ c < 4294967296 := fun c hc => by have := h1 c hc; omega
  refine ⟨hr, ?_, h4, h3⟩
  obtain ⟨d, hd, hle⟩ := h2 0 (cutsAll_mem.2 (.inl rfl)) (by omega) (by omega)
  have := hr d (List.mem_of_getElem? hd)
  rw [show (cutsOf l)[0]? = some d from hd, show d = 0 by omega]
def nextOf (C : List Int) (i : Nat) : Int := match C[i]? with | some c => c | none => 4294967296
theorem endOf_next (C : List Int) (i : Nat) : endOf C i = nextOf C (i + 1) - 1 := by
  unfold endOf nextOf
  cases C[i + 1]? <;> simp
theorem Cuts.hasB {l m : List Rg} {C : List Int} (h : Cuts l C) (hm : ∀ r ∈ m, r ∈ l) (hz : InZ m) {i : Nat} {c a : Int} (hc : C[i]? = some c) (h1 : c ≤ a) (h2 : a ≤ endOf C i) : hasB m a = hasB m c := by
  have no : ∀ x ∈ cutsAll l, ¬ (c < x ∧ x ≤ a) := fun x hx k => by
    have ha : a < 4294967296 := by
      rw [endOf_next] at h2
      have : nextOf C (i + 1) ≤ 4294967296 := by
        unfold nextOf; split
        · rename_i d hd; have := h.rng d (List.mem_of_getElem? hd); omega
        · omega
      omega
    obtain ⟨d, hd, hle⟩ := h.full i c hc x hx k.1 (by omega)
    rw [endOf_next] at h2
    unfold nextOf at h2
    rw [hd] at h2
    simp only [] at h2
    omega
  unfold Zn.hasB
  rw [Bool.eq_iff_iff, List.any_eq_true, List.any_eq_true]
  have hc0 := h.rng c (List.mem_of_getElem? hc)
  constructor
  · rintro ⟨r, hr, k⟩
    refine ⟨r, hr, ?_⟩
    simp only [Bool.and_eq_true, decide_eq_true_eq] at k ⊢
    have n1 := no r.lo (cutsAll_mem.2 (.inr ⟨r, hm r hr, .inl rfl⟩))
    omega
  · rintro ⟨r, hr, k⟩
    refine ⟨r, hr, ?_⟩
    simp only [Bool.and_eq_true, decide_eq_true_eq] at k ⊢
    have n1 := no (r.hi + 1) (cutsAll_mem.2 (.inr ⟨r, hm r hr, .inr rfl⟩))
    omega
/-- The document's zone of ranges. -/
def refOfZ (l : List Rg) : List Rg := joins (hasB l) (cutsOf l) (cutsOf l).length
def refBothZ (how : Int) (x y : List Rg) : List Rg := joins (fun a => howP how (hasB x a) (hasB y a)) (cutsOf (x ++ y)) (cutsOf (x ++ y)).length
end Go.Proofs.YtanimmdlgmkmkaaGreat.Av.Zn


/- The document's cuts are the cuts; its ranges and atoms. -/
namespace Go.Proofs.YtanimmdlgmkmkaaGreat.Av
open Go
set_option linter.unusedSimpArgs false
set_option linter.unusedVariables false
set_option maxRecDepth 100000
set_option maxHeartbeats 4000000
set_option pp.maxSteps 600

theorem nextCut_mem (all : List Int) (last : Int) : Zn.nextCut all last = 4294967296 ∨ Zn.nextCut all last ∈ all := by
  unfold Zn.nextCut
  have key : ∀ (l : List Int) (n : Int), l.foldl (fun next a => if last < a ∧ a < next then a else next) n = n ∨ l.foldl (fun next a => if last < a ∧ a < next then a else next) n ∈ l := by
    intro l
    induction l with
    | nil => intro n; exact .inl rfl
    | cons x l ih =>
      intro n
      rw [List.foldl_cons]
      rcases ih (if last < x ∧ x < n then x else n) with h | h
      · rw [h]
        split
        · exact .inr (by simp)
        · exact .inl rfl
      · exact .inr (List.mem_cons_of_mem _ h)
  exact key all _
theorem cutsFrom_mem (all : List Int) : ∀ (n : Nat) (last : Int), ∀ c ∈ Zn.cutsFrom all n last, c ∈ all
  | 0, _, c, h => by simp [Zn.cutsFrom] at h
  | n + 1, last, c, h => by
    unfold Zn.cutsFrom at h
    split at h
    · rename_i hle
      rcases List.mem_cons.1 h with rfl | h
      · rcases nextCut_mem all last with e | e
        · omega
        · exact e
      · exact cutsFrom_mem all n _ c h
    · simp at h
theorem cutsOf_eq {l : List Rg} (h : ∀ r ∈ l, RgOK r) : Zn.cutsOf l = cutsL l := by
  have hz : Zn.InZ l := fun r hr => ⟨(h r hr).lo0, (h r hr).lo1, (h r hr).hi0, (h r hr).hi1⟩
  have hC := Zn.cuts_of l hz
  have hsub : ∀ c ∈ Zn.cutsOf l, c ∈ Zn.cutsAll l := cutsFrom_mem _ _ _
  have hL := cutsL_cuts l
  have hup : (Zn.cutsOf l).Pairwise (· < ·) := by
    have key : ∀ (C : List Int), (∀ (i : Nat) (c d : Int), C[i]? = some c → C[i + 1]? = some d → c < d) → C.Pairwise (· < ·) := by
      intro C
      induction C with
      | nil => intro _; exact .nil
      | cons x C ih =>
        intro hu
        have ih := ih fun i c d h1 h2 => hu (i + 1) c d (by simpa using h1) (by simpa using h2)
        refine List.pairwise_cons.2 ⟨fun y hy => ?_, ih⟩
        cases C with
        | nil => simp at hy
        | cons z C =>
          have h0 := hu 0 x z rfl rfl
          rcases List.mem_cons.1 hy with rfl | hy
          · exact h0
          · have := (List.pairwise_cons.1 ih).1 y hy
            omega
    exact key _ hC.up
  refine cuts_unique hup hL.srt fun x => ?_
  rw [hL.mem]
  constructor
  · intro hx
    have h1 := hsub x hx
    have h2 := hC.rng x hx
    rcases Zn.cutsAll_mem.1 h1 with rfl | ⟨r, hr, e⟩
    · exact .inl rfl
    · refine .inr ⟨r, hr, ?_⟩
      unfold endsR
      rcases e with rfl | rfl
      · split <;> simp
      · rw [if_pos (by omega)]; simp
  · intro hx
    have hin : x ∈ Zn.cutsAll l ∧ 0 ≤ x ∧ x < 4294967296 := by
      rcases hx with rfl | ⟨r, hr, e⟩
      · exact ⟨Zn.cutsAll_mem.2 (.inl rfl), by omega, by omega⟩
      · obtain ⟨a1, a2, a3, a4⟩ := h r hr
        unfold endsR at e
        split at e
        · simp only [List.mem_cons, List.not_mem_nil, or_false] at e
          rcases e with rfl | rfl
          · exact ⟨Zn.cutsAll_mem.2 (.inr ⟨r, hr, .inl rfl⟩), by omega, by omega⟩
          · exact ⟨Zn.cutsAll_mem.2 (.inr ⟨r, hr, .inr rfl⟩), by omega, by omega⟩
        · simp only [List.mem_cons, List.not_mem_nil, or_false] at e
          subst e
          exact ⟨Zn.cutsAll_mem.2 (.inr ⟨r, hr, .inl rfl⟩), by omega, by omega⟩
    obtain ⟨h1, h2, h3⟩ := hin
    have step : ∀ k, k ≤ (Zn.cutsOf l).length → x ∈ Zn.cutsOf l ∨ ∀ i, i < k → ∀ c, (Zn.cutsOf l)[i]? = some c → c < x := by
      intro k
      induction k with
      | zero => intro _; exact .inr fun i hi => by omega
      | succ k ih =>
        intro hk
        rcases ih (by omega) with hm | hb
        · exact .inl hm
        · have hc : (Zn.cutsOf l)[k]? = some (Zn.cutsOf l)[k] := List.getElem?_eq_getElem (by omega)
          by_cases e : (Zn.cutsOf l)[k] = x
          · exact .inl (e ▸ List.getElem_mem _)
          · by_cases hlt : (Zn.cutsOf l)[k] < x
            · refine .inr fun i hi c hi2 => ?_
              by_cases e2 : i = k
              · subst e2; rw [hc] at hi2; injection hi2 with hi2; omega
              · exact hb i (by omega) c hi2
            · left
              cases k with
              | zero =>
                have h0 := hC.zero
                rw [hc] at h0
                injection h0 with h0
                omega
              | succ j =>
                have hj : (Zn.cutsOf l)[j]? = some (Zn.cutsOf l)[j] := List.getElem?_eq_getElem (by omega)
                have hlj := hb j (by omega) _ hj
                obtain ⟨d, hd, hle⟩ := hC.full j _ hj x h1 hlj h3
                rw [hc] at hd
                injection hd with hd
                omega
    rcases step _ (Nat.le_refl _) with hm | hb
    · exact hm
    · exfalso
      have hne : 0 < (Zn.cutsOf l).length := (List.getElem?_eq_some_iff.1 hC.zero).1
      have hlast : (Zn.cutsOf l)[(Zn.cutsOf l).length - 1]? = some (Zn.cutsOf l)[(Zn.cutsOf l).length - 1] := List.getElem?_eq_getElem (by omega)
      have hlt := hb _ (by omega) _ hlast
      obtain ⟨d, hd, _⟩ := hC.full _ _ hlast x h1 hlt h3
      have := (List.getElem?_eq_some_iff.1 hd).1
      omega
theorem refCuts_calls (l : List Rg) (f : Bool) (hz : ∀ r ∈ l, RgOK r) (hl : l.length < 2 ^ 30) : PCalls Tryz.prog 113 [rgsAV l f] (intsAV (cutsL l) false) := by
  have := Zn.cuts_calls l f (fun r hr => ⟨(hz r hr).lo0, (hz r hr).lo1, (hz r hr).hi0, (hz r hr).hi1⟩) hl
  rw [cutsOf_eq hz] at this
  exact this
def endC (c : List Int) (i : Nat) : Int := match c[i + 1]? with | some y => y - 1 | none => 4294967295
theorem refEnd_calls (c : List Int) (f : Bool) (i : Nat) (hl : c.length < 2 ^ 60) (hi : i < 2 ^ 60) (hC : ∀ x ∈ c, 0 ≤ x ∧ x ≤ 4294967296) : PCalls Tryz.prog 114 [intsAV c f, .raw (.int .i64 i)] (.raw (.int .i64 (endC c i))) := Zn.end_calls c f i hl hi hC
theorem atomsC_at (c : List Int) (i : Nat) : (atomsC c)[i]? = (c[i]?).map fun x => ⟨x, endC c i⟩ := atomsC_get c i
end Go.Proofs.YtanimmdlgmkmkaaGreat.Av


/- The document's ranges and atoms of a network; labels that are those of a network. -/
namespace Go.Proofs.YtanimmdlgmkmkaaGreat.Av
open Go
set_option linter.unusedSimpArgs false
set_option linter.unusedVariables false
set_option maxRecDepth 100000
set_option maxHeartbeats 4000000
set_option pp.maxSteps 600

theorem refRanges_calls (n : Nw) (f : Fl) (hl : n.rules.length < 2 ^ 40) : PCalls Tryz.prog 112 [nwAV n f] (rgsAV (rgsN n) false) := by
  refine pbody Tryz.func112 rfl (N := 22) rfl rfl (by simp) (rgs_ids _ _ _) fun σ => ?_
  have f1 : σ.m ⟨1, σ.nx 1, 3⟩ = none := fresh_none _ _ _
  refine awp_seq ?_
  refine awp_reg ?_
  simp [nw_cells]
  refine awp_freeze ⟨1, σ.nx 1, 3⟩ ?_
  generalize hτ : St.del _ _ = τ
  generalize hA : (fun t => giveUp _ _ _) = A
  have a1 : A 1 = .pp (nwAV n f).cells 0 := by rw [← hA, ← hτ]; simp [giveUp, St.new, St.del, nw_cells]
  have hE : Ext σ τ := by
    rw [← hτ]
    refine ⟨fun i o h => ?_, fun s => ?_⟩
    · have q2 : i ≠ ⟨1, σ.nx 1, 3⟩ := fun e => by rw [e, f1] at h; cases h
      simp [St.del, St.new, q2, h]
    · simp only [St.del, St.new]
      repeat' split
      all_goals omega
  clear hτ hA
  (try ((first | with_reducible refine dops_go ?_ | with_reducible refine OKv_go ?_ | with_reducible refine OKr_go ?_); simp [-cellOK, nw_cells, a1])); repeat' (first | refine awp_seq ?_ | refine awp_block ?_ | (refine awp_skip ?_; try simp) | (refine awp_exit ?_; try simp) | (refine awp_ret ?_; try simp) | (refine retP_same (by simp) ?_; simp) | (refine retP_no (by simp) (by simp [noIds]) (by repeat (first | assumption | exact Ext.refl _ | refine ext_new' ?_ | refine Ext.setF ?_ (by first | assumption | (simp [new_nx', St.set, fresh_none]; done) | exact ext_fresh (by assumption)))) ?_; simp [-cellOK, nw_cells, a1, new_m, set_m, new_nx']) | ((first | refine awp_reg ?_ | refine awp_drawT (fun _ => false) mixed (by decide +kernel) ?_ | refine awp_drawT isCallO mixed (by decide +kernel) ?_); simp [-cellOK, nw_cells, a1]) | (refine guarded_split ?_ ?_ <;> (intro hg; simp only [hg]; simp [-cellOK, nw_cells, a1])) | (apply awp_cond_t; focus (simp [-cellOK, nw_cells, a1]; done)) | (apply awp_cond_f; focus (simp [-cellOK, nw_cells, a1]; done)) | (refine awp_cond ?_; simp [-cellOK, nw_cells, a1]; refine ⟨?_, ?_⟩ <;> intro hc) | fail)
  refine awp_loopH (fun n' B ρ => Ext σ ρ ∧ B 1 = .pp (nwAV n f).cells 0 ∧ ∃ (i : Nat) (v : AV), B 4 = .raw (.int .i64 i) ∧ i ≤ n.rules.length ∧ n' = n.rules.length - i ∧ B 3 = v ∧ OwnL σ ρ 2 v ((rgsN n).take i |>.map rgAV)) n.rules.length ?_ ?_
  · exact ⟨hE, by simp [a1], 0, .sl 0 [] true, by simp, by omega, by omega, by simp, .inl ⟨by simp, rfl⟩⟩
  clear a1 hE
  rintro n' B ρ ⟨hE, a1, i, v, a4, hi, rfl, a3, hO⟩ I1 hI1
  by_cases hlt : i < n.rules.length
  · have hx : n.rules[i]? = some n.rules[i] := List.getElem?_eq_getElem hlt
    have w1 : IntKind.i64.wrap ((i : Int) + 1) = ((i + 1 : Nat) : Int) := by rw [wrap64 (by omega) (by omega)]; omega
    obtain ⟨x, hxe⟩ : ∃ x, n.rules[i] = x := ⟨_, rfl⟩
    have hxr : AV.agg [.raw (.int .u32 x.r.lo), .raw (.int .u32 x.r.hi)] = rgAV x.r := rfl
    have htk : (rgsN n).take (i + 1) = (rgsN n).take i ++ [x.r] := by
      unfold rgsN
      rw [List.take_add_one, List.getElem?_map, hx, hxe]; rfl
    (try ((first | with_reducible refine dops_go ?_ | with_reducible refine OKv_go ?_ | with_reducible refine OKr_go ?_); simp [-cellOK, nw_cells, rulesAV, a1, a3, a4, hlt, hx, hxe, ru_cells, hxr, rg_cells, new_m, set_m, new_nx', -opAppend])); repeat' (first | refine awp_seq ?_ | refine awp_block ?_ | (refine awp_skip ?_; try simp) | (refine awp_exit ?_; try simp) | (refine awp_ret ?_; try simp) | ((first | refine awp_reg ?_ | refine awp_drawT (fun _ => false) mixed (by decide +kernel) ?_ | refine awp_drawT isCallO mixed (by decide +kernel) ?_); simp [-cellOK, nw_cells, rulesAV, a1, a3, a4, hlt, hx, hxe, ru_cells, hxr, rg_cells, new_m, set_m, new_nx', -opAppend]) | (refine guarded_split ?_ ?_ <;> (intro hg; simp only [hg]; simp [-cellOK, nw_cells, rulesAV, a1, a3, a4, hlt, hx, hxe, ru_cells, hxr, rg_cells, new_m, set_m, new_nx', -opAppend])) | (apply awp_cond_t; focus (simp [-cellOK, nw_cells, rulesAV, a1, a3, a4, hlt, hx, hxe, ru_cells, hxr, rg_cells, new_m, set_m, new_nx', -opAppend]; done)) | (apply awp_cond_f; focus (simp [-cellOK, nw_cells, rulesAV, a1, a3, a4, hlt, hx, hxe, ru_cells, hxr, rg_cells, new_m, set_m, new_nx', -opAppend]; done)) | (refine awp_cond ?_; simp [-cellOK, nw_cells, rulesAV, a1, a3, a4, hlt, hx, hxe, ru_cells, hxr, rg_cells, new_m, set_m, new_nx', -opAppend]; refine ⟨?_, ?_⟩ <;> intro hc) | fail)
    refine okr_append slt85 (σ0 := σ) (hO.ext (by repeat (first | assumption | exact Ext.refl _ | refine ext_new' ?_ | refine Ext.setF ?_ (by first | assumption | (simp [new_nx', St.set, fresh_none]; done) | exact ext_fresh (by assumption))))) (by repeat (first | assumption | exact Ext.refl _ | refine ext_new' ?_ | refine Ext.setF ?_ (by first | assumption | (simp [new_nx', St.set, fresh_none]; done) | exact ext_fresh (by assumption)))) (ys := [rgAV x.r]) (by simp [new_m, new_nx', rg_cells, rgAV]) (.inr rfl) (by simp [rgAV, cellsL, cellsOK, cellOK, AV.cells]) (by simp; omega) ?_
    intro v' τ' hO' hE' _ _
    (try ((first | with_reducible refine dops_go ?_ | with_reducible refine OKv_go ?_ | with_reducible refine OKr_go ?_); simp [-cellOK, a1, a3, a4, w1])); repeat' (first | refine awp_seq ?_ | refine awp_block ?_ | (refine awp_skip ?_; try simp) | (refine awp_exit ?_; try simp) | (refine awp_ret ?_; try simp) | (refine retP_same (by simp) ?_; simp) | (refine retP_no (by simp) (by simp [noIds]) (by repeat (first | assumption | exact Ext.refl _ | refine ext_new' ?_ | refine Ext.setF ?_ (by first | assumption | (simp [new_nx', St.set, fresh_none]; done) | exact ext_fresh (by assumption)))) ?_; simp [-cellOK, a1, a3, a4, w1, new_m, set_m, new_nx']) | ((first | refine awp_reg ?_ | refine awp_drawT (fun _ => false) mixed (by decide +kernel) ?_ | refine awp_drawT isCallO mixed (by decide +kernel) ?_); simp [-cellOK, a1, a3, a4, w1]) | (refine guarded_split ?_ ?_ <;> (intro hg; simp only [hg]; simp [-cellOK, a1, a3, a4, w1])) | (apply awp_cond_t; focus (simp [-cellOK, a1, a3, a4, w1]; done)) | (apply awp_cond_f; focus (simp [-cellOK, a1, a3, a4, w1]; done)) | (refine awp_cond ?_; simp [-cellOK, a1, a3, a4, w1]; refine ⟨?_, ?_⟩ <;> intro hc) | fail)
    refine hI1 (n.rules.length - (i + 1)) _ _ (by omega) ⟨hE', by simp [a1], i + 1, v', by simp, by omega, rfl, by simp, ?_⟩
    rw [htk, List.map_append]
    exact hO'
  · have : i = n.rules.length := by omega
    subst this
    rw [List.take_of_length_le (by unfold rgsN; simp)] at hO
    (try ((first | with_reducible refine dops_go ?_ | with_reducible refine OKv_go ?_ | with_reducible refine OKr_go ?_); simp [-cellOK, nw_cells, rulesAV, a1, a3, a4])); repeat' (first | refine awp_seq ?_ | refine awp_block ?_ | (refine awp_skip ?_; try simp) | (refine awp_exit ?_; try simp) | (refine awp_ret ?_; try simp) | ((first | refine awp_reg ?_ | refine awp_drawT (fun _ => false) mixed (by decide +kernel) ?_ | refine awp_drawT isCallO mixed (by decide +kernel) ?_); simp [-cellOK, nw_cells, rulesAV, a1, a3, a4]) | (refine guarded_split ?_ ?_ <;> (intro hg; simp only [hg]; simp [-cellOK, nw_cells, rulesAV, a1, a3, a4])) | (apply awp_cond_t; focus (simp [-cellOK, nw_cells, rulesAV, a1, a3, a4]; done)) | (apply awp_cond_f; focus (simp [-cellOK, nw_cells, rulesAV, a1, a3, a4]; done)) | (refine awp_cond ?_; simp [-cellOK, nw_cells, rulesAV, a1, a3, a4]; refine ⟨?_, ?_⟩ <;> intro hc) | fail)
    exact retP_own (v := v) (.inr rfl) (by simp) hO hE
end Go.Proofs.YtanimmdlgmkmkaaGreat.Av


/- The document's cuts of a range. -/
namespace Go.Proofs.YtanimmdlgmkmkaaGreat.Av
open Go
set_option linter.unusedSimpArgs false
set_option linter.unusedVariables false
set_option maxRecDepth 100000
set_option maxHeartbeats 4000000
set_option pp.maxSteps 600

theorem cutsL_mem_eq {L M : List Rg} (h : ∀ r, r ∈ L ↔ r ∈ M) : cutsL L = cutsL M := by
  refine cuts_unique (cutsL_cuts L).srt (cutsL_cuts M).srt fun x => ?_
  rw [(cutsL_cuts L).mem, (cutsL_cuts M).mem]
  constructor <;> rintro (h1 | ⟨r, h2, h3⟩)
  · exact .inl h1
  · exact .inr ⟨r, (h r).1 h2, h3⟩
  · exact .inl h1
  · exact .inr ⟨r, (h r).2 h2, h3⟩
theorem rgsOf_len {l : List Nw} (h : ∀ n ∈ l, rightN n = true) : (rgsOf l).length ≤ 40 * l.length := by
  induction l with
  | nil => simp [rgsOf]
  | cons n l ih =>
    have h1 := (right_rules (h n (by simp))).2
    have h2 := ih fun m hm => h m (by simp [hm])
    unfold rgsOf at h2 ⊢
    rw [List.flatMap_cons, List.length_append, List.length_map, List.length_cons]
    omega
theorem cutP_rightL {l : List Nw} (h : ∀ n ∈ l, rightN n = true) (hl : l.length ≤ 12) (r : Rg) : cutP l r = if r.hi < r.lo then [] else cutC (cutsL (rgsOf l)) r := by
  unfold cutP
  have := rgsOf_len h
  rw [held_few (rgs_le h) (by omega), cutsL_perm (List.reverse_perm _)]
theorem ok_rgs : ∀ z : List Rg, cellsOK (cellsL (z.map rgAV)) = true := fun z => by
  induction z with
  | nil => rfl
  | cons r z ih => simp [cellsL, rgAV, cellsOK, cellOK] at ih ⊢; try exact ih
theorem refCut_calls (l : List (Nw × Fl)) (f : Bool) (r : Rg) (hr : RgOK r) (hn : ∀ p ∈ l, NwOK p.1) (hrt : ∀ p ∈ l, rightN p.1 = true) (hl : l.length ≤ 12) :
    PCalls Tryz.prog 59 [netsAV l f, rgAV r] (.tup [rgsAV (cutP (l.map (·.1)) r) false, .raw (.int .i64 (if r.hi < r.lo then 31 else 0))]) := by
  have hrm : ∀ n ∈ l.map (·.1), rightN n = true := fun n h => by obtain ⟨p, hp, rfl⟩ := List.mem_map.1 h; exact hrt p hp
  rw [cutP_rightL hrm (by simpa using hl)]
  have hlen := rgsOf_len hrm
  rw [List.length_map] at hlen
  have hrgok : ∀ x ∈ rgsOf (l.map (·.1)), RgOK x := fun x hx => by
    unfold rgsOf at hx
    obtain ⟨n, hn1, hx⟩ := List.mem_flatMap.1 hx
    obtain ⟨p, hp, rfl⟩ := List.mem_map.1 hn1
    obtain ⟨y, hy, rfl⟩ := List.mem_map.1 hx
    exact (hn p hp).rg y hy
  refine pbody Tryz.func59 rfl (N := 66) rfl rfl (by simp) (by simp [noIds]) fun σ => ?_
  have f3 : σ.m ⟨3, σ.nx 3, 2⟩ = none := fresh_none _ _ _
  by_cases q0 : r.hi < r.lo
  · rw [if_pos q0, if_pos q0]
    (try ((first | with_reducible refine dops_go ?_ | with_reducible refine OKv_go ?_ | with_reducible refine OKr_go ?_); simp [-cellOK, rg_cells, rg_fold, q0])); repeat' (first | refine awp_seq ?_ | refine awp_block ?_ | (refine awp_skip ?_; try simp) | (refine awp_exit ?_; try simp) | (refine awp_ret ?_; try simp) | ((first | refine awp_reg ?_ | refine awp_drawT (fun _ => false) mixed (by decide +kernel) ?_ | refine awp_drawT isCallO mixed (by decide +kernel) ?_); simp [-cellOK, rg_cells, rg_fold, q0]) | (refine guarded_split ?_ ?_ <;> (intro hg; simp only [hg]; simp [-cellOK, rg_cells, rg_fold, q0])) | (apply awp_cond_t; focus (simp [-cellOK, rg_cells, rg_fold, q0]; done)) | (apply awp_cond_f; focus (simp [-cellOK, rg_cells, rg_fold, q0]; done)) | (refine awp_cond ?_; simp [-cellOK, rg_cells, rg_fold, q0]; refine ⟨?_, ?_⟩ <;> intro hc) | fail)
    refine retP_weak (x := .tup [.sl 0 [] true, .raw (.int .i64 31)]) (.inr rfl) (by repeat (first | assumption | exact Ext.refl _ | refine ext_new' ?_ | refine Ext.setF ?_ (by first | assumption | (simp [new_nx', St.set, fresh_none]; done) | exact ext_fresh (by assumption)))) ?_ ?_
    · simp
    · simp only [giveUps, List.map_cons, List.map_nil, giveUp]
      exact weaker_tup weaker_sl
  rw [if_neg q0, if_neg q0]
  refine awp_seq ?_
  refine awp_reg ?_
  simp [rg_cells]
  refine awp_freeze ⟨3, σ.nx 3, 2⟩ ?_
  generalize hτ : St.del _ _ = τ
  generalize hA : (fun t => giveUp _ _ _) = A
  have a0 : A 0 = netsAV l f := by rw [← hA]; simp [netsAV]
  have a3 : A 3 = .pp [.raw (.int .u32 r.lo), .raw (.int .u32 r.hi)] 0 := by rw [← hA, ← hτ]; simp [giveUp, St.new, St.del, rg_cells]
  have hE : Ext σ τ := by
    rw [← hτ]
    refine ⟨fun i o h => ?_, fun s => ?_⟩
    · rw [del_other (fun e => by rw [e, f3] at h; cases h)]
      exact new_up _ _ h
    · exact St.new_le σ 3 2 (.buf [rgAV r]) s
  clear hτ hA
  (try ((first | with_reducible refine dops_go ?_ | with_reducible refine OKv_go ?_ | with_reducible refine OKr_go ?_); simp [-cellOK, a0, a3, q0, netsAV])); repeat' (first | refine awp_seq ?_ | refine awp_block ?_ | (refine awp_skip ?_; try simp) | (refine awp_exit ?_; try simp) | (refine awp_ret ?_; try simp) | (refine retP_same (by simp) ?_; simp) | (refine retP_no (by simp) (by simp [noIds]) (by repeat (first | assumption | exact Ext.refl _ | refine ext_new' ?_ | refine Ext.setF ?_ (by first | assumption | (simp [new_nx', St.set, fresh_none]; done) | exact ext_fresh (by assumption)))) ?_; simp [-cellOK, a0, a3, q0, netsAV, new_m, set_m, new_nx']) | ((first | refine awp_reg ?_ | refine awp_drawT (fun _ => false) mixed (by decide +kernel) ?_ | refine awp_drawT isCallO mixed (by decide +kernel) ?_); simp [-cellOK, a0, a3, q0, netsAV]) | (refine guarded_split ?_ ?_ <;> (intro hg; simp only [hg]; simp [-cellOK, a0, a3, q0, netsAV])) | (apply awp_cond_t; focus (simp [-cellOK, a0, a3, q0, netsAV]; done)) | (apply awp_cond_f; focus (simp [-cellOK, a0, a3, q0, netsAV]; done)) | (refine awp_cond ?_; simp [-cellOK, a0, a3, q0, netsAV]; refine ⟨?_, ?_⟩ <;> intro hc) | fail)
  refine awp_block_cutH (fun B ρ => OwnL σ ρ 2 (B 6) ((rgsOf (l.map (·.1))).map rgAV) ∧ Ext σ ρ ∧ B 3 = .pp [.raw (.int .u32 r.lo), .raw (.int .u32 r.hi)] 0) ?_ ?_
  · intro R1 hR1
    refine awp_loopH (fun n' B ρ => Ext σ ρ ∧ B 0 = netsAV l f ∧ B 3 = .pp [.raw (.int .u32 r.lo), .raw (.int .u32 r.hi)] 0 ∧ ∃ (i : Nat) (v : AV), B 7 = .raw (.int .i64 i) ∧ i ≤ l.length ∧ n' = l.length - i ∧ B 6 = v ∧ OwnL σ ρ 2 v ((rgsOf ((l.take i).map (·.1))).map rgAV)) l.length ?_ ?_
    · exact ⟨hE, by simp [a0], by simp [a3], 0, .sl 0 [] true, by simp, by omega, by omega, by simp, .inl ⟨by simp [rgsOf], rfl⟩⟩
    clear a0 a3 hE
    rintro n' B ρ ⟨hE, a0, a3, i, v, a7, hi, rfl, a6, hO⟩ I1 hI1
    by_cases hlt : i < l.length
    · have hx : l[i]? = some l[i] := List.getElem?_eq_getElem hlt
      have w1 : IntKind.i64.wrap ((i : Int) + 1) = ((i + 1 : Nat) : Int) := by rw [wrap64 (by omega) (by omega)]; omega
      obtain ⟨nf, hnf⟩ : ∃ nf, l[i] = nf := ⟨_, rfl⟩
      have hmem : nf ∈ l := by rw [← hnf]; exact List.getElem_mem hlt
      have h40 := (right_rules (hrt nf hmem)).2
      have hsum : rgsOf ((l.take (i + 1)).map (·.1)) = rgsOf ((l.take i).map (·.1)) ++ rgsN nf.1 := by
        rw [List.take_add_one, hx, hnf]; simp [rgsOf, rgsN]
      have hl1 : (rgsOf ((l.take i).map (·.1))).length ≤ 480 := by
        have := rgsOf_len (l := (l.take i).map (·.1)) fun n h => by
          obtain ⟨p, hp, rfl⟩ := List.mem_map.1 h
          exact hrt p (List.mem_of_mem_take hp)
        rw [List.length_map, List.length_take] at this
        omega
      have hl2 : (rgsN nf.1).length ≤ 40 := by unfold rgsN; rw [List.length_map]; exact h40
      have hran := refRanges_calls nf.1 nf.2 (by omega)
      have hcs : (nwAV nf.1 nf.2).cells = [intsAV nf.1.t.ports nf.2.p, linksAV nf.1.t.links nf.2.l, rulesAV nf.1.rules nf.2.r] := rfl
      have hfo : AV.agg [intsAV nf.1.t.ports nf.2.p, linksAV nf.1.t.links nf.2.l, rulesAV nf.1.rules nf.2.r] = nwAV nf.1 nf.2 := rfl
      generalize rgsN nf.1 = R at *
      (try ((first | with_reducible refine dops_go ?_ | with_reducible refine OKv_go ?_ | with_reducible refine OKr_go ?_); simp [-cellOK, a0, a3, a6, a7, netsAV, hlt, hx, hnf, hcs, hfo, new_m, set_m, new_nx', -opAppend])); repeat' (first | refine awp_seq ?_ | refine awp_block ?_ | (refine awp_skip ?_; try simp) | (refine awp_exit ?_; try simp) | (refine awp_ret ?_; try simp) | ((first | refine awp_reg ?_ | refine awp_drawT (fun _ => false) mixed (by decide +kernel) ?_ | refine awp_drawT isCallO mixed (by decide +kernel) ?_ | refine PCalls.use (hran) ?_ | refine Or.inl ⟨_, Or.inl (hran), ?_⟩); simp [-cellOK, a0, a3, a6, a7, netsAV, hlt, hx, hnf, hcs, hfo, new_m, set_m, new_nx', -opAppend]) | (refine guarded_split ?_ ?_ <;> (intro hg; simp only [hg]; simp [-cellOK, a0, a3, a6, a7, netsAV, hlt, hx, hnf, hcs, hfo, new_m, set_m, new_nx', -opAppend])) | (apply awp_cond_t; focus (simp [-cellOK, a0, a3, a6, a7, netsAV, hlt, hx, hnf, hcs, hfo, new_m, set_m, new_nx', -opAppend]; done)) | (apply awp_cond_f; focus (simp [-cellOK, a0, a3, a6, a7, netsAV, hlt, hx, hnf, hcs, hfo, new_m, set_m, new_nx', -opAppend]; done)) | (refine awp_cond ?_; simp [-cellOK, a0, a3, a6, a7, netsAV, hlt, hx, hnf, hcs, hfo, new_m, set_m, new_nx', -opAppend]; refine ⟨?_, ?_⟩ <;> intro hc) | fail)
      refine okr_append slt85 (σ0 := σ) (hO.ext (by repeat (first | assumption | exact Ext.refl _ | refine ext_new' ?_ | refine Ext.setF ?_ (by first | assumption | (simp [new_nx', St.set, fresh_none]; done) | exact ext_fresh (by assumption))))) (by repeat (first | assumption | exact Ext.refl _ | refine ext_new' ?_ | refine Ext.setF ?_ (by first | assumption | (simp [new_nx', St.set, fresh_none]; done) | exact ext_fresh (by assumption)))) (ys := R.map rgAV) (by simp [rgsAV]) (.inr rfl) (ok_rgs _) (by rw [List.length_map, List.length_map]; omega) ?_
      intro v' τ' hO' hE' _ _
      (try ((first | with_reducible refine dops_go ?_ | with_reducible refine OKv_go ?_ | with_reducible refine OKr_go ?_); simp [-cellOK, a0, a3, a6, a7, w1])); repeat' (first | refine awp_seq ?_ | refine awp_block ?_ | (refine awp_skip ?_; try simp) | (refine awp_exit ?_; try simp) | (refine awp_ret ?_; try simp) | (refine retP_same (by simp) ?_; simp) | (refine retP_no (by simp) (by simp [noIds]) (by repeat (first | assumption | exact Ext.refl _ | refine ext_new' ?_ | refine Ext.setF ?_ (by first | assumption | (simp [new_nx', St.set, fresh_none]; done) | exact ext_fresh (by assumption)))) ?_; simp [-cellOK, a0, a3, a6, a7, w1, new_m, set_m, new_nx']) | ((first | refine awp_reg ?_ | refine awp_drawT (fun _ => false) mixed (by decide +kernel) ?_ | refine awp_drawT isCallO mixed (by decide +kernel) ?_); simp [-cellOK, a0, a3, a6, a7, w1]) | (refine guarded_split ?_ ?_ <;> (intro hg; simp only [hg]; simp [-cellOK, a0, a3, a6, a7, w1])) | (apply awp_cond_t; focus (simp [-cellOK, a0, a3, a6, a7, w1]; done)) | (apply awp_cond_f; focus (simp [-cellOK, a0, a3, a6, a7, w1]; done)) | (refine awp_cond ?_; simp [-cellOK, a0, a3, a6, a7, w1]; refine ⟨?_, ?_⟩ <;> intro hc) | fail)
      refine hI1 (l.length - (i + 1)) _ _ (by omega) ⟨hE', by simp [a0], by simp [a3], i + 1, v', by simp, by omega, rfl, by simp, ?_⟩
      rw [hsum, List.map_append]
      exact hO'
    · have : i = l.length := by omega
      subst this
      rw [List.take_length] at hO
      (try ((first | with_reducible refine dops_go ?_ | with_reducible refine OKv_go ?_ | with_reducible refine OKr_go ?_); simp [-cellOK, a0, a3, a6, a7, netsAV])); repeat' (first | refine awp_seq ?_ | refine awp_block ?_ | (refine awp_skip ?_; try simp) | (refine awp_exit ?_; try simp) | (refine awp_ret ?_; try simp) | (refine retP_same (by simp) ?_; simp) | (refine retP_no (by simp) (by simp [noIds]) (by repeat (first | assumption | exact Ext.refl _ | refine ext_new' ?_ | refine Ext.setF ?_ (by first | assumption | (simp [new_nx', St.set, fresh_none]; done) | exact ext_fresh (by assumption)))) ?_; simp [-cellOK, a0, a3, a6, a7, netsAV, new_m, set_m, new_nx']) | ((first | refine awp_reg ?_ | refine awp_drawT (fun _ => false) mixed (by decide +kernel) ?_ | refine awp_drawT isCallO mixed (by decide +kernel) ?_); simp [-cellOK, a0, a3, a6, a7, netsAV]) | (refine guarded_split ?_ ?_ <;> (intro hg; simp only [hg]; simp [-cellOK, a0, a3, a6, a7, netsAV])) | (apply awp_cond_t; focus (simp [-cellOK, a0, a3, a6, a7, netsAV]; done)) | (apply awp_cond_f; focus (simp [-cellOK, a0, a3, a6, a7, netsAV]; done)) | (refine awp_cond ?_; simp [-cellOK, a0, a3, a6, a7, netsAV]; refine ⟨?_, ?_⟩ <;> intro hc) | fail)
      exact hR1 _ _ ⟨by simp [a6]; exact hO, hE, by simp [a3]⟩
  · rintro B ρ ⟨hO, hE, a3⟩
    refine awp_settle 6 hO hE ?_
    intro A' τ' hE a6 k1 _ _ _ _
    have a3 := (k1 3 (by decide) (by rw [a3]; rfl)).trans a3
    have a6 : A' 6 = rgsAV (rgsOf (l.map (·.1))) false := a6
    clear hO k1
    have hc := refCuts_calls (rgsOf (l.map (·.1))) false hrgok (by omega)
    have hrg : ∀ x ∈ cutsL (rgsOf (l.map (·.1))), 0 ≤ x ∧ x < 4294967296 := fun x hx => (cutsL_cuts _).range hrgok hx
    have hcl := cutsL_len (rgsOf (l.map (·.1)))
    have he := fun (i : Nat) (h : i < 2 ^ 60) => refEnd_calls (cutsL (rgsOf (l.map (·.1)))) false i (by omega) h fun x hx => by have := hrg x hx; omega
    have hs := (cutsL_cuts (rgsOf (l.map (·.1)))).srt
    generalize rgsOf (l.map (·.1)) = L at *
    generalize cutsL L = c at *
    obtain ⟨r1, r2, r3, r4⟩ := hr
    (try ((first | with_reducible refine dops_go ?_ | with_reducible refine OKv_go ?_ | with_reducible refine OKr_go ?_); simp [-cellOK, a3, a6])); repeat' (first | refine awp_seq ?_ | refine awp_block ?_ | (refine awp_skip ?_; try simp) | (refine awp_exit ?_; try simp) | (refine awp_ret ?_; try simp) | (refine retP_same (by simp) ?_; simp) | (refine retP_no (by simp) (by simp [noIds]) (by repeat (first | assumption | exact Ext.refl _ | refine ext_new' ?_ | refine Ext.setF ?_ (by first | assumption | (simp [new_nx', St.set, fresh_none]; done) | exact ext_fresh (by assumption)))) ?_; simp [-cellOK, a3, a6, new_m, set_m, new_nx']) | ((first | refine awp_reg ?_ | refine awp_drawT (fun _ => false) mixed (by decide +kernel) ?_ | refine awp_drawT isCallO mixed (by decide +kernel) ?_ | refine PCalls.use (hc) ?_ | refine Or.inl ⟨_, Or.inl (hc), ?_⟩); simp [-cellOK, a3, a6]) | (refine guarded_split ?_ ?_ <;> (intro hg; simp only [hg]; simp [-cellOK, a3, a6])) | (apply awp_cond_t; focus (simp [-cellOK, a3, a6]; done)) | (apply awp_cond_f; focus (simp [-cellOK, a3, a6]; done)) | (refine awp_cond ?_; simp [-cellOK, a3, a6]; refine ⟨?_, ?_⟩ <;> intro hc) | fail)
    refine awp_loopH (fun n' B ρ => Ext σ ρ ∧ B 3 = .pp [.raw (.int .u32 r.lo), .raw (.int .u32 r.hi)] 0 ∧ B 8 = intsAV c false ∧ ∃ (i : Nat) (v : AV), B 10 = .raw (.int .i64 i) ∧ i ≤ c.length ∧ n' = c.length - i ∧ B 9 = v ∧ OwnL σ ρ 2 v ((((atomsC c).take i).filterMap (cutOne r)).map rgAV)) c.length ?_ ?_
    · exact ⟨hE, by simp [a3], by simp, 0, .sl 0 [] true, by simp, by omega, by omega, by simp, .inl ⟨by simp, rfl⟩⟩
    clear a3 a6 hE
    rintro n' B ρ ⟨hE, a3, a8, i, v, a10, hi, rfl, a9, hO⟩ I1 hI1
    by_cases hlt : i < c.length
    · have hx : c[i]? = some c[i] := List.getElem?_eq_getElem hlt
      have w1 : IntKind.i64.wrap ((i : Int) + 1) = ((i + 1 : Nat) : Int) := by rw [wrap64 (by omega) (by omega)]; omega
      have hend := he i (by omega)
      have hxr := hrg c[i] (List.getElem_mem hlt)
      obtain ⟨x, hxe⟩ : ∃ x, c[i] = x := ⟨_, rfl⟩
      rw [hxe] at hxr
      have hyr : 0 ≤ endC c i ∧ endC c i < 4294967296 := by
        unfold endC
        cases hy : c[i + 1]? with
        | none => simp only; omega
        | some y =>
          obtain ⟨h2, rfl⟩ := List.getElem?_eq_some_iff.1 hy
          have := hrg c[i + 1] (List.getElem_mem h2)
          simp only
          have h3 := List.pairwise_iff_getElem.1 hs i (i + 1) hlt h2 (by omega)
          rw [hxe] at h3
          omega
      have htk : ((atomsC c).take (i + 1)).filterMap (cutOne r) = ((atomsC c).take i).filterMap (cutOne r) ++ (cutOne r ⟨x, endC c i⟩).toList := by
        rw [List.take_add_one, atomsC_at, hx, hxe, List.filterMap_append]
        congr 1
      have hcl2 : (((atomsC c).take i).filterMap (cutOne r)).length ≤ c.length := by
        refine Nat.le_trans (List.length_filterMap_le _ _) ?_
        rw [List.length_take]; omega
      generalize endC c i = y at *
      have v1 : IntKind.i64.wrap r.lo = r.lo := wrap64 (by omega) (by omega)
      have v2 : IntKind.i64.wrap r.hi = r.hi := wrap64 (by omega) (by omega)
      obtain ⟨m1, hm1⟩ : ∃ m, max x r.lo = m := ⟨_, rfl⟩
      obtain ⟨m2, hm2⟩ : ∃ m, min y r.hi = m := ⟨_, rfl⟩
      have u1 : (if x < r.lo then r.lo else x) = m1 := by rw [← hm1]; split <;> omega
      have u2 : (if r.hi < y then r.hi else y) = m2 := by rw [← hm2]; split <;> omega
      have w2 : IntKind.u32.wrap m1 = m1 := wrapU32 (by omega) (by omega)
      by_cases hle : m1 ≤ m2
      · have w3 : IntKind.u32.wrap m2 = m2 := wrapU32 (by omega) (by omega)
        have hco : cutOne r ⟨x, y⟩ = some ⟨m1, m2⟩ := by unfold cutOne; simp only [hm1, hm2]; rw [if_pos hle]
        rw [hco] at htk
        (try ((first | with_reducible refine dops_go ?_ | with_reducible refine OKv_go ?_ | with_reducible refine OKr_go ?_); simp [-cellOK, intsAV, iAV, a3, a8, a9, a10, hlt, hx, hxe, v1, v2, u1, u2, w2, w3, hle, new_m, set_m, new_nx', -opAppend])); repeat' (first | refine awp_seq ?_ | refine awp_block ?_ | (refine awp_skip ?_; try simp) | (refine awp_exit ?_; try simp) | (refine awp_ret ?_; try simp) | ((first | refine awp_reg ?_ | refine awp_drawT (fun _ => false) mixed (by decide +kernel) ?_ | refine awp_drawT isCallO mixed (by decide +kernel) ?_ | refine PCalls.use (hend) ?_ | refine Or.inl ⟨_, Or.inl (hend), ?_⟩); simp [-cellOK, intsAV, iAV, a3, a8, a9, a10, hlt, hx, hxe, v1, v2, u1, u2, w2, w3, hle, new_m, set_m, new_nx', -opAppend]) | (refine guarded_split ?_ ?_ <;> (intro hg; simp only [hg]; simp [-cellOK, intsAV, iAV, a3, a8, a9, a10, hlt, hx, hxe, v1, v2, u1, u2, w2, w3, hle, new_m, set_m, new_nx', -opAppend])) | (apply awp_cond_t; focus (simp [-cellOK, intsAV, iAV, a3, a8, a9, a10, hlt, hx, hxe, v1, v2, u1, u2, w2, w3, hle, new_m, set_m, new_nx', -opAppend]; done)) | (apply awp_cond_f; focus (simp [-cellOK, intsAV, iAV, a3, a8, a9, a10, hlt, hx, hxe, v1, v2, u1, u2, w2, w3, hle, new_m, set_m, new_nx', -opAppend]; done)) | (refine awp_cond ?_; simp [-cellOK, intsAV, iAV, a3, a8, a9, a10, hlt, hx, hxe, v1, v2, u1, u2, w2, w3, hle, new_m, set_m, new_nx', -opAppend]; refine ⟨?_, ?_⟩ <;> intro hc) | fail)
        refine okr_append slt85 (σ0 := σ) (hO.ext (by repeat (first | assumption | exact Ext.refl _ | refine ext_new' ?_ | refine Ext.setF ?_ (by first | assumption | (simp [new_nx', St.set, fresh_none]; done) | exact ext_fresh (by assumption))))) (by repeat (first | assumption | exact Ext.refl _ | refine ext_new' ?_ | refine Ext.setF ?_ (by first | assumption | (simp [new_nx', St.set, fresh_none]; done) | exact ext_fresh (by assumption)))) (ys := [rgAV ⟨m1, m2⟩]) (by simp [new_m, new_nx', rg_cells, rgAV]) (.inr rfl) (by simp [rgAV, cellsL, cellsOK, cellOK, AV.cells]) (by rw [List.length_map]; simp only [List.length_cons, List.length_nil]; omega) ?_
        intro v' τ' hO' hE' _ _
        (try ((first | with_reducible refine dops_go ?_ | with_reducible refine OKv_go ?_ | with_reducible refine OKr_go ?_); simp [-cellOK, a3, a8, a9, a10, w1])); repeat' (first | refine awp_seq ?_ | refine awp_block ?_ | (refine awp_skip ?_; try simp) | (refine awp_exit ?_; try simp) | (refine awp_ret ?_; try simp) | (refine retP_same (by simp) ?_; simp) | (refine retP_no (by simp) (by simp [noIds]) (by repeat (first | assumption | exact Ext.refl _ | refine ext_new' ?_ | refine Ext.setF ?_ (by first | assumption | (simp [new_nx', St.set, fresh_none]; done) | exact ext_fresh (by assumption)))) ?_; simp [-cellOK, a3, a8, a9, a10, w1, new_m, set_m, new_nx']) | ((first | refine awp_reg ?_ | refine awp_drawT (fun _ => false) mixed (by decide +kernel) ?_ | refine awp_drawT isCallO mixed (by decide +kernel) ?_); simp [-cellOK, a3, a8, a9, a10, w1]) | (refine guarded_split ?_ ?_ <;> (intro hg; simp only [hg]; simp [-cellOK, a3, a8, a9, a10, w1])) | (apply awp_cond_t; focus (simp [-cellOK, a3, a8, a9, a10, w1]; done)) | (apply awp_cond_f; focus (simp [-cellOK, a3, a8, a9, a10, w1]; done)) | (refine awp_cond ?_; simp [-cellOK, a3, a8, a9, a10, w1]; refine ⟨?_, ?_⟩ <;> intro hc) | fail)
        refine hI1 (c.length - (i + 1)) _ _ (by omega) ⟨hE', by simp [a3], by simp [a8], i + 1, v', by simp, by omega, rfl, by simp, ?_⟩
        rw [htk, List.map_append]
        exact hO'
      · have hco : cutOne r ⟨x, y⟩ = none := by unfold cutOne; simp only [hm1, hm2]; rw [if_neg hle]
        rw [hco] at htk
        (try ((first | with_reducible refine dops_go ?_ | with_reducible refine OKv_go ?_ | with_reducible refine OKr_go ?_); simp [-cellOK, intsAV, iAV, a3, a8, a9, a10, hlt, hx, hxe, v1, v2, u1, u2, hle, w1, new_m, set_m, new_nx'])); repeat' (first | refine awp_seq ?_ | refine awp_block ?_ | (refine awp_skip ?_; try simp) | (refine awp_exit ?_; try simp) | (refine awp_ret ?_; try simp) | (refine retP_same (by simp) ?_; simp) | (refine retP_no (by simp) (by simp [noIds]) (by repeat (first | assumption | exact Ext.refl _ | refine ext_new' ?_ | refine Ext.setF ?_ (by first | assumption | (simp [new_nx', St.set, fresh_none]; done) | exact ext_fresh (by assumption)))) ?_; simp [-cellOK, intsAV, iAV, a3, a8, a9, a10, hlt, hx, hxe, v1, v2, u1, u2, hle, w1, new_m, set_m, new_nx', new_m, set_m, new_nx']) | ((first | refine awp_reg ?_ | refine awp_drawT (fun _ => false) mixed (by decide +kernel) ?_ | refine awp_drawT isCallO mixed (by decide +kernel) ?_ | refine PCalls.use (hend) ?_ | refine Or.inl ⟨_, Or.inl (hend), ?_⟩); simp [-cellOK, intsAV, iAV, a3, a8, a9, a10, hlt, hx, hxe, v1, v2, u1, u2, hle, w1, new_m, set_m, new_nx']) | (refine guarded_split ?_ ?_ <;> (intro hg; simp only [hg]; simp [-cellOK, intsAV, iAV, a3, a8, a9, a10, hlt, hx, hxe, v1, v2, u1, u2, hle, w1, new_m, set_m, new_nx'])) | (apply awp_cond_t; focus (simp [-cellOK, intsAV, iAV, a3, a8, a9, a10, hlt, hx, hxe, v1, v2, u1, u2, hle, w1, new_m, set_m, new_nx']; done)) | (apply awp_cond_f; focus (simp [-cellOK, intsAV, iAV, a3, a8, a9, a10, hlt, hx, hxe, v1, v2, u1, u2, hle, w1, new_m, set_m, new_nx']; done)) | (refine awp_cond ?_; simp [-cellOK, intsAV, iAV, a3, a8, a9, a10, hlt, hx, hxe, v1, v2, u1, u2, hle, w1, new_m, set_m, new_nx']; refine ⟨?_, ?_⟩ <;> intro hc) | fail)
        refine hI1 (c.length - (i + 1)) _ _ (by omega) ⟨hE, by simp [a3], by simp [a8, intsAV, iAV], i + 1, v, by simp, by omega, rfl, by simp [a9], ?_⟩
        rw [htk]; simpa using hO
    · have : i = c.length := by omega
      subst this
      rw [List.take_of_length_le (by rw [atomsC_len]; omega)] at hO
      (try ((first | with_reducible refine dops_go ?_ | with_reducible refine OKv_go ?_ | with_reducible refine OKr_go ?_); simp [-cellOK, intsAV, a3, a8, a9, a10])); repeat' (first | refine awp_seq ?_ | refine awp_block ?_ | (refine awp_skip ?_; try simp) | (refine awp_exit ?_; try simp) | (refine awp_ret ?_; try simp) | ((first | refine awp_reg ?_ | refine awp_drawT (fun _ => false) mixed (by decide +kernel) ?_ | refine awp_drawT isCallO mixed (by decide +kernel) ?_); simp [-cellOK, intsAV, a3, a8, a9, a10]) | (refine guarded_split ?_ ?_ <;> (intro hg; simp only [hg]; simp [-cellOK, intsAV, a3, a8, a9, a10])) | (apply awp_cond_t; focus (simp [-cellOK, intsAV, a3, a8, a9, a10]; done)) | (apply awp_cond_f; focus (simp [-cellOK, intsAV, a3, a8, a9, a10]; done)) | (refine awp_cond ?_; simp [-cellOK, intsAV, a3, a8, a9, a10]; refine ⟨?_, ?_⟩ <;> intro hc) | fail)
      exact retP_ownT (.inr rfl) (by simp [a9]) hO hE
end Go.Proofs.YtanimmdlgmkmkaaGreat.Av


/- The document's verdict. -/
namespace Go.Proofs.YtanimmdlgmkmkaaGreat.Av
open Go
set_option linter.unusedSimpArgs false
set_option linter.unusedVariables false
set_option maxRecDepth 100000
set_option maxHeartbeats 4000000
set_option pp.maxSteps 600

theorem Ext.delF {σ τ : St} {i : Id} (h : Ext σ τ) (hi : σ.m i = none) : Ext σ (τ.del i) :=
  ⟨fun j o hj => by rw [del_other (fun e => by rw [e, hi] at hj; cases hj)]; exact h.m j o hj, h.nx⟩
theorem breaks_first {q : Qy} (h : q.kind ≠ 5) (t u u' : Tk) : breaksQ q t u = breaksQ q t u' := by
  unfold breaksQ
  rw [if_neg h, if_neg h]
theorem cutP_twice {n : Nw} (h : rightN n = true) (r : Rg) : cutP [n, n] r = cutP [n] r := by
  rw [cutP_rightL (by simp [h]) (by simp), cutP_rightL (by simp [h]) (by simp)]
  have : cutsL (rgsOf [n, n]) = cutsL (rgsOf [n]) := cutsL_mem_eq fun r => by simp [rgsOf]
  rw [this]
theorem right_kind {n : Nw} {q : Qy} (h : rightQ n q = true) : 0 ≤ q.kind ∧ q.kind ≤ 5 := by
  unfold rightQ at h
  simp only [Bool.and_eq_true, Bool.not_eq_true', Bool.or_eq_false_iff, decide_eq_false_iff_not] at h
  omega
theorem refRun_calls (n m : Nw) (f g : Fl) (q : Qy) (hn : NwOK n) (hm : NwOK m) (rn : rightN n = true) (rm : rightN m = true) (hq : RgOK q.r) :
    PCalls Tryz.prog 18 [nwAV n f, nwAV m g, qyAV q] (.tup [vdAV (runQ n m q).1 false, .raw (.int .i64 (runQ n m q).2)]) := by
  have hr := refRightQ_calls n f q
  have hs := refTopo_calls n.t m.t f g (by have := hn.ports; omega) (by have := hm.ports; omega) (by have := hn.links; omega) (by have := hm.links; omega)
  have hso := refSources_calls n f q hn.ports
  refine pbody Tryz.func18 rfl (N := 117) rfl rfl (by simp) (by simp [noIds]) fun σ => ?_
  repeat (refine awp_seq ?_)
  refine awp_reg ?_
  simp [-cellOK, nw_cells, qy_cells]
  generalize hA0 : put 117 _ _ _ = A0
  have c3 : A0 3 = .rp ⟨3, σ.nx 3, 3⟩ 0 0 := by rw [← hA0]; simp [new_nx']
  have c4 : A0 4 = .rp ⟨4, σ.nx 4, 3⟩ 0 0 := by rw [← hA0]; simp [new_nx']
  have c5 : A0 5 = .rp ⟨5, σ.nx 5, 7⟩ 0 0 := by rw [← hA0]; simp [new_nx']
  have c6 : A0 6 = .rp ⟨6, σ.nx 6, 7⟩ 0 0 := by rw [← hA0]; simp [new_nx']
  clear hA0
  refine awp_freeze ⟨3, σ.nx 3, 3⟩ ?_
  refine awp_freeze ⟨4, σ.nx 4, 3⟩ ?_
  refine awp_freeze ⟨5, σ.nx 5, 7⟩ ?_
  generalize hAA : (fun t => giveUp _ _ _) = A
  have a3 : A 3 = .pp (nwAV n f).cells 0 := by
    rw [← hAA]
    show giveUp _ _ (giveUp _ _ (giveUp _ _ (A0 3))) = _
    rw [c3, giveUp_rp_made (es := [nwAV n f]) (e := nwAV n f) (by simp [St.del]) (by simp [St.new, St.set]) rfl]; rfl
  have a4 : A 4 = .pp (nwAV m g).cells 0 := by
    rw [← hAA]
    show giveUp _ _ (giveUp _ _ (giveUp _ _ (A0 4))) = _
    rw [c4, giveUp_rp_ne (by simp), giveUp_rp_made (es := [nwAV m g]) (e := nwAV m g) (by simp [St.del]) (by simp [St.new, St.set, St.del]) rfl]; rfl
  have a5 : A 5 = .pp (qyAV q).cells 0 := by
    rw [← hAA]
    show giveUp _ _ (giveUp _ _ (giveUp _ _ (A0 5))) = _
    rw [c5, giveUp_rp_ne (by simp), giveUp_rp_ne (by simp), giveUp_rp_made (es := [qyAV q]) (e := qyAV q) (by simp [St.del]) (by simp [St.new, St.set, St.del]) rfl]
  have a6 : A 6 = .rp ⟨6, σ.nx 6, 7⟩ 0 0 := by
    rw [← hAA]
    show giveUp _ _ (giveUp _ _ (giveUp _ _ (A0 6))) = _
    rw [c6, giveUp_rp_ne (by simp), giveUp_rp_ne (by simp), giveUp_rp_ne (by simp)]
  generalize hτ : St.del _ _ = τ
  have m6 : τ.m ⟨6, σ.nx 6, 7⟩ = some (.buf [.agg [.raw (.bool false), .raw (.int .i64 0), .raw (.int .u32 0), .sl 0 [] true, .raw (.int .i64 0), .raw (.int .i64 0), .raw (.int .i64 0)]]) := by rw [← hτ]; simp [St.new, St.del]
  have hE : Ext σ τ := by
    rw [← hτ]
    refine ⟨fun i o h => ?_, fun s => ?_⟩
    · have q1 : i ≠ ⟨3, σ.nx 3, 3⟩ := fun e => by rw [e, fresh_none] at h; cases h
      have q2 : i ≠ ⟨4, σ.nx 4, 3⟩ := fun e => by rw [e, fresh_none] at h; cases h
      have q3 : i ≠ ⟨5, σ.nx 5, 7⟩ := fun e => by rw [e, fresh_none] at h; cases h
      have q4 : i ≠ ⟨6, σ.nx 6, 7⟩ := fun e => by rw [e, fresh_none] at h; cases h
      simp [St.del, St.new, q1, q2, q3, q4, h]
    · simp only [St.del, St.new]
      repeat' split
      all_goals omega
  clear hτ hAA c3 c4 c5 c6
  have f6 : σ.m ⟨6, σ.nx 6, 7⟩ = none := fresh_none _ _ _
  obtain ⟨i6, hi6⟩ : ∃ i, (⟨6, σ.nx 6, 7⟩ : Id) = i := ⟨_, rfl⟩
  have s6 : i6.sz = 7 := by rw [← hi6]
  rw [hi6] at a6 m6 f6
  clear hi6
  have htf : ∀ (N : Nw) (F : Fl), AV.agg [intsAV N.t.ports F.p, linksAV N.t.links F.l] = tpAV N.t F := fun _ _ => rfl
  have bad : ∀ {B : Env} {ρ : St}, Ext σ ρ → aresult Tryz.prog ρ.m B Tryz.f18.results = some (.tup [.agg [.raw (.bool false), .raw (.int .i64 0), .raw (.int .u32 0), .sl 0 [] true, .raw (.int .i64 0), .raw (.int .i64 0), .raw (.int .i64 0)], .raw (.int .i64 121)]) → RetP Tryz.prog Tryz.f18 σ (.tup [vdAV ⟨false, 0, 0, noTk⟩ false, .raw (.int .i64 121)]) .ret B ρ := fun hE h =>
    retP_weak (.inr rfl) hE h (by simpa [giveUps, giveUp] using weaker_vd false 121)
  unfold runQ
  cases hrb : rightQ n q with
  | false =>
    rw [hrb] at hr
    rw [if_pos (.inl rfl)]
    (try ((first | with_reducible refine dops_go ?_ | with_reducible refine OKv_go ?_ | with_reducible refine OKr_go ?_); simp [-cellOK, a3, a4, a5, a6, nw_cells, nw_fold, qy_cells, qy_fold, m6])); repeat' (first | refine awp_seq ?_ | refine awp_block ?_ | (refine awp_skip ?_; try simp) | (refine awp_exit ?_; try simp) | (refine awp_ret ?_; try simp) | ((first | refine awp_reg ?_ | refine awp_drawT (fun _ => false) mixed (by decide +kernel) ?_ | refine awp_drawT isCallO mixed (by decide +kernel) ?_ | refine PCalls.use (hr) ?_ | refine Or.inl ⟨_, Or.inl (hr), ?_⟩); simp [-cellOK, a3, a4, a5, a6, nw_cells, nw_fold, qy_cells, qy_fold, m6]) | (refine guarded_split ?_ ?_ <;> (intro hg; simp only [hg]; simp [-cellOK, a3, a4, a5, a6, nw_cells, nw_fold, qy_cells, qy_fold, m6])) | (apply awp_cond_t; focus (simp [-cellOK, a3, a4, a5, a6, nw_cells, nw_fold, qy_cells, qy_fold, m6]; done)) | (apply awp_cond_f; focus (simp [-cellOK, a3, a4, a5, a6, nw_cells, nw_fold, qy_cells, qy_fold, m6]; done)) | (refine awp_cond ?_; simp [-cellOK, a3, a4, a5, a6, nw_cells, nw_fold, qy_cells, qy_fold, m6]; refine ⟨?_, ?_⟩ <;> intro hc) | fail)
    exact bad (by repeat (first | assumption | exact Ext.refl _ | refine ext_new' ?_ | refine Ext.setF ?_ (by first | assumption | (simp [new_nx', St.set, fresh_none]; done) | exact ext_fresh (by assumption)))) (by simp [set_m, m6, a6])
  | true =>
  have hkk := right_kind hrb
  rw [hrb] at hr
  obtain ⟨M, hM⟩ : ∃ M, (if q.kind = 5 then m else n) = M := ⟨_, rfl⟩
  obtain ⟨G, hG⟩ : ∃ G, (if q.kind = 5 then g else f) = G := ⟨_, rfl⟩
  have hMok : NwOK M := by rw [← hM]; split <;> assumption
  have hMr : rightN M = true := by rw [← hM]; split <;> assumption
  by_cases hbad : q.kind = 5 ∧ n.t ≠ m.t
  · rw [if_pos (.inr hbad)]
    obtain ⟨k5, hne⟩ := hbad
    have k5 := eq_true k5
    rw [decide_eq_false hne] at hs
    (try ((first | with_reducible refine dops_go ?_ | with_reducible refine OKv_go ?_ | with_reducible refine OKr_go ?_); simp [-cellOK, a3, a4, a5, a6, nw_cells, nw_fold, qy_cells, qy_fold, m6, k5, htf, new_m, set_m, new_nx'])); repeat' (first | refine awp_seq ?_ | refine awp_block ?_ | (refine awp_skip ?_; try simp) | (refine awp_exit ?_; try simp) | (refine awp_ret ?_; try simp) | ((first | refine awp_reg ?_ | refine awp_drawT (fun _ => false) mixed (by decide +kernel) ?_ | refine awp_drawT isCallO mixed (by decide +kernel) ?_ | refine PCalls.use (hr) ?_ | refine Or.inl ⟨_, Or.inl (hr), ?_⟩ | refine PCalls.use (hs) ?_ | refine Or.inl ⟨_, Or.inl (hs), ?_⟩); simp [-cellOK, a3, a4, a5, a6, nw_cells, nw_fold, qy_cells, qy_fold, m6, k5, htf, new_m, set_m, new_nx']) | (refine guarded_split ?_ ?_ <;> (intro hg; simp only [hg]; simp [-cellOK, a3, a4, a5, a6, nw_cells, nw_fold, qy_cells, qy_fold, m6, k5, htf, new_m, set_m, new_nx'])) | (apply awp_cond_t; focus (simp [-cellOK, a3, a4, a5, a6, nw_cells, nw_fold, qy_cells, qy_fold, m6, k5, htf, new_m, set_m, new_nx']; done)) | (apply awp_cond_f; focus (simp [-cellOK, a3, a4, a5, a6, nw_cells, nw_fold, qy_cells, qy_fold, m6, k5, htf, new_m, set_m, new_nx']; done)) | (refine awp_cond ?_; simp [-cellOK, a3, a4, a5, a6, nw_cells, nw_fold, qy_cells, qy_fold, m6, k5, htf, new_m, set_m, new_nx']; refine ⟨?_, ?_⟩ <;> intro hc) | fail)
    exact bad (by repeat (first | assumption | exact Ext.refl _ | refine ext_new' ?_ | refine Ext.setF ?_ (by first | assumption | (simp [new_nx', St.set, fresh_none]; done) | exact ext_fresh (by assumption)))) (by simp [set_m, new_m, new_nx', m6, a6])
  rw [if_neg (by simp [hbad]), hM]
  have hPl := cutP_len [n, M] q.r
  have hSl : (sourcesQ n q).length < 2 ^ 45 := by
    have := hn.ports
    unfold sourcesQ
    split
    · simp
    · simp; omega
  have n6 : ∀ s k z, ¬ z = 7 → (i6 = (⟨s, k, z⟩ : Id)) = False := fun s k z h => eq_false fun e => h (by rw [e] at s6; exact s6)
  have hrgf : AV.agg [.raw (.int .u32 q.r.lo), .raw (.int .u32 q.r.hi)] = rgAV q.r := rfl
  by_cases k5 : q.kind = 5
  focus
    have hcut := refCut_calls [(n, f), (m, g)] false q.r hq (by simp [hn, hm]) (by simp [rn, rm]) (by simp)
    simp only [List.map_cons, List.map_nil] at hcut
    have e1 : m = M := by rw [← hM, if_pos k5]
    have e2 : g = G := by rw [← hG, if_pos k5]
    have hsame : n.t = m.t := Classical.byContradiction fun h => hbad ⟨k5, h⟩
    rw [decide_eq_true hsame] at hs
    have hb' := fun (d x : Int) h1 h2 => refBreaks_calls q (traceR n d x).1 (traceR M d x).1 false false hkk h1 h2
    rw [e1] at hcut
    generalize (if q.r.hi < q.r.lo then (31 : Int) else 0) = ce at hcut
    generalize hPP : cutP [n, M] q.r = P at hcut hPl ⊢
    generalize sourcesQ n q = Sq at hso hSl ⊢
    have k5 := eq_true k5
    have n6a := n6 29 (τ.nx 29) 3 (by decide)
    have n6b := n6 43 (τ.nx 43) 3 (by decide)
    have n6c := n6 44 (τ.nx 44) 3 (by decide)
    (try ((first | with_reducible refine dops_go ?_ | with_reducible refine OKv_go ?_ | with_reducible refine OKr_go ?_); simp [-cellOK, a3, a4, a5, a6, nw_cells, nw_fold, qy_cells, qy_fold, m6, k5, htf, new_m, new_nx'])); repeat' (first | refine awp_seq ?_ | refine awp_block ?_ | (refine awp_skip ?_; try simp) | (refine awp_exit ?_; try simp) | (refine awp_ret ?_; try simp) | (refine retP_same (by simp) ?_; simp) | (refine retP_no (by simp) (by simp [noIds]) (by repeat (first | assumption | exact Ext.refl _ | refine ext_new' ?_ | refine Ext.setF ?_ (by first | assumption | (simp [new_nx', St.set, fresh_none]; done) | exact ext_fresh (by assumption)))) ?_; simp [-cellOK, a3, a4, a5, a6, nw_cells, nw_fold, qy_cells, qy_fold, m6, k5, htf, new_m, new_nx', new_m, set_m, new_nx']) | ((first | refine awp_reg ?_ | refine awp_drawT (fun _ => false) mixed (by decide +kernel) ?_ | refine awp_drawT isCallO mixed (by decide +kernel) ?_ | refine PCalls.use (hr) ?_ | refine Or.inl ⟨_, Or.inl (hr), ?_⟩ | refine PCalls.use (hs) ?_ | refine Or.inl ⟨_, Or.inl (hs), ?_⟩); simp [-cellOK, a3, a4, a5, a6, nw_cells, nw_fold, qy_cells, qy_fold, m6, k5, htf, new_m, new_nx']) | (refine guarded_split ?_ ?_ <;> (intro hg; simp only [hg]; simp [-cellOK, a3, a4, a5, a6, nw_cells, nw_fold, qy_cells, qy_fold, m6, k5, htf, new_m, new_nx'])) | (apply awp_cond_t; focus (simp [-cellOK, a3, a4, a5, a6, nw_cells, nw_fold, qy_cells, qy_fold, m6, k5, htf, new_m, new_nx']; done)) | (apply awp_cond_f; focus (simp [-cellOK, a3, a4, a5, a6, nw_cells, nw_fold, qy_cells, qy_fold, m6, k5, htf, new_m, new_nx']; done)) | (refine awp_cond ?_; simp [-cellOK, a3, a4, a5, a6, nw_cells, nw_fold, qy_cells, qy_fold, m6, k5, htf, new_m, new_nx']; refine ⟨?_, ?_⟩ <;> intro hc) | fail)
    have hE1 : Ext σ ((((τ.new 29 3 (.buf [nwAV n f])).new 43 3 (.buf [nwAV m g])).del ⟨29, τ.nx 29, 3⟩).new 44 3 (.buf [nwAV n f, nwAV m g])) := ext_new' (Ext.delF (ext_new' (ext_new' hE)) (ext_fresh hE))
    refine hcut.useFz (σ0 := σ) ⟨44, τ.nx 44, 3⟩ (ext_fresh hE) hE1 (by simp [giveUp, new_m, new_nx', St.del, netsAV, hrgf, e1]; rfl) ?_
    intro τ2 hE2 hk2 _
    have g6 := hk2 i6 _ (fun e => by rw [e] at s6; cases s6) (show _ = some (Ob.buf [.agg [.raw (.bool false), .raw (.int .i64 0), .raw (.int .u32 0), .sl 0 [] true, .raw (.int .i64 0), .raw (.int .i64 0), .raw (.int .i64 0)]]) by simp [new_m, new_nx', St.del, n6, m6])
    obtain ⟨X4, hX4⟩ : ∃ X, X = AV.pp (nwAV M G).cells 0 := ⟨_, rfl⟩
    have hX5 := hX4
    rw [e1, e2, ← hX4] at a4
    clear hE1 hX4
  rotate_left
  focus
    have hcut := refCut_calls [(n, f)] false q.r hq (by simp [hn]) (by simp [rn]) (by simp)
    simp only [List.map_cons, List.map_nil] at hcut
    have e1 : M = n := by rw [← hM, if_neg k5]
    have hb' : ∀ (d x : Int), (traceR n d x).1.path.length < 2 ^ 60 → (traceR M d x).1.path.length < 2 ^ 60 → PCalls Tryz.prog 70 [qyAV q, tkAV (traceR n d x).1 false, tkAV (traceR n d x).1 false] (.raw (.bool (breaksQ q (traceR n d x).1 (traceR M d x).1))) := fun d x h1 h2 => by
      rw [breaks_first k5 _ _ (traceR n d x).1]
      exact refBreaks_calls q (traceR n d x).1 (traceR n d x).1 false false hkk h1 h1
    have hPe : cutP [n, M] q.r = cutP [n] q.r := by rw [e1]; exact cutP_twice rn q.r
    rw [← hPe] at hcut
    generalize (if q.r.hi < q.r.lo then (31 : Int) else 0) = ce at hcut
    generalize hPP : cutP [n, M] q.r = P at hcut hPl ⊢
    generalize sourcesQ n q = Sq at hso hSl ⊢
    have k5 := eq_false k5
    (try ((first | with_reducible refine dops_go ?_ | with_reducible refine OKv_go ?_ | with_reducible refine OKr_go ?_); simp [-cellOK, a3, a4, a5, a6, nw_cells, nw_fold, qy_cells, qy_fold, m6, k5, htf, new_m, new_nx'])); repeat' (first | refine awp_seq ?_ | refine awp_block ?_ | (refine awp_skip ?_; try simp) | (refine awp_exit ?_; try simp) | (refine awp_ret ?_; try simp) | (refine retP_same (by simp) ?_; simp) | (refine retP_no (by simp) (by simp [noIds]) (by repeat (first | assumption | exact Ext.refl _ | refine ext_new' ?_ | refine Ext.setF ?_ (by first | assumption | (simp [new_nx', St.set, fresh_none]; done) | exact ext_fresh (by assumption)))) ?_; simp [-cellOK, a3, a4, a5, a6, nw_cells, nw_fold, qy_cells, qy_fold, m6, k5, htf, new_m, new_nx', new_m, set_m, new_nx']) | ((first | refine awp_reg ?_ | refine awp_drawT (fun _ => false) mixed (by decide +kernel) ?_ | refine awp_drawT isCallO mixed (by decide +kernel) ?_ | refine PCalls.use (hr) ?_ | refine Or.inl ⟨_, Or.inl (hr), ?_⟩ | refine PCalls.use (hs) ?_ | refine Or.inl ⟨_, Or.inl (hs), ?_⟩); simp [-cellOK, a3, a4, a5, a6, nw_cells, nw_fold, qy_cells, qy_fold, m6, k5, htf, new_m, new_nx']) | (refine guarded_split ?_ ?_ <;> (intro hg; simp only [hg]; simp [-cellOK, a3, a4, a5, a6, nw_cells, nw_fold, qy_cells, qy_fold, m6, k5, htf, new_m, new_nx'])) | (apply awp_cond_t; focus (simp [-cellOK, a3, a4, a5, a6, nw_cells, nw_fold, qy_cells, qy_fold, m6, k5, htf, new_m, new_nx']; done)) | (apply awp_cond_f; focus (simp [-cellOK, a3, a4, a5, a6, nw_cells, nw_fold, qy_cells, qy_fold, m6, k5, htf, new_m, new_nx']; done)) | (refine awp_cond ?_; simp [-cellOK, a3, a4, a5, a6, nw_cells, nw_fold, qy_cells, qy_fold, m6, k5, htf, new_m, new_nx']; refine ⟨?_, ?_⟩ <;> intro hc) | fail)
    refine hcut.useFz (σ0 := σ) ⟨29, τ.nx 29, 3⟩ (ext_fresh hE) (ext_new' hE) (by simp [giveUp, new_m, new_nx', St.del, netsAV, hrgf]; rfl) ?_
    intro τ2 hE2 hk2 _
    have g6 := hk2 i6 _ (fun e => by rw [e] at s6; cases s6) (show _ = some (Ob.buf [.agg [.raw (.bool false), .raw (.int .i64 0), .raw (.int .u32 0), .sl 0 [] true, .raw (.int .i64 0), .raw (.int .i64 0), .raw (.int .i64 0)]]) by simp [new_m, new_nx', n6, m6])
    obtain ⟨X4, hX4⟩ : ∃ X, X = AV.pp (nwAV m g).cells 0 := ⟨_, rfl⟩
    have hX5 : True := trivial
    rw [← hX4] at a4
    clear hX4
  all_goals
    rw [vd0_fold] at g6
    obtain ⟨R0, hR0⟩ : ∃ R0, seeks n M q P Sq = R0 := ⟨_, rfl⟩
    rw [hR0]
    (try ((first | with_reducible refine dops_go ?_ | with_reducible refine OKv_go ?_ | with_reducible refine OKr_go ?_); simp [-cellOK, a3, a4, a5, a6, g6, nw_cells, nw_fold, qy_cells, qy_fold, rgsAV])); repeat' (first | refine awp_seq ?_ | refine awp_block ?_ | (refine awp_skip ?_; try simp) | (refine awp_exit ?_; try simp) | (refine awp_ret ?_; try simp) | (refine retP_same (by simp) ?_; simp) | (refine retP_no (by simp) (by simp [noIds]) (by repeat (first | assumption | exact Ext.refl _ | refine ext_new' ?_ | refine Ext.setF ?_ (by first | assumption | (simp [new_nx', St.set, fresh_none]; done) | exact ext_fresh (by assumption)))) ?_; simp [-cellOK, a3, a4, a5, a6, g6, nw_cells, nw_fold, qy_cells, qy_fold, rgsAV, new_m, set_m, new_nx']) | ((first | refine awp_reg ?_ | refine awp_drawT (fun _ => false) mixed (by decide +kernel) ?_ | refine awp_drawT isCallO mixed (by decide +kernel) ?_ | refine PCalls.use (hso) ?_ | refine Or.inl ⟨_, Or.inl (hso), ?_⟩); simp [-cellOK, a3, a4, a5, a6, g6, nw_cells, nw_fold, qy_cells, qy_fold, rgsAV]) | (refine guarded_split ?_ ?_ <;> (intro hg; simp only [hg]; simp [-cellOK, a3, a4, a5, a6, g6, nw_cells, nw_fold, qy_cells, qy_fold, rgsAV])) | (apply awp_cond_t; focus (simp [-cellOK, a3, a4, a5, a6, g6, nw_cells, nw_fold, qy_cells, qy_fold, rgsAV]; done)) | (apply awp_cond_f; focus (simp [-cellOK, a3, a4, a5, a6, g6, nw_cells, nw_fold, qy_cells, qy_fold, rgsAV]; done)) | (refine awp_cond ?_; simp [-cellOK, a3, a4, a5, a6, g6, nw_cells, nw_fold, qy_cells, qy_fold, rgsAV]; refine ⟨?_, ?_⟩ <;> intro hc) | fail)
    refine awp_loopH (fun n' B ρ => Ext σ ρ ∧ B 3 = .pp (nwAV n f).cells 0 ∧ B 4 = X4 ∧ B 5 = .pp (qyAV q).cells 0 ∧ B 6 = .rp i6 0 0 ∧ ρ.m i6 = some (.buf [vd0AV]) ∧ B 11 = rgsAV P false ∧ B 13 = intsAV Sq false ∧ ∃ i : Nat, B 14 = .raw (.int .i64 i) ∧ i ≤ Sq.length ∧ n' = Sq.length - i ∧ seeks n M q P (Sq.drop i) = R0) Sq.length ?_ ?_
    · exact ⟨(by repeat (first | assumption | exact Ext.refl _ | refine ext_new' ?_ | refine Ext.setF ?_ (by first | assumption | (simp [new_nx', St.set, fresh_none]; done) | exact ext_fresh (by assumption)))), by simp [a3], by simp [a4], by simp [a5], by simp [a6], g6, by simp [rgsAV], by simp [intsAV], 0, by simp, by omega, by omega, by simpa using hR0⟩
    clear a3 a4 a5 a6 g6 m6 hE2 hE hk2 hR0
    rintro n' B ρ ⟨hE, a3, a4, a5, a6, m6, a11, a13, i, a14, hi, rfl, hR⟩ I1 hI1
    by_cases hlt : i < Sq.length
    · have hx : Sq[i]? = some Sq[i] := List.getElem?_eq_getElem hlt
      have w1 : IntKind.i64.wrap ((i : Int) + 1) = ((i + 1 : Nat) : Int) := by rw [wrap64 (by omega) (by omega)]; omega
      rw [List.drop_eq_getElem_cons hlt] at hR
      obtain ⟨d, hd⟩ : ∃ d, Sq[i] = d := ⟨_, rfl⟩
      rw [hd] at hR
      simp only [seeks] at hR
      (try ((first | with_reducible refine dops_go ?_ | with_reducible refine OKv_go ?_ | with_reducible refine OKr_go ?_); simp [-cellOK, a3, a4, a5, a6, a11, a13, a14, m6, hlt, hx, hd, rgsAV, intsAV, iAV])); repeat' (first | refine awp_seq ?_ | refine awp_block ?_ | (refine awp_skip ?_; try simp) | (refine awp_exit ?_; try simp) | (refine awp_ret ?_; try simp) | (refine retP_same (by simp) ?_; simp) | (refine retP_no (by simp) (by simp [noIds]) (by repeat (first | assumption | exact Ext.refl _ | refine ext_new' ?_ | refine Ext.setF ?_ (by first | assumption | (simp [new_nx', St.set, fresh_none]; done) | exact ext_fresh (by assumption)))) ?_; simp [-cellOK, a3, a4, a5, a6, a11, a13, a14, m6, hlt, hx, hd, rgsAV, intsAV, iAV, new_m, set_m, new_nx']) | ((first | refine awp_reg ?_ | refine awp_drawT (fun _ => false) mixed (by decide +kernel) ?_ | refine awp_drawT isCallO mixed (by decide +kernel) ?_); simp [-cellOK, a3, a4, a5, a6, a11, a13, a14, m6, hlt, hx, hd, rgsAV, intsAV, iAV]) | (refine guarded_split ?_ ?_ <;> (intro hg; simp only [hg]; simp [-cellOK, a3, a4, a5, a6, a11, a13, a14, m6, hlt, hx, hd, rgsAV, intsAV, iAV])) | (apply awp_cond_t; focus (simp [-cellOK, a3, a4, a5, a6, a11, a13, a14, m6, hlt, hx, hd, rgsAV, intsAV, iAV]; done)) | (apply awp_cond_f; focus (simp [-cellOK, a3, a4, a5, a6, a11, a13, a14, m6, hlt, hx, hd, rgsAV, intsAV, iAV]; done)) | (refine awp_cond ?_; simp [-cellOK, a3, a4, a5, a6, a11, a13, a14, m6, hlt, hx, hd, rgsAV, intsAV, iAV]; refine ⟨?_, ?_⟩ <;> intro hc) | fail)
      refine awp_loopH (fun n' C τ => Ext σ τ ∧ C 3 = .pp (nwAV n f).cells 0 ∧ C 4 = X4 ∧ C 5 = .pp (qyAV q).cells 0 ∧ C 6 = .rp i6 0 0 ∧ τ.m i6 = some (.buf [vd0AV]) ∧ C 11 = rgsAV P false ∧ C 13 = intsAV Sq false ∧ C 14 = .raw (.int .i64 i) ∧ ∃ j : Nat, C 15 = .raw (.int .i64 j) ∧ j ≤ P.length ∧ n' = P.length - j ∧ seek n M q d (P.drop j) = seek n M q d P) P.length ?_ ?_
      · exact ⟨(by repeat (first | assumption | exact Ext.refl _ | refine ext_new' ?_ | refine Ext.setF ?_ (by first | assumption | (simp [new_nx', St.set, fresh_none]; done) | exact ext_fresh (by assumption)))), by simp [a3], by simp [a4], by simp [a5], by simp [a6], m6, by simp [a11, rgsAV], by simp [a13, intsAV], by simp [a14], 0, by simp, by omega, by omega, by simp⟩
      clear a3 a4 a5 a6 a11 a13 a14 m6 hE
      rintro n' C τ ⟨hE, a3, a4, a5, a6, m6, a11, a13, a14, j, a15, hj, rfl, hS⟩ J1 hJ1
      by_cases hjl : j < P.length
      · have hy : P[j]? = some P[j] := List.getElem?_eq_getElem hjl
        have w2 : IntKind.i64.wrap ((j : Int) + 1) = ((j + 1 : Nat) : Int) := by rw [wrap64 (by omega) (by omega)]; omega
        rw [List.drop_eq_getElem_cons hjl] at hS
        obtain ⟨r, hr'⟩ : ∃ r, P[j] = r := ⟨_, rfl⟩
        rw [hr'] at hS
        simp only [seek] at hS
        have h1 := refTrace_calls n f d r.lo hn rn
        have h2 := refTrace_calls M G d r.lo hMok hMr
        have l1 := traceR_len n d r.lo
        have l2 := traceR_len M d r.lo
        have l3 := hn.links
        have l4 := hMok.links
        have hb := hb' d r.lo (by omega) (by omega)
        generalize (traceR n d r.lo).1 = T at h1 hb hS
        generalize (traceR M d r.lo).1 = U at h2 hb hS
        generalize (traceR n d r.lo).2 = eT at h1
        generalize (traceR M d r.lo).2 = eU at h2
        have n6s : ∀ s k, (i6 = (⟨s, k, 4⟩ : Id)) = False := fun s k => n6 s k 4 (by decide)
        have n6t : ∀ s k, ((⟨s, k, 4⟩ : Id) = i6) = False := fun s k => eq_false fun e => by rw [← e] at s6; cases s6
        by_cases hbr : breaksQ q T U = true
        · rw [hbr] at hb
          rw [if_pos hbr] at hS
          rw [← hS] at hR
          simp only [] at hR
          subst hR
          (try ((first | with_reducible refine dops_go ?_ | with_reducible refine OKv_go ?_ | with_reducible refine OKr_go ?_); simp [-cellOK, a3, a4, a5, a6, a11, a13, a14, a15, hX5, k5, m6, hlt, hx, hd, hjl, hy, hr', rgsAV, intsAV, iAV, rg_cells, nw_cells, nw_fold, qy_cells, qy_fold, tk_cells, tk_fold, tk_put, tk_putO, tk_putL, vd0_cells, vd0_put, vd0_putV, vd_cells, vd_fold, new_m, set_m, new_nx', n6s, n6t])); repeat' (first | refine awp_seq ?_ | refine awp_block ?_ | (refine awp_skip ?_; try simp) | (refine awp_exit ?_; try simp) | (refine awp_ret ?_; try simp) | (refine retP_same (by simp) ?_; simp) | (refine retP_no (by simp) (by simp [noIds]) (by repeat (first | assumption | exact Ext.refl _ | refine ext_new' ?_ | refine Ext.setF ?_ (by first | assumption | (simp [new_nx', St.set, fresh_none]; done) | exact ext_fresh (by assumption)))) ?_; simp [-cellOK, a3, a4, a5, a6, a11, a13, a14, a15, hX5, k5, m6, hlt, hx, hd, hjl, hy, hr', rgsAV, intsAV, iAV, rg_cells, nw_cells, nw_fold, qy_cells, qy_fold, tk_cells, tk_fold, tk_put, tk_putO, tk_putL, vd0_cells, vd0_put, vd0_putV, vd_cells, vd_fold, new_m, set_m, new_nx', n6s, n6t, new_m, set_m, new_nx']) | ((first | refine awp_reg ?_ | refine awp_drawT (fun _ => false) mixed (by decide +kernel) ?_ | refine awp_drawT isCallO mixed (by decide +kernel) ?_ | refine PCalls.use (h1) ?_ | refine Or.inl ⟨_, Or.inl (h1), ?_⟩ | refine PCalls.use (h2) ?_ | refine Or.inl ⟨_, Or.inl (h2), ?_⟩ | refine PCalls.use (hb) ?_ | refine Or.inl ⟨_, Or.inl (hb), ?_⟩); simp [-cellOK, a3, a4, a5, a6, a11, a13, a14, a15, hX5, k5, m6, hlt, hx, hd, hjl, hy, hr', rgsAV, intsAV, iAV, rg_cells, nw_cells, nw_fold, qy_cells, qy_fold, tk_cells, tk_fold, tk_put, tk_putO, tk_putL, vd0_cells, vd0_put, vd0_putV, vd_cells, vd_fold, new_m, set_m, new_nx', n6s, n6t]) | (refine guarded_split ?_ ?_ <;> (intro hg; simp only [hg]; simp [-cellOK, a3, a4, a5, a6, a11, a13, a14, a15, hX5, k5, m6, hlt, hx, hd, hjl, hy, hr', rgsAV, intsAV, iAV, rg_cells, nw_cells, nw_fold, qy_cells, qy_fold, tk_cells, tk_fold, tk_put, tk_putO, tk_putL, vd0_cells, vd0_put, vd0_putV, vd_cells, vd_fold, new_m, set_m, new_nx', n6s, n6t])) | (apply awp_cond_t; focus (simp [-cellOK, a3, a4, a5, a6, a11, a13, a14, a15, hX5, k5, m6, hlt, hx, hd, hjl, hy, hr', rgsAV, intsAV, iAV, rg_cells, nw_cells, nw_fold, qy_cells, qy_fold, tk_cells, tk_fold, tk_put, tk_putO, tk_putL, vd0_cells, vd0_put, vd0_putV, vd_cells, vd_fold, new_m, set_m, new_nx', n6s, n6t]; done)) | (apply awp_cond_f; focus (simp [-cellOK, a3, a4, a5, a6, a11, a13, a14, a15, hX5, k5, m6, hlt, hx, hd, hjl, hy, hr', rgsAV, intsAV, iAV, rg_cells, nw_cells, nw_fold, qy_cells, qy_fold, tk_cells, tk_fold, tk_put, tk_putO, tk_putL, vd0_cells, vd0_put, vd0_putV, vd_cells, vd_fold, new_m, set_m, new_nx', n6s, n6t]; done)) | (refine awp_cond ?_; simp [-cellOK, a3, a4, a5, a6, a11, a13, a14, a15, hX5, k5, m6, hlt, hx, hd, hjl, hy, hr', rgsAV, intsAV, iAV, rg_cells, nw_cells, nw_fold, qy_cells, qy_fold, tk_cells, tk_fold, tk_put, tk_putO, tk_putL, vd0_cells, vd0_put, vd0_putV, vd_cells, vd_fold, new_m, set_m, new_nx', n6s, n6t]; refine ⟨?_, ?_⟩ <;> intro hc) | fail)
          rfl
        · have hbr : breaksQ q T U = false := by simpa using hbr
          rw [hbr] at hb
          rw [hbr, if_neg (by simp)] at hS
          (try ((first | with_reducible refine dops_go ?_ | with_reducible refine OKv_go ?_ | with_reducible refine OKr_go ?_); simp [-cellOK, a3, a4, a5, a6, a11, a13, a14, a15, hX5, k5, m6, hlt, hx, hd, hjl, hy, hr', rgsAV, intsAV, iAV, rg_cells, nw_cells, nw_fold, qy_cells, qy_fold, tk_cells, tk_fold, tk_put, tk_putO, tk_putL, new_m, set_m, new_nx', n6s, n6t, w2])); repeat' (first | refine awp_seq ?_ | refine awp_block ?_ | (refine awp_skip ?_; try simp) | (refine awp_exit ?_; try simp) | (refine awp_ret ?_; try simp) | (refine retP_same (by simp) ?_; simp) | (refine retP_no (by simp) (by simp [noIds]) (by repeat (first | assumption | exact Ext.refl _ | refine ext_new' ?_ | refine Ext.setF ?_ (by first | assumption | (simp [new_nx', St.set, fresh_none]; done) | exact ext_fresh (by assumption)))) ?_; simp [-cellOK, a3, a4, a5, a6, a11, a13, a14, a15, hX5, k5, m6, hlt, hx, hd, hjl, hy, hr', rgsAV, intsAV, iAV, rg_cells, nw_cells, nw_fold, qy_cells, qy_fold, tk_cells, tk_fold, tk_put, tk_putO, tk_putL, new_m, set_m, new_nx', n6s, n6t, w2, new_m, set_m, new_nx']) | ((first | refine awp_reg ?_ | refine awp_drawT (fun _ => false) mixed (by decide +kernel) ?_ | refine awp_drawT isCallO mixed (by decide +kernel) ?_ | refine PCalls.use (h1) ?_ | refine Or.inl ⟨_, Or.inl (h1), ?_⟩ | refine PCalls.use (h2) ?_ | refine Or.inl ⟨_, Or.inl (h2), ?_⟩ | refine PCalls.use (hb) ?_ | refine Or.inl ⟨_, Or.inl (hb), ?_⟩); simp [-cellOK, a3, a4, a5, a6, a11, a13, a14, a15, hX5, k5, m6, hlt, hx, hd, hjl, hy, hr', rgsAV, intsAV, iAV, rg_cells, nw_cells, nw_fold, qy_cells, qy_fold, tk_cells, tk_fold, tk_put, tk_putO, tk_putL, new_m, set_m, new_nx', n6s, n6t, w2]) | (refine guarded_split ?_ ?_ <;> (intro hg; simp only [hg]; simp [-cellOK, a3, a4, a5, a6, a11, a13, a14, a15, hX5, k5, m6, hlt, hx, hd, hjl, hy, hr', rgsAV, intsAV, iAV, rg_cells, nw_cells, nw_fold, qy_cells, qy_fold, tk_cells, tk_fold, tk_put, tk_putO, tk_putL, new_m, set_m, new_nx', n6s, n6t, w2])) | (apply awp_cond_t; focus (simp [-cellOK, a3, a4, a5, a6, a11, a13, a14, a15, hX5, k5, m6, hlt, hx, hd, hjl, hy, hr', rgsAV, intsAV, iAV, rg_cells, nw_cells, nw_fold, qy_cells, qy_fold, tk_cells, tk_fold, tk_put, tk_putO, tk_putL, new_m, set_m, new_nx', n6s, n6t, w2]; done)) | (apply awp_cond_f; focus (simp [-cellOK, a3, a4, a5, a6, a11, a13, a14, a15, hX5, k5, m6, hlt, hx, hd, hjl, hy, hr', rgsAV, intsAV, iAV, rg_cells, nw_cells, nw_fold, qy_cells, qy_fold, tk_cells, tk_fold, tk_put, tk_putO, tk_putL, new_m, set_m, new_nx', n6s, n6t, w2]; done)) | (refine awp_cond ?_; simp [-cellOK, a3, a4, a5, a6, a11, a13, a14, a15, hX5, k5, m6, hlt, hx, hd, hjl, hy, hr', rgsAV, intsAV, iAV, rg_cells, nw_cells, nw_fold, qy_cells, qy_fold, tk_cells, tk_fold, tk_put, tk_putO, tk_putL, new_m, set_m, new_nx', n6s, n6t, w2]; refine ⟨?_, ?_⟩ <;> intro hc) | fail)
          refine hJ1 (P.length - (j + 1)) _ _ (by omega) ⟨(by repeat (first | assumption | exact Ext.refl _ | refine ext_new' ?_ | refine Ext.setF ?_ (by first | assumption | (simp [new_nx', St.set, fresh_none]; done) | exact ext_fresh (by assumption)))), by simp [a3], by simp [a4], by simp [a5], by simp [a6], ?_, by simp [a11, rgsAV], by simp [a13, intsAV, iAV], by simp [a14], j + 1, by simp, by omega, rfl, hS⟩
          simp [new_m, set_m, new_nx', n6s, m6]
      · have : j = P.length := by omega
        subst this
        rw [List.drop_length] at hS
        rw [← hS] at hR
        simp only [seek] at hR
        (try ((first | with_reducible refine dops_go ?_ | with_reducible refine OKv_go ?_ | with_reducible refine OKr_go ?_); simp [-cellOK, a3, a4, a5, a6, a11, a13, a14, a15, rgsAV, w1])); repeat' (first | refine awp_seq ?_ | refine awp_block ?_ | (refine awp_skip ?_; try simp) | (refine awp_exit ?_; try simp) | (refine awp_ret ?_; try simp) | (refine retP_same (by simp) ?_; simp) | (refine retP_no (by simp) (by simp [noIds]) (by repeat (first | assumption | exact Ext.refl _ | refine ext_new' ?_ | refine Ext.setF ?_ (by first | assumption | (simp [new_nx', St.set, fresh_none]; done) | exact ext_fresh (by assumption)))) ?_; simp [-cellOK, a3, a4, a5, a6, a11, a13, a14, a15, rgsAV, w1, new_m, set_m, new_nx']) | ((first | refine awp_reg ?_ | refine awp_drawT (fun _ => false) mixed (by decide +kernel) ?_ | refine awp_drawT isCallO mixed (by decide +kernel) ?_); simp [-cellOK, a3, a4, a5, a6, a11, a13, a14, a15, rgsAV, w1]) | (refine guarded_split ?_ ?_ <;> (intro hg; simp only [hg]; simp [-cellOK, a3, a4, a5, a6, a11, a13, a14, a15, rgsAV, w1])) | (apply awp_cond_t; focus (simp [-cellOK, a3, a4, a5, a6, a11, a13, a14, a15, rgsAV, w1]; done)) | (apply awp_cond_f; focus (simp [-cellOK, a3, a4, a5, a6, a11, a13, a14, a15, rgsAV, w1]; done)) | (refine awp_cond ?_; simp [-cellOK, a3, a4, a5, a6, a11, a13, a14, a15, rgsAV, w1]; refine ⟨?_, ?_⟩ <;> intro hc) | fail)
        exact hI1 (Sq.length - (i + 1)) _ _ (by omega) ⟨hE, by simp [a3], by simp [a4], by simp [a5], by simp [a6], m6, by simp [a11, rgsAV], by simp [a13], i + 1, by simp, by omega, rfl, hR⟩
    · have : i = Sq.length := by omega
      subst this
      rw [List.drop_length] at hR
      simp only [seeks] at hR
      subst hR
      (try ((first | with_reducible refine dops_go ?_ | with_reducible refine OKv_go ?_ | with_reducible refine OKr_go ?_); simp [-cellOK, a3, a4, a5, a6, a11, a13, a14, m6, intsAV, vd0_cells, vd0_put])); repeat' (first | refine awp_seq ?_ | refine awp_block ?_ | (refine awp_skip ?_; try simp) | (refine awp_exit ?_; try simp) | (refine awp_ret ?_; try simp) | ((first | refine awp_reg ?_ | refine awp_drawT (fun _ => false) mixed (by decide +kernel) ?_ | refine awp_drawT isCallO mixed (by decide +kernel) ?_); simp [-cellOK, a3, a4, a5, a6, a11, a13, a14, m6, intsAV, vd0_cells, vd0_put]) | (refine guarded_split ?_ ?_ <;> (intro hg; simp only [hg]; simp [-cellOK, a3, a4, a5, a6, a11, a13, a14, m6, intsAV, vd0_cells, vd0_put])) | (apply awp_cond_t; focus (simp [-cellOK, a3, a4, a5, a6, a11, a13, a14, m6, intsAV, vd0_cells, vd0_put]; done)) | (apply awp_cond_f; focus (simp [-cellOK, a3, a4, a5, a6, a11, a13, a14, m6, intsAV, vd0_cells, vd0_put]; done)) | (refine awp_cond ?_; simp [-cellOK, a3, a4, a5, a6, a11, a13, a14, m6, intsAV, vd0_cells, vd0_put]; refine ⟨?_, ?_⟩ <;> intro hc) | fail)
      refine retP_weak (x := .tup [.agg [.raw (.bool true), .raw (.int .i64 0), .raw (.int .u32 0), .sl 0 [] true, .raw (.int .i64 0), .raw (.int .i64 0), .raw (.int .i64 0)], .raw (.int .i64 0)]) (.inr rfl) (Ext.setF hE f6) ?_ ?_
      · simp [set_m, m6, a6]
      · simpa [giveUps, giveUp] using weaker_vd true 0
end Go.Proofs.YtanimmdlgmkmkaaGreat.Av


/- Queries: the law QueryTells walked. -/
namespace Go.Proofs.YtanimmdlgmkmkaaGreat.Av
open Go
set_option linter.unusedSimpArgs false
set_option linter.unusedVariables false
set_option maxRecDepth 100000
set_option maxHeartbeats 4000000
set_option pp.maxSteps 600

theorem fits12_right2 {n m : Nw} {q : Qy} (h : fits12 n m q = true) : rightN n = true ∧ rightN m = true := by
  unfold fits12 fits09 at h
  simp only [Bool.and_eq_true] at h
  exact ⟨h.1.2.2.2, h.2.1.2.2.2⟩
theorem run_len2 (n m : Nw) (q : Qy) : (runQ n m q).1.tr.path.length ≤ 2 + 2 * n.t.links.length := by
  unfold runQ
  split
  · simp [noTk]
  · split
    · rename_i v h
      obtain ⟨d, _, p, _, rfl, _⟩ := seeks_some h
      exact traceR_len n d p.lo
    · simp [noTk]
theorem queryTells_calls (n m : Nw) (f g : Fl) (q : Qy) (hn : NwOK n) (hm : NwOK m) (hq : RgOK q.r) :
    PCalls Tryz.prog 3 [nw2AV n m f g, qyAV q] (.raw (.bool true)) := by
  have hal := alive12_calls
  have hfit := fits12_calls n m f g q hn.w hm.w
  refine pbody Tryz.func3 rfl (N := 98) rfl rfl (by simp) (by simp [noIds]) fun σ => ?_
  cases hf : fits12 n m q with
  | false =>
    rw [hf] at hfit
    (try ((first | with_reducible refine dops_go ?_ | with_reducible refine OKv_go ?_ | with_reducible refine OKr_go ?_); simp [-cellOK, nw2_cells, nw2_fold, nw_fold, qy_cells, qy_fold, new_m, set_m, new_nx'])); repeat' (first | refine awp_seq ?_ | refine awp_block ?_ | (refine awp_skip ?_; try simp) | (refine awp_exit ?_; try simp) | (refine awp_ret ?_; try simp) | (refine retP_same (by simp) ?_; simp) | (refine retP_no (by simp) (by simp [noIds]) (by repeat (first | assumption | exact Ext.refl _ | refine ext_new' ?_ | refine Ext.setF ?_ (by first | assumption | (simp [new_nx', St.set, fresh_none]; done) | exact ext_fresh (by assumption)))) ?_; simp [-cellOK, nw2_cells, nw2_fold, nw_fold, qy_cells, qy_fold, new_m, set_m, new_nx', new_m, set_m, new_nx']) | ((first | refine awp_reg ?_ | refine awp_drawT (fun _ => false) mixed (by decide +kernel) ?_ | refine awp_drawT isCallO mixed (by decide +kernel) ?_ | refine PCalls.use (hfit) ?_ | refine Or.inl ⟨_, Or.inl (hfit), ?_⟩ | refine PCalls.use (hal) ?_ | refine Or.inl ⟨_, Or.inl (hal), ?_⟩); simp [-cellOK, nw2_cells, nw2_fold, nw_fold, qy_cells, qy_fold, new_m, set_m, new_nx']) | (refine guarded_split ?_ ?_ <;> (intro hg; simp only [hg]; simp [-cellOK, nw2_cells, nw2_fold, nw_fold, qy_cells, qy_fold, new_m, set_m, new_nx'])) | (apply awp_cond_t; focus (simp [-cellOK, nw2_cells, nw2_fold, nw_fold, qy_cells, qy_fold, new_m, set_m, new_nx']; done)) | (apply awp_cond_f; focus (simp [-cellOK, nw2_cells, nw2_fold, nw_fold, qy_cells, qy_fold, new_m, set_m, new_nx']; done)) | (refine awp_cond ?_; simp [-cellOK, nw2_cells, nw2_fold, nw_fold, qy_cells, qy_fold, new_m, set_m, new_nx']; refine ⟨?_, ?_⟩ <;> intro hc) | fail)
  | true =>
  rw [hf] at hfit
  obtain ⟨rn, rm⟩ := fits12_right2 hf
  have r1 := rightQ_calls n f q
  have r2 := refRightQ_calls n f q
  have h1 := run_calls n m f g q hn hm hq
  have h2 := refRun_calls n m f g q hn hm rn rm hq
  have hvl := run_len2 n m q
  have hlk := hn.links
  have s1 := refVdSame_calls (runQ n m q).1 (runQ n m q).1 false false (by omega) (by omega)
  have s2 := vdSame_calls (runQ n m q).1 (runQ n m q).1 false false (by omega) (by omega)
  have so1 := sources_calls n f q hn.ports
  have so2 := refSources_calls n f q hn.ports
  have hSl : (sourcesQ n q).length < 2 ^ 45 := by
    have := hn.ports
    unfold sourcesQ
    split
    · simp
    · simp; omega
  simp only [decide_true] at s1 s2
  generalize (runQ n m q).1 = v at *
  generalize (runQ n m q).2 = e at *
  generalize sourcesQ n q = Sq at *
  cases hrq : rightQ n q with
  | false =>
    rw [hrq] at r1 r2
    (try ((first | with_reducible refine dops_go ?_ | with_reducible refine OKv_go ?_ | with_reducible refine OKr_go ?_); simp [-cellOK, nw2_cells, nw2_fold, nw_cells, nw_fold, qy_cells, qy_fold, vd_cells, vd_fold, vd0_fold, vd0_put, vd0_cells, tk_cells, tk_fold, new_m, set_m, new_nx'])); repeat' (first | refine awp_seq ?_ | refine awp_block ?_ | (refine awp_skip ?_; try simp) | (refine awp_exit ?_; try simp) | (refine awp_ret ?_; try simp) | (refine retP_same (by simp) ?_; simp) | (refine retP_no (by simp) (by simp [noIds]) (by repeat (first | assumption | exact Ext.refl _ | refine ext_new' ?_ | refine Ext.setF ?_ (by first | assumption | (simp [new_nx', St.set, fresh_none]; done) | exact ext_fresh (by assumption)))) ?_; simp [-cellOK, nw2_cells, nw2_fold, nw_cells, nw_fold, qy_cells, qy_fold, vd_cells, vd_fold, vd0_fold, vd0_put, vd0_cells, tk_cells, tk_fold, new_m, set_m, new_nx', new_m, set_m, new_nx']) | ((first | refine awp_reg ?_ | refine awp_drawT (fun _ => false) mixed (by decide +kernel) ?_ | refine awp_drawT isCallO mixed (by decide +kernel) ?_ | refine PCalls.use (hfit) ?_ | refine Or.inl ⟨_, Or.inl (hfit), ?_⟩ | refine PCalls.use (r1) ?_ | refine Or.inl ⟨_, Or.inl (r1), ?_⟩ | refine PCalls.use (r2) ?_ | refine Or.inl ⟨_, Or.inl (r2), ?_⟩ | refine PCalls.use (h1) ?_ | refine Or.inl ⟨_, Or.inl (h1), ?_⟩ | refine PCalls.use (h2) ?_ | refine Or.inl ⟨_, Or.inl (h2), ?_⟩ | refine PCalls.use (s1) ?_ | refine Or.inl ⟨_, Or.inl (s1), ?_⟩ | refine PCalls.use (s2) ?_ | refine Or.inl ⟨_, Or.inl (s2), ?_⟩ | refine PCalls.use (hal) ?_ | refine Or.inl ⟨_, Or.inl (hal), ?_⟩); simp [-cellOK, nw2_cells, nw2_fold, nw_cells, nw_fold, qy_cells, qy_fold, vd_cells, vd_fold, vd0_fold, vd0_put, vd0_cells, tk_cells, tk_fold, new_m, set_m, new_nx']) | (refine guarded_split ?_ ?_ <;> (intro hg; simp only [hg]; simp [-cellOK, nw2_cells, nw2_fold, nw_cells, nw_fold, qy_cells, qy_fold, vd_cells, vd_fold, vd0_fold, vd0_put, vd0_cells, tk_cells, tk_fold, new_m, set_m, new_nx'])) | (apply awp_cond_t; focus (simp [-cellOK, nw2_cells, nw2_fold, nw_cells, nw_fold, qy_cells, qy_fold, vd_cells, vd_fold, vd0_fold, vd0_put, vd0_cells, tk_cells, tk_fold, new_m, set_m, new_nx']; done)) | (apply awp_cond_f; focus (simp [-cellOK, nw2_cells, nw2_fold, nw_cells, nw_fold, qy_cells, qy_fold, vd_cells, vd_fold, vd0_fold, vd0_put, vd0_cells, tk_cells, tk_fold, new_m, set_m, new_nx']; done)) | (refine awp_cond ?_; simp [-cellOK, nw2_cells, nw2_fold, nw_cells, nw_fold, qy_cells, qy_fold, vd_cells, vd_fold, vd0_fold, vd0_put, vd0_cells, tk_cells, tk_fold, new_m, set_m, new_nx']; refine ⟨?_, ?_⟩ <;> intro hc) | fail)
  | true =>
    rw [hrq] at r1 r2
    (try ((first | with_reducible refine dops_go ?_ | with_reducible refine OKv_go ?_ | with_reducible refine OKr_go ?_); simp [-cellOK, nw2_cells, nw2_fold, nw_cells, nw_fold, qy_cells, qy_fold, vd_cells, vd_fold, vd0_fold, vd0_put, vd0_cells, tk_cells, tk_fold, intsAV, new_m, set_m, new_nx'])); repeat' (first | refine awp_seq ?_ | refine awp_block ?_ | (refine awp_skip ?_; try simp) | (refine awp_exit ?_; try simp) | (refine awp_ret ?_; try simp) | (refine retP_same (by simp) ?_; simp) | (refine retP_no (by simp) (by simp [noIds]) (by repeat (first | assumption | exact Ext.refl _ | refine ext_new' ?_ | refine Ext.setF ?_ (by first | assumption | (simp [new_nx', St.set, fresh_none]; done) | exact ext_fresh (by assumption)))) ?_; simp [-cellOK, nw2_cells, nw2_fold, nw_cells, nw_fold, qy_cells, qy_fold, vd_cells, vd_fold, vd0_fold, vd0_put, vd0_cells, tk_cells, tk_fold, intsAV, new_m, set_m, new_nx', new_m, set_m, new_nx']) | ((first | refine awp_reg ?_ | refine awp_drawT (fun _ => false) mixed (by decide +kernel) ?_ | refine awp_drawT isCallO mixed (by decide +kernel) ?_ | refine PCalls.use (hfit) ?_ | refine Or.inl ⟨_, Or.inl (hfit), ?_⟩ | refine PCalls.use (r1) ?_ | refine Or.inl ⟨_, Or.inl (r1), ?_⟩ | refine PCalls.use (r2) ?_ | refine Or.inl ⟨_, Or.inl (r2), ?_⟩ | refine PCalls.use (h1) ?_ | refine Or.inl ⟨_, Or.inl (h1), ?_⟩ | refine PCalls.use (h2) ?_ | refine Or.inl ⟨_, Or.inl (h2), ?_⟩ | refine PCalls.use (s1) ?_ | refine Or.inl ⟨_, Or.inl (s1), ?_⟩ | refine PCalls.use (s2) ?_ | refine Or.inl ⟨_, Or.inl (s2), ?_⟩ | refine PCalls.use (so1) ?_ | refine Or.inl ⟨_, Or.inl (so1), ?_⟩ | refine PCalls.use (so2) ?_ | refine Or.inl ⟨_, Or.inl (so2), ?_⟩ | refine PCalls.use (hal) ?_ | refine Or.inl ⟨_, Or.inl (hal), ?_⟩); simp [-cellOK, nw2_cells, nw2_fold, nw_cells, nw_fold, qy_cells, qy_fold, vd_cells, vd_fold, vd0_fold, vd0_put, vd0_cells, tk_cells, tk_fold, intsAV, new_m, set_m, new_nx']) | (refine guarded_split ?_ ?_ <;> (intro hg; simp only [hg]; simp [-cellOK, nw2_cells, nw2_fold, nw_cells, nw_fold, qy_cells, qy_fold, vd_cells, vd_fold, vd0_fold, vd0_put, vd0_cells, tk_cells, tk_fold, intsAV, new_m, set_m, new_nx'])) | (apply awp_cond_t; focus (simp [-cellOK, nw2_cells, nw2_fold, nw_cells, nw_fold, qy_cells, qy_fold, vd_cells, vd_fold, vd0_fold, vd0_put, vd0_cells, tk_cells, tk_fold, intsAV, new_m, set_m, new_nx']; done)) | (apply awp_cond_f; focus (simp [-cellOK, nw2_cells, nw2_fold, nw_cells, nw_fold, qy_cells, qy_fold, vd_cells, vd_fold, vd0_fold, vd0_put, vd0_cells, tk_cells, tk_fold, intsAV, new_m, set_m, new_nx']; done)) | (refine awp_cond ?_; simp [-cellOK, nw2_cells, nw2_fold, nw_cells, nw_fold, qy_cells, qy_fold, vd_cells, vd_fold, vd0_fold, vd0_put, vd0_cells, tk_cells, tk_fold, intsAV, new_m, set_m, new_nx']; refine ⟨?_, ?_⟩ <;> intro hc) | fail)
    generalize hST : St.set _ _ _ = ST
    have hE : Ext σ ST := by rw [← hST]; exact (by repeat (first | assumption | exact Ext.refl _ | refine ext_new' ?_ | refine Ext.setF ?_ (by first | assumption | (simp [new_nx', St.set, fresh_none]; done) | exact ext_fresh (by assumption))))
    clear hST
    generalize hA0 : put 98 _ _ _ = A
    have a12 : A 12 = intsAV Sq false := by rw [← hA0]; simp [intsAV]
    have a13 : A 13 = intsAV Sq false := by rw [← hA0]; simp [intsAV]
    have a14 : A 14 = .raw (.int .i64 0) := by rw [← hA0]; simp
    clear hA0
    refine awp_loopH (fun n' B ρ => ρ = ST ∧ B 12 = intsAV Sq false ∧ B 13 = intsAV Sq false ∧ ∃ i : Nat, B 14 = .raw (.int .i64 i) ∧ i ≤ Sq.length ∧ n' = Sq.length - i) Sq.length ?_ ?_
    · exact ⟨rfl, a12, a13, 0, a14, by omega, by omega⟩
    clear a12 a13 a14
    rintro n' B ρ ⟨rfl, a12, a13, i, a14, hi, rfl⟩ I1 hI1
    by_cases hlt : i < Sq.length
    · have hx : Sq[i]? = some Sq[i] := List.getElem?_eq_getElem hlt
      have w1 : IntKind.i64.wrap ((i : Int) + 1) = ((i + 1 : Nat) : Int) := by rw [wrap64 (by omega) (by omega)]; omega
      (try ((first | with_reducible refine dops_go ?_ | with_reducible refine OKv_go ?_ | with_reducible refine OKr_go ?_); simp [-cellOK, a12, a13, a14, hlt, hx, w1, intsAV, iAV])); repeat' (first | refine awp_seq ?_ | refine awp_block ?_ | (refine awp_skip ?_; try simp) | (refine awp_exit ?_; try simp) | (refine awp_ret ?_; try simp) | (refine retP_same (by simp) ?_; simp) | (refine retP_no (by simp) (by simp [noIds]) (by repeat (first | assumption | exact Ext.refl _ | refine ext_new' ?_ | refine Ext.setF ?_ (by first | assumption | (simp [new_nx', St.set, fresh_none]; done) | exact ext_fresh (by assumption)))) ?_; simp [-cellOK, a12, a13, a14, hlt, hx, w1, intsAV, iAV, new_m, set_m, new_nx']) | ((first | refine awp_reg ?_ | refine awp_drawT (fun _ => false) mixed (by decide +kernel) ?_ | refine awp_drawT isCallO mixed (by decide +kernel) ?_); simp [-cellOK, a12, a13, a14, hlt, hx, w1, intsAV, iAV]) | (refine guarded_split ?_ ?_ <;> (intro hg; simp only [hg]; simp [-cellOK, a12, a13, a14, hlt, hx, w1, intsAV, iAV])) | (apply awp_cond_t; focus (simp [-cellOK, a12, a13, a14, hlt, hx, w1, intsAV, iAV]; done)) | (apply awp_cond_f; focus (simp [-cellOK, a12, a13, a14, hlt, hx, w1, intsAV, iAV]; done)) | (refine awp_cond ?_; simp [-cellOK, a12, a13, a14, hlt, hx, w1, intsAV, iAV]; refine ⟨?_, ?_⟩ <;> intro hc) | fail)
      exact hI1 (Sq.length - (i + 1)) _ _ (by omega) ⟨rfl, by simp [a12, intsAV, iAV], by simp [a13, intsAV, iAV], i + 1, by simp, by omega, rfl⟩
    · (try ((first | with_reducible refine dops_go ?_ | with_reducible refine OKv_go ?_ | with_reducible refine OKr_go ?_); simp [-cellOK, a12, a13, a14, hlt, intsAV])); repeat' (first | refine awp_seq ?_ | refine awp_block ?_ | (refine awp_skip ?_; try simp) | (refine awp_exit ?_; try simp) | (refine awp_ret ?_; try simp) | (refine retP_same (by simp) ?_; simp) | (refine retP_no (by simp) (by simp [noIds]) (by repeat (first | assumption | exact Ext.refl _ | refine ext_new' ?_ | refine Ext.setF ?_ (by first | assumption | (simp [new_nx', St.set, fresh_none]; done) | exact ext_fresh (by assumption)))) ?_; simp [-cellOK, a12, a13, a14, hlt, intsAV, new_m, set_m, new_nx']) | ((first | refine awp_reg ?_ | refine awp_drawT (fun _ => false) mixed (by decide +kernel) ?_ | refine awp_drawT isCallO mixed (by decide +kernel) ?_ | refine PCalls.use (hal) ?_ | refine Or.inl ⟨_, Or.inl (hal), ?_⟩); simp [-cellOK, a12, a13, a14, hlt, intsAV]) | (refine guarded_split ?_ ?_ <;> (intro hg; simp only [hg]; simp [-cellOK, a12, a13, a14, hlt, intsAV])) | (apply awp_cond_t; focus (simp [-cellOK, a12, a13, a14, hlt, intsAV]; done)) | (apply awp_cond_f; focus (simp [-cellOK, a12, a13, a14, hlt, intsAV]; done)) | (refine awp_cond ?_; simp [-cellOK, a12, a13, a14, hlt, intsAV]; refine ⟨?_, ?_⟩ <;> intro hc) | fail)
end Go.Proofs.YtanimmdlgmkmkaaGreat.Av

