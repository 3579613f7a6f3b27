/- Labels: LabelBack Part 11 of 17: AvZ7, AvZ8, AvZ9, AvZA, AvZB, AvZC, AvZD, AvZE, AvZF, AvZG, AvZH, AvZI, AvZJ, AvZK, AvZL, AvZM, AvZN, AvZO, AvZP, AvZQ, AvZR, AvZS, AvL20, AvP4, AvL21, AvL22, AvL23. -/
import Derived.Test.YtanimmdlgmkmkaaGreatLb6
import Derived.Test.YtanimmdlgmkmkaaGreatLb7
import Derived.Test.YtanimmdlgmkmkaaGreatLb8
import Derived.Test.YtanimmdlgmkmkaaGreatLb9
import Derived.Sort.AssemblyPlain

/- Sorting, part 1: insertion sort of an owned list of ranges. -/
namespace Go.Proofs.YtanimmdlgmkmkaaGreat.Av.Zn
open Go
set_option linter.unusedSimpArgs false
set_option linter.unusedVariables false
set_option maxRecDepth 100000
set_option pp.maxSteps 300

instance : Inhabited Rg := ⟨⟨0, 0⟩⟩
def bufOf (d : Array Rg) : Ob := .buf (d.toList.map rgAV)
/-- What an order is told by. -/
structure Cmp (g : FuncId) (c : Rg → Rg → Int) : Prop where
  calls : ∀ x y, PCalls Tryz.prog g [rgAV x, rgAV y] (.raw (.int .i64 (c x y)))
def ltOf (c : Rg → Rg → Int) (x y : Rg) : Bool := decide (c x y < 0)

end Go.Proofs.YtanimmdlgmkmkaaGreat.Av.Zn


/- Sorting, part 2: heap sort. -/
namespace Go.Proofs.YtanimmdlgmkmkaaGreat.Av.Zn
open Go
set_option linter.unusedSimpArgs false
set_option linter.unusedVariables false
set_option maxRecDepth 100000
set_option pp.maxSteps 300

end Go.Proofs.YtanimmdlgmkmkaaGreat.Av.Zn


/- Sorting, part 3: heap sort, reversing. -/
namespace Go.Proofs.YtanimmdlgmkmkaaGreat.Av.Zn
open Go
set_option linter.unusedSimpArgs false
set_option linter.unusedVariables false
set_option maxRecDepth 100000
set_option pp.maxSteps 300

end Go.Proofs.YtanimmdlgmkmkaaGreat.Av.Zn


/- Sorting, part 4: reversing; partitions. -/
namespace Go.Proofs.YtanimmdlgmkmkaaGreat.Av.Zn
open Go
set_option linter.unusedSimpArgs false
set_option linter.unusedVariables false
set_option maxRecDepth 100000
set_option pp.maxSteps 300

end Go.Proofs.YtanimmdlgmkmkaaGreat.Av.Zn


/- Sorting, part 5: partition. -/
namespace Go.Proofs.YtanimmdlgmkmkaaGreat.Av.Zn
open Go
set_option linter.unusedSimpArgs false
set_option linter.unusedVariables false
set_option maxRecDepth 100000
set_option pp.maxSteps 150

def PR (o : Id) (d : Array Rg) (σ : St) (g : FuncId) (a : Nat) (e : Array Rg) (i j : Nat) (A : Env) (τ : St) : Prop :=
  τ.m o = some (bufOf e) ∧ τ.set o (bufOf d) = σ ∧ A 0 = .rs o 0 d.size ∧ A 1 = .raw (.int .i64 a) ∧ A 4 = .fn (.func g) [] [] ∧ A 12 = .raw (.int .i64 i) ∧ A 13 = .raw (.int .i64 j)
end Go.Proofs.YtanimmdlgmkmkaaGreat.Av.Zn


/- Sorting, part 6: partition of equal ones. -/
namespace Go.Proofs.YtanimmdlgmkmkaaGreat.Av.Zn
open Go
set_option linter.unusedSimpArgs false
set_option linter.unusedVariables false
set_option maxRecDepth 100000
set_option pp.maxSteps 150

def PQ (o : Id) (d : Array Rg) (σ : St) (g : FuncId) (a : Nat) (e : Array Rg) (i j : Nat) (A : Env) (τ : St) : Prop :=
  τ.m o = some (bufOf e) ∧ τ.set o (bufOf d) = σ ∧ A 0 = .rs o 0 d.size ∧ A 1 = .raw (.int .i64 a) ∧ A 4 = .fn (.func g) [] [] ∧ A 11 = .raw (.int .i64 i) ∧ A 12 = .raw (.int .i64 j)
end Go.Proofs.YtanimmdlgmkmkaaGreat.Av.Zn


/- Sorting, part 7: the partial insertion sort. -/
namespace Go.Proofs.YtanimmdlgmkmkaaGreat.Av.Zn
open Go
set_option linter.unusedSimpArgs false
set_option linter.unusedVariables false
set_option maxRecDepth 100000
set_option pp.maxSteps 150

def PI (o : Id) (d : Array Rg) (σ : St) (g : FuncId) (a b : Nat) (e : Array Rg) (i s : Nat) (A : Env) (τ : St) : Prop :=
  τ.m o = some (bufOf e) ∧ τ.set o (bufOf d) = σ ∧ A 0 = .rs o 0 d.size ∧ A 1 = .raw (.int .i64 a) ∧ A 2 = .raw (.int .i64 b) ∧ A 3 = .fn (.func g) [] [] ∧ A 9 = .raw (.int .i64 i) ∧ A 10 = .raw (.int .i64 ((5 : Int) - s))
def PJ (o : Id) (d : Array Rg) (σ : St) (g : FuncId) (a b : Nat) (e : Array Rg) (i : Nat) (x : Int) (A : Env) (τ : St) : Prop :=
  τ.m o = some (bufOf e) ∧ τ.set o (bufOf d) = σ ∧ A 0 = .rs o 0 d.size ∧ A 1 = .raw (.int .i64 a) ∧ A 2 = .raw (.int .i64 b) ∧ A 3 = .fn (.func g) [] [] ∧ A 9 = .raw (.int .i64 i) ∧ A 10 = .raw (.int .i64 x)
end Go.Proofs.YtanimmdlgmkmkaaGreat.Av.Zn


/- Sorting, part 8: the pivot. -/
namespace Go.Proofs.YtanimmdlgmkmkaaGreat.Av.Zn
open Go
set_option linter.unusedSimpArgs false
set_option linter.unusedVariables false
set_option maxRecDepth 100000
set_option pp.maxSteps 150

end Go.Proofs.YtanimmdlgmkmkaaGreat.Av.Zn


/- Sorting, part 9: choosing the pivot. -/
namespace Go.Proofs.YtanimmdlgmkmkaaGreat.Av.Zn
open Go
set_option linter.unusedSimpArgs false
set_option linter.unusedVariables false
set_option maxRecDepth 100000
set_option maxHeartbeats 4000000
set_option pp.maxSteps 150

def hintI : Sort.Hint → Int
  | .unknown => 0
  | .increasing => 1
  | .decreasing => 2
end Go.Proofs.YtanimmdlgmkmkaaGreat.Av.Zn


/- Sorting, part 10: bits.Len, the next power of two. -/
namespace Go.Proofs.YtanimmdlgmkmkaaGreat.Av.Zn
open Go
set_option linter.unusedSimpArgs false
set_option linter.unusedVariables false
set_option maxRecDepth 100000
set_option maxHeartbeats 4000000
set_option pp.maxSteps 150

def lenTab : ByteArray := ⟨#[0, 1, 2, 2, 3, 3, 3, 3, 4, 4, 4, 4, 4, 4, 4, 4, 5, 5, 5, 5, 5, 5, 5, 5, 5, 5, 5, 5, 5, 5, 5, 5, 6, 6, 6, 6, 6, 6, 6, 6, 6, 6, 6, 6, 6, 6, 6, 6, 6, 6, 6, 6, 6, 6, 6, 6, 6, 6, 6, 6, 6, 6, 6, 6, 7, 7, 7, 7, 7, 7, 7, 7, 7, 7, 7, 7, 7, 7, 7, 7, 7, 7, 7, 7, 7, 7, 7, 7, 7, 7, 7, 7, 7, 7, 7, 7, 7, 7, 7, 7, 7, 7, 7, 7, 7, 7, 7, 7, 7, 7, 7, 7, 7, 7, 7, 7, 7, 7, 7, 7, 7, 7, 7, 7, 7, 7, 7, 7, 8, 8, 8, 8, 8, 8, 8, 8, 8, 8, 8, 8, 8, 8, 8, 8, 8, 8, 8, 8, 8, 8, 8, 8, 8, 8, 8, 8, 8, 8, 8, 8, 8, 8, 8, 8, 8, 8, 8, 8, 8, 8, 8, 8, 8, 8, 8, 8, 8, 8, 8, 8, 8, 8, 8, 8, 8, 8, 8, 8, 8, 8, 8, 8, 8, 8, 8, 8, 8, 8, 8, 8, 8, 8, 8, 8, 8, 8, 8, 8, 8, 8, 8, 8, 8, 8, 8, 8, 8, 8, 8, 8, 8, 8, 8, 8, 8, 8, 8, 8, 8, 8, 8, 8, 8, 8, 8, 8, 8, 8, 8, 8, 8, 8, 8, 8, 8, 8, 8, 8, 8, 8, 8, 8, 8, 8, 8, 8]⟩
end Go.Proofs.YtanimmdlgmkmkaaGreat.Av.Zn


/- Sorting, part 11: breaking patterns. -/
namespace Go.Proofs.YtanimmdlgmkmkaaGreat.Av.Zn
open Go
set_option linter.unusedSimpArgs false
set_option linter.unusedVariables false
set_option maxRecDepth 100000
set_option maxHeartbeats 4000000
set_option pp.maxSteps 1500

end Go.Proofs.YtanimmdlgmkmkaaGreat.Av.Zn


/- Sorting, part 12: breaking patterns. -/
namespace Go.Proofs.YtanimmdlgmkmkaaGreat.Av.Zn
open Go
set_option linter.unusedSimpArgs false
set_option linter.unusedVariables false
set_option maxRecDepth 100000
set_option maxHeartbeats 4000000
set_option pp.maxSteps 1500

/-- After so many steps. -/
def brk (a l m i : Nat) (st : UInt64 × Array Rg) : Nat → UInt64 × Array Rg
  | 0 => st
  | k + 1 => Sort.breakStep a l m (brk a l m i st k) (i + k)

end Go.Proofs.YtanimmdlgmkmkaaGreat.Av.Zn


/- Sorting, part 13: pdqsort. -/
namespace Go.Proofs.YtanimmdlgmkmkaaGreat.Av.Zn
open Go
set_option linter.unusedSimpArgs false
set_option linter.unusedVariables false
set_option maxRecDepth 100000
set_option maxHeartbeats 8000000
set_option pp.maxSteps 600

/-- One object has turned into another; some names more are in use. -/
structure Fr (o : Id) (x : Ob) (σ τ : St) : Prop where
  m : τ.m = (σ.set o x).m
  nx : ∀ s, σ.nx s ≤ τ.nx s
theorem Fr.set (o : Id) (x : Ob) (σ : St) : Fr o x σ (σ.set o x) := ⟨rfl, fun _ => Nat.le_refl _⟩
theorem Fr.buf {o : Id} {x y : Ob} {σ τ : St} (h : Fr o x σ τ) (hy : σ.m o = some y) : τ.m o = some x := by rw [h.m, set_self, hy]; rfl
theorem Fr.trans {o : Id} {x y : Ob} {σ τ ρ : St} (h : Fr o x σ τ) (k : Fr o y τ ρ) : Fr o y σ ρ := by
  refine ⟨?_, fun s => Nat.le_trans (h.nx s) (k.nx s)⟩
  rw [k.m]
  funext i
  by_cases e : i = o
  · subst e
    rw [set_self, set_self, h.m, set_self]
    cases σ.m i <;> rfl
  · rw [set_other e, h.m, set_other e, set_other e]
def PdqPost (lt : Rg → Rg → Bool) (o : Id) (d : Array Rg) (a b : Nat) (σ : St) (r : AV) (τ : St) : Prop :=
  r = .tup [] ∧ ∃ d', Sort.PermIn a b d d' ∧ Sort.SortedIn lt a b d' ∧ Fr o (bufOf d') σ τ

def PdI (o : Id) (n a b lim : Nat) (g : FuncId) (wb wp : Bool) (A : Env) : Prop :=
  A 0 = .rs o 0 n ∧ A 1 = .raw (.int .i64 a) ∧ A 2 = .raw (.int .i64 b) ∧ A 3 = .raw (.int .i64 lim) ∧ A 4 = .fn (.func g) [] [] ∧ A 10 = .raw (.bool wb) ∧ A 11 = .raw (.bool wp)

/-- What holds of the array in the midst of a round that is at [a', b'). -/
structure Rd (lt : Rg → Rg → Bool) (o : Id) (d : Array Rg) (a b : Nat) (σ : St) (a' b' : Nat) (e : Array Rg) (τ : St) : Prop where
  fr : Fr o (bufOf e) σ τ
  size : e.size = d.size
  below : Sort.Below lt a' b' e
  glue : ∀ R, Sort.PermIn a' b' e R → Sort.SortedIn lt a' b' R → Sort.PermIn a b d R ∧ Sort.SortedIn lt a b R
end Go.Proofs.YtanimmdlgmkmkaaGreat.Av.Zn


/- Iterators over a list; sorting what is collected. -/
namespace Go.Proofs.YtanimmdlgmkmkaaGreat.Av.Zn
open Go
set_option linter.unusedSimpArgs false
set_option linter.unusedVariables false
set_option maxRecDepth 100000
set_option maxHeartbeats 4000000
set_option pp.maxSteps 300

/-- **slices.Collect**: what is yielded, or nothing. -/
def Coll (i : Id) (z : List Rg) (σ : St) (r : AV) (τ : St) : Prop := But i σ τ ∧ ((z = [] ∧ r = .sl 0 [] true) ∨ (z ≠ [] ∧ ∃ j, r = .rs j 0 z.length ∧ j.sz = 2 ∧ τ.m j = some (.buf (z.map rgAV)) ∧ σ.m j = none))
/-- In the order c says, or any of those that are alike. -/
def SortedBy (c : Rg → Rg → Int) (z : List Rg) : Prop := z.Pairwise fun x y => ¬ c y x < 0
end Go.Proofs.YtanimmdlgmkmkaaGreat.Av.Zn


/- Searching by a function; merging; the zone of ranges. -/
namespace Go.Proofs.YtanimmdlgmkmkaaGreat.Av.Zn
open Go
set_option linter.unusedSimpArgs false
set_option linter.unusedVariables false
set_option maxRecDepth 100000
set_option maxHeartbeats 4000000
set_option pp.maxSteps 300

/-- The first that is asked for; -1: there is none. -/
def idxOf (p : Rg → Bool) (z : List Rg) : Int := if z.any p then (z.findIdx p : Nat) else -1
end Go.Proofs.YtanimmdlgmkmkaaGreat.Av.Zn


/- Zones: what is merged, as an iterator; zone.Of. -/
namespace Go.Proofs.YtanimmdlgmkmkaaGreat.Av.Zn
open Go
set_option linter.unusedSimpArgs false
set_option linter.unusedVariables false
set_option maxRecDepth 100000
set_option maxHeartbeats 4000000
set_option pp.maxSteps 300

end Go.Proofs.YtanimmdlgmkmkaaGreat.Av.Zn


/- Zones: zone.Of. -/
namespace Go.Proofs.YtanimmdlgmkmkaaGreat.Av.Zn
open Go
set_option linter.unusedSimpArgs false
set_option linter.unusedVariables false
set_option maxRecDepth 100000
set_option maxHeartbeats 4000000
set_option pp.maxSteps 300

end Go.Proofs.YtanimmdlgmkmkaaGreat.Av.Zn


/- Zones: And, not, Minus, All. -/
namespace Go.Proofs.YtanimmdlgmkmkaaGreat.Av.Zn
open Go
set_option linter.unusedSimpArgs false
set_option linter.unusedVariables false
set_option maxRecDepth 100000
set_option maxHeartbeats 4000000
set_option pp.maxSteps 300

end Go.Proofs.YtanimmdlgmkmkaaGreat.Av.Zn


/- Zones: Minus, All, Grow, Concat, Or. -/
namespace Go.Proofs.YtanimmdlgmkmkaaGreat.Av.Zn
open Go
set_option linter.unusedSimpArgs false
set_option linter.unusedVariables false
set_option maxRecDepth 100000
set_option maxHeartbeats 4000000
set_option pp.maxSteps 300

def allZ : List Rg := [⟨0, 4294967295⟩]
/-- One list behind the other. -/
def catZ : List (List Rg × Bool) → List Rg
  | [] => []
  | p :: l => p.1 ++ catZ l
def pAV (p : List Rg × Bool) : AV := zAV p.1 p.2
theorem noIds_list {n : Nat} {l : List AV} {f : Bool} (h : ∀ a ∈ l, noIds a) : noIds (.sl n l f) := by
  simp only [noIds, AV.ids]
  induction l with
  | nil => simp [idsL]
  | cons a l ih => simp only [idsL]; exact ⟨h a (by simp), ih fun b hb => h b (by simp [hb])⟩
end Go.Proofs.YtanimmdlgmkmkaaGreat.Av.Zn


/- The document's zones: cuts, ends, joining. -/
namespace Go.Proofs.YtanimmdlgmkmkaaGreat.Av.Zn
open Go
set_option linter.unusedSimpArgs false
set_option linter.unusedVariables false
set_option maxRecDepth 100000
set_option maxHeartbeats 4000000
set_option pp.maxSteps 300

/-- Whole numbers, as a list. -/
def iAV (n : Int) : AV := .raw (.int .i64 n)
def inAV (l : List Int) (b : Bool) : AV := .sl 1 (l.map iAV) b
theorem noIds_inAV (z : List Int) (b : Bool) : noIds (inAV z b) := noIds_list fun a ha => by
  obtain ⟨x, _, rfl⟩ := List.mem_map.1 ha
  simp [noIds, iAV]

def cutsAll (l : List Rg) : List Int := 0 :: l.flatMap fun r => [r.lo, r.hi + 1]
def nextCut (all : List Int) (last : Int) : Int := all.foldl (fun next a => if last < a ∧ a < next then a else next) 4294967296
def cutsFrom (all : List Int) : Nat → Int → List Int
  | 0, _ => []
  | n + 1, last => if nextCut all last ≤ 4294967295 then nextCut all last :: cutsFrom all n (nextCut all last) else []
theorem cutsAll_take {l : List Rg} {i : Nat} {r : Rg} (h : l[i]? = some r) : cutsAll (l.take (i + 1)) = cutsAll (l.take i) ++ [r.lo, r.hi + 1] := by
  unfold cutsAll
  rw [List.take_add_one, h]; simp
theorem cutsAll_len (l : List Rg) : (cutsAll l).length = 1 + 2 * l.length := by
  unfold cutsAll
  induction l with
  | nil => rfl
  | cons r l ih => simp at ih ⊢; omega
/-- How many are still to come. -/
def above (all : List Int) (last : Int) : Nat := (all.filter fun a => decide (last < a) && decide (a < 4294967296)).length
theorem nextCut_spec (all : List Int) (last : Int) : ∀ (l : List Int) (x : Int), (∀ a ∈ l, a ∈ all) → (x = 4294967296 ∨ (x ∈ all ∧ last < x ∧ x < 4294967296)) → x ≤ 4294967296 →
    let y := l.foldl (fun next a => if last < a ∧ a < next then a else next) x
    (y = 4294967296 ∨ (y ∈ all ∧ last < y ∧ y < 4294967296)) ∧ y ≤ x ∧ ∀ a ∈ l, last < a → y ≤ a
  | [], x, _, h, hx => ⟨h, Int.le_refl _, fun a h => by cases h⟩
  | b :: l, x, hl, h, hx => by
    simp only [List.foldl_cons]
    by_cases hb : last < b ∧ b < x
    · rw [if_pos hb]
      obtain ⟨h1, h2, h3⟩ := nextCut_spec all last l b (fun a ha => hl a (by simp [ha])) (.inr ⟨hl b (by simp), hb.1, by omega⟩) (by omega)
      refine ⟨h1, by omega, fun a ha h => ?_⟩
      rcases List.mem_cons.1 ha with rfl | ha
      · exact h2
      · exact h3 a ha h
    · rw [if_neg hb]
      obtain ⟨h1, h2, h3⟩ := nextCut_spec all last l x (fun a ha => hl a (by simp [ha])) h hx
      refine ⟨h1, h2, fun a ha h => ?_⟩
      rcases List.mem_cons.1 ha with rfl | ha
      · omega
      · exact h3 a ha h
theorem nextCut_is (all : List Int) (last : Int) : (nextCut all last = 4294967296 ∨ (nextCut all last ∈ all ∧ last < nextCut all last ∧ nextCut all last < 4294967296)) ∧ nextCut all last ≤ 4294967296 ∧ ∀ a ∈ all, last < a → nextCut all last ≤ a :=
  nextCut_spec all last all 4294967296 (fun _ h => h) (.inl rfl) (Int.le_refl _)
theorem above_lt {all : List Int} {last : Int} (h : nextCut all last ≤ 4294967295) : above all (nextCut all last) < above all last := by
  obtain ⟨h1, h2, h3⟩ := nextCut_is all last
  have h1 := h1.resolve_left (by omega)
  unfold above
  generalize nextCut all last = x at *
  have hsub : ∀ l : List Int, (l.filter fun a => decide (x < a) && decide (a < 4294967296)).length ≤ (l.filter fun a => decide (last < a) && decide (a < 4294967296)).length := by
    intro l
    induction l with
    | nil => simp
    | cons a l ih =>
      simp only [List.filter_cons]
      by_cases ha : x < a ∧ a < 4294967296
      · have : last < a := by omega
        simp [ha.1, ha.2, this, ih]
      · have hn : (decide (x < a) && decide (a < 4294967296)) = false := by
          simp only [Bool.and_eq_false_iff, decide_eq_false_iff_not]; omega
        rw [hn]
        simp only [Bool.false_eq_true, if_false]
        split
        · simp; omega
        · exact ih
  obtain ⟨s, t, rfl⟩ := List.append_of_mem h1.1
  rw [List.filter_append, List.filter_append, List.length_append, List.length_append]
  have e1 := hsub s
  have e2 := hsub t
  simp only [List.filter_cons]
  have hn : (decide (x < x) && decide (x < 4294967296)) = false := by simp
  have hy : (decide (last < x) && decide (x < 4294967296)) = true := by simp [h1.2.1, h1.2.2]
  rw [hn, hy]
  simp
  omega
theorem cutsFrom_fuel (all : List Int) : ∀ (n m : Nat) (last : Int), above all last ≤ n → above all last ≤ m → cutsFrom all n last = cutsFrom all m last
  | 0, 0, _, _, _ => rfl
  | 0, m + 1, last, h, _ => by
    unfold cutsFrom
    split
    · rename_i hc; have := above_lt hc; omega
    · rfl
  | n + 1, 0, last, _, h => by
    unfold cutsFrom
    split
    · rename_i hc; have := above_lt hc; omega
    · rfl
  | n + 1, m + 1, last, h1, h2 => by
    unfold cutsFrom
    split
    · rename_i hc
      have := above_lt hc
      rw [cutsFrom_fuel all n m _ (by omega) (by omega)]
    · rfl
def cutsOf (l : List Rg) : List Int := cutsFrom (cutsAll l) (above (cutsAll l) (-1)) (-1)
theorem above_le (all : List Int) (last : Int) : above all last ≤ all.length := List.length_filter_le _ _
theorem cutsFrom_len (all : List Int) : ∀ (n : Nat) (last : Int), (cutsFrom all n last).length ≤ n
  | 0, _ => by simp [cutsFrom]
  | n + 1, last => by
    unfold cutsFrom
    split
    · have := cutsFrom_len all n (nextCut all last); simp; omega
    · simp
theorem nextCut_take {all : List Int} {last : Int} {i : Nat} {a : Int} (h : all[i]? = some a) : nextCut (all.take (i + 1)) last = if last < a ∧ a < nextCut (all.take i) last then a else nextCut (all.take i) last := by
  unfold nextCut
  rw [List.take_add_one, h, List.foldl_append]
  rfl
end Go.Proofs.YtanimmdlgmkmkaaGreat.Av.Zn


/- The document's zones: the walks of Cuts, End, Join. -/
namespace Go.Proofs.YtanimmdlgmkmkaaGreat.Av.Zn
open Go
set_option linter.unusedSimpArgs false
set_option linter.unusedVariables false
set_option maxRecDepth 100000
set_option maxHeartbeats 4000000
set_option pp.maxSteps 300

theorem cutsFrom_step {all : List Int} {last : Int} (h : nextCut all last ≤ 4294967295) : cutsFrom all (above all last) last = nextCut all last :: cutsFrom all (above all (nextCut all last)) (nextCut all last) := by
  have hlt := above_lt h
  obtain ⟨n, hn⟩ : ∃ n, above all last = n + 1 := ⟨above all last - 1, by omega⟩
  rw [hn, cutsFrom, if_pos h, cutsFrom_fuel all n (above all (nextCut all last)) _ (by omega) (Nat.le_refl _)]
theorem cutsFrom_stop {all : List Int} {last : Int} (h : ¬ nextCut all last ≤ 4294967295) : cutsFrom all (above all last) last = [] := by
  cases above all last with
  | zero => rfl
  | succ n => rw [cutsFrom, if_neg h]

theorem cuts_calls (l : List Rg) (f : Bool) (hz : InZ l) (hl : l.length < 2 ^ 30) : PCalls Tryz.prog 113 [zAV l f] (inAV (cutsOf l) false) := by
  refine pbody Tryz.func113 rfl (N := 67) rfl rfl (by simp) (noIds_inAV _ _) fun σ => ?_
  (try (first | (with_reducible refine dops_go ?_; simp) | (with_reducible refine OKv_go ?_; simp) | (with_reducible refine OKr_go ?_; simp))); repeat' (first | refine awp_seq ?_ | refine awp_block ?_ | (refine awp_skip ?_; try simp) | (refine awp_exit ?_; try simp) | (refine awp_ret ?_; try simp) | (refine retP_same (by simp) ?_; simp) | (refine retP_flat (by simp) (by simp) (by simp (maxDischargeDepth := 30)) ?_; simp) | (refine awp_reg ?_; simp) | (refine awp_drawT (fun _ => false) mixed (by decide +kernel) ?_; simp) | (refine guarded_split ?_ ?_ <;> (intro hg; simp only [hg]; simp)) | (apply awp_cond_t; focus (simp; done)) | (apply awp_cond_f; focus (simp; done)) | (refine awp_cond ?_; simp; refine ⟨?_, ?_⟩ <;> intro hc))
  refine awp_block_cutH (fun A τ => OwnL σ τ 1 (A 3) ((cutsAll l).map iAV) ∧ Ext σ τ) ?_ ?_
  · intro R1 hR1
    refine awp_loopH (fun n A τ => ∃ (i : Nat) (v : AV), A 0 = zAV l f ∧ A 4 = .raw (.int .i64 i) ∧ A 3 = v ∧ OwnL σ τ 1 v ((cutsAll (l.take i)).map iAV) ∧ Ext σ τ ∧ i ≤ l.length ∧ n = l.length - i) l.length ?_ ?_
    · exact ⟨0, .rs ⟨10, σ.nx 10, 1⟩ 0 1, by simp, by simp, by simp, OwnL.of rfl (by simp [cutsAll, iAV]) (fresh_none _ _ _) (by simp [cutsAll]), Ext.new _ _ _ _, by omega, by omega⟩
    rintro n A τ ⟨i, v, a0, a4, a3, hO, hE, hi, rfl⟩ I1 hI1
    by_cases hlt : i < l.length
    · have hx : l[i]? = some l[i] := List.getElem?_eq_getElem hlt
      obtain ⟨x1, x2, x3, x4⟩ := hz l[i] (List.getElem_mem _)
      have ht := cutsAll_take hx
      have hlen := cutsAll_len (l.take i)
      rw [List.length_take, Nat.min_eq_left hi] at hlen
      have w1 : IntKind.i64.wrap ((i : Int) + 1) = ((i + 1 : Nat) : Int) := by rw [wrap64 (by omega) (by omega)]; omega
      have w2 : IntKind.i64.wrap l[i].lo = l[i].lo := wrap64 (by omega) (by omega)
      have w3 : IntKind.i64.wrap l[i].hi = l[i].hi := wrap64 (by omega) (by omega)
      have w4 : IntKind.i64.wrap (l[i].hi + 1) = l[i].hi + 1 := wrap64 (by omega) (by omega)
      (try (first | (with_reducible refine dops_go ?_; simp [-opAppend, a0, a4, a3, zAV, rgAV, hlt, hx, w2, w3, w4]) | (with_reducible refine OKv_go ?_; simp [-opAppend, a0, a4, a3, zAV, rgAV, hlt, hx, w2, w3, w4]) | (with_reducible refine OKr_go ?_; simp [-opAppend, a0, a4, a3, zAV, rgAV, hlt, hx, w2, w3, w4]))); repeat' (first | refine awp_seq ?_ | refine awp_block ?_ | (refine awp_skip ?_; try simp) | (refine awp_exit ?_; try simp) | (refine awp_ret ?_; try simp) | (refine retP_same (by simp) ?_; simp) | (refine retP_flat (by simp) (by simp) (by simp (maxDischargeDepth := 30) [-opAppend, a0, a4, a3, zAV, rgAV, hlt, hx, w2, w3, w4]) ?_; simp) | (refine awp_reg ?_; simp [-opAppend, a0, a4, a3, zAV, rgAV, hlt, hx, w2, w3, w4]) | (refine awp_drawT (fun _ => false) mixed (by decide +kernel) ?_; simp [-opAppend, a0, a4, a3, zAV, rgAV, hlt, hx, w2, w3, w4]) | (refine guarded_split ?_ ?_ <;> (intro hg; simp only [hg]; simp [-opAppend, a0, a4, a3, zAV, rgAV, hlt, hx, w2, w3, w4])) | (apply awp_cond_t; focus (simp [-opAppend, a0, a4, a3, zAV, rgAV, hlt, hx, w2, w3, w4]; done)) | (apply awp_cond_f; focus (simp [-opAppend, a0, a4, a3, zAV, rgAV, hlt, hx, w2, w3, w4]; done)))
      have hE31 := Ext.new τ 31 1 (.buf [.raw (.int .i64 l[i].lo), .raw (.int .i64 (l[i].hi + 1))])
      refine okr_append slt22 (hO.ext hE31) (hE.trans hE31) (ys := [iAV l[i].lo, iAV (l[i].hi + 1)]) (by simp [iAV]) (.inr rfl) (by simp [iAV]) (by simp; omega) ?_
      intro v' τ2 hO2 hE2 hkeep hnx
      have hO3 : OwnL σ τ2 1 v' ((cutsAll (l.take (i + 1))).map iAV) := by rw [ht]; simpa using hO2
      clear hkeep
      (try (first | (with_reducible refine dops_go ?_; simp [a0, a4, w1]) | (with_reducible refine OKv_go ?_; simp [a0, a4, w1]) | (with_reducible refine OKr_go ?_; simp [a0, a4, w1]))); repeat' (first | refine awp_seq ?_ | refine awp_block ?_ | (refine awp_skip ?_; try simp) | (refine awp_exit ?_; try simp) | (refine awp_ret ?_; try simp) | (refine retP_same (by simp) ?_; simp) | (refine retP_flat (by simp) (by simp) (by simp (maxDischargeDepth := 30) [a0, a4, w1]) ?_; simp) | (refine awp_reg ?_; simp [a0, a4, w1]) | (refine awp_drawT (fun _ => false) mixed (by decide +kernel) ?_; simp [a0, a4, w1]) | (refine guarded_split ?_ ?_ <;> (intro hg; simp only [hg]; simp [a0, a4, w1])) | (apply awp_cond_t; focus (simp [a0, a4, w1]; done)) | (apply awp_cond_f; focus (simp [a0, a4, w1]; done)) | (refine awp_cond ?_; simp [a0, a4, w1]; refine ⟨?_, ?_⟩ <;> intro hc))
      exact hI1 (l.length - (i + 1)) _ _ (by omega) ⟨i + 1, v', by simp [a0, zAV, rgAV], by simp, by simp, hO3, hE2, by omega, rfl⟩
    · have : i = l.length := by omega
      subst this
      rw [List.take_length] at hO
      (try (first | (with_reducible refine dops_go ?_; simp [a0, a4, zAV]) | (with_reducible refine OKv_go ?_; simp [a0, a4, zAV]) | (with_reducible refine OKr_go ?_; simp [a0, a4, zAV]))); repeat' (first | refine awp_seq ?_ | refine awp_block ?_ | (refine awp_skip ?_; try simp) | (refine awp_exit ?_; try simp) | (refine awp_ret ?_; try simp) | (refine retP_same (by simp) ?_; simp) | (refine retP_flat (by simp) (by simp) (by simp (maxDischargeDepth := 30) [a0, a4, zAV]) ?_; simp) | (refine awp_reg ?_; simp [a0, a4, zAV]) | (refine awp_drawT (fun _ => false) mixed (by decide +kernel) ?_; simp [a0, a4, zAV]) | (refine guarded_split ?_ ?_ <;> (intro hg; simp only [hg]; simp [a0, a4, zAV])) | (apply awp_cond_t; focus (simp [a0, a4, zAV]; done)) | (apply awp_cond_f; focus (simp [a0, a4, zAV]; done)) | (refine awp_cond ?_; simp [a0, a4, zAV]; refine ⟨?_, ?_⟩ <;> intro hc))
      exact hR1 _ _ ⟨by simp [a3]; exact hO, hE⟩
  · rintro A τ ⟨hO, hE⟩
    refine awp_settle 3 hO hE ?_
    rintro A τ hE a3 - - - - -
    have a3 : A 3 = inAV (cutsAll l) false := a3
    have hcut : cutsFrom (cutsAll l) (above (cutsAll l) (-1)) (-1) = cutsOf l := rfl
    have hcl : (cutsOf l).length ≤ 1 + 2 * l.length := Nat.le_trans (cutsFrom_len _ _ _) (by have := above_le (cutsAll l) (-1); rw [cutsAll_len] at this; exact this)
    have hall : (cutsAll l).length ≤ 2 ^ 32 := by rw [cutsAll_len]; omega
    generalize cutsOf l = C at *
    generalize cutsAll l = all at *
    clear hO
    have w0 : IntKind.i64.wrap (-1) = -1 := wrap64 (by omega) (by omega)
    (try (first | (with_reducible refine dops_go ?_; simp [a3, w0]) | (with_reducible refine OKv_go ?_; simp [a3, w0]) | (with_reducible refine OKr_go ?_; simp [a3, w0]))); repeat' (first | refine awp_seq ?_ | refine awp_block ?_ | (refine awp_skip ?_; try simp) | (refine awp_exit ?_; try simp) | (refine awp_ret ?_; try simp) | (refine retP_same (by simp) ?_; simp) | (refine retP_flat (by simp) (by simp) (by simp (maxDischargeDepth := 30) [a3, w0]) ?_; simp) | (refine awp_reg ?_; simp [a3, w0]) | (refine awp_drawT (fun _ => false) mixed (by decide +kernel) ?_; simp [a3, w0]) | (refine guarded_split ?_ ?_ <;> (intro hg; simp only [hg]; simp [a3, w0])) | (apply awp_cond_t; focus (simp [a3, w0]; done)) | (apply awp_cond_f; focus (simp [a3, w0]; done)) | (refine awp_cond ?_; simp [a3, w0]; refine ⟨?_, ?_⟩ <;> intro hc))
    refine awp_block_cutH (fun A τ => OwnL σ τ 1 (A 5) (C.map iAV) ∧ Ext σ τ) ?_ ?_
    · intro R1 hR1
      refine awp_loopH (fun n A τ => ∃ (last : Int) (v : AV) (out : List Int), A 3 = inAV all false ∧ A 5 = v ∧ A 6 = .raw (.int .i64 last) ∧ OwnL σ τ 1 v (out.map iAV) ∧ Ext σ τ ∧ out.length ≤ C.length ∧
        ((A 7 = .raw (.bool true) ∧ out ++ cutsFrom all (above all last) last = C ∧ n = above all last + 1) ∨ (A 7 = .raw (.bool false) ∧ out = C ∧ n = 0))) (above all (-1) + 1) ?_ ?_
      · exact ⟨-1, .sl 0 [] true, [], by simp [a3], by simp, by simp, OwnL.nil, hE, by simp, .inl ⟨by simp, hcut, rfl⟩⟩
      clear a3 hE
      rintro n A τ ⟨last, v, out, a3, a5, a6, hO, hE, hol, ⟨a7, hc, rfl⟩ | ⟨a7, rfl, rfl⟩⟩ I1 hI1
      · (try (first | (with_reducible refine dops_go ?_; simp [a3, a5, a6, a7]) | (with_reducible refine OKv_go ?_; simp [a3, a5, a6, a7]) | (with_reducible refine OKr_go ?_; simp [a3, a5, a6, a7]))); repeat' (first | refine awp_seq ?_ | refine awp_block ?_ | (refine awp_skip ?_; try simp) | (refine awp_exit ?_; try simp) | (refine awp_ret ?_; try simp) | (refine retP_same (by simp) ?_; simp) | (refine retP_flat (by simp) (by simp) (by simp (maxDischargeDepth := 30) [a3, a5, a6, a7]) ?_; simp) | (refine awp_reg ?_; simp [a3, a5, a6, a7]) | (refine awp_drawT (fun _ => false) mixed (by decide +kernel) ?_; simp [a3, a5, a6, a7]) | (refine guarded_split ?_ ?_ <;> (intro hg; simp only [hg]; simp [a3, a5, a6, a7])) | (apply awp_cond_t; focus (simp [a3, a5, a6, a7]; done)) | (apply awp_cond_f; focus (simp [a3, a5, a6, a7]; done)) | (refine awp_cond ?_; simp [a3, a5, a6, a7]; refine ⟨?_, ?_⟩ <;> intro hc))
        refine awp_block_cutH (fun A' τ' => A' 3 = inAV all false ∧ A' 5 = v ∧ A' 6 = .raw (.int .i64 last) ∧ A' 8 = .raw (.int .i64 (nextCut all last)) ∧ τ' = τ) ?_ ?_
        · intro R2 hR2
          refine awp_loopH (fun n A' τ' => ∃ i : Nat, A' 3 = inAV all false ∧ A' 5 = v ∧ A' 6 = .raw (.int .i64 last) ∧ A' 9 = .raw (.int .i64 i) ∧ A' 8 = .raw (.int .i64 (nextCut (all.take i) last)) ∧ τ' = τ ∧ i ≤ all.length ∧ n = all.length - i) all.length ?_ ?_
          · exact ⟨0, by simp [a3], by simp [a5], by simp [a6], by simp, by simp [nextCut], rfl, by omega, by omega⟩
          clear a3 a5 a6 a7
          rintro n A' τ' ⟨i, a3, a5, a6, a9, a8, rfl, hi, rfl⟩ I2 hI2
          by_cases hlt : i < all.length
          · have hx : all[i]? = some all[i] := List.getElem?_eq_getElem hlt
            have ht := nextCut_take (last := last) hx
            have w1 : IntKind.i64.wrap ((i : Int) + 1) = ((i + 1 : Nat) : Int) := by rw [wrap64 (by omega) (by omega)]; omega
            generalize nextCut (all.take i) last = x at *
            have hic : ∀ n, (iAV n).cells = [iAV n] := fun n => rfl
            by_cases c1 : last < all[i]
            · by_cases c2 : all[i] < x
              · rw [if_pos ⟨c1, c2⟩] at ht
                (try (first | (with_reducible refine dops_go ?_; simp [a3, a5, a6, a9, a8, inAV, iAV, hlt, c1, c2, w1]) | (with_reducible refine OKv_go ?_; simp [a3, a5, a6, a9, a8, inAV, iAV, hlt, c1, c2, w1]) | (with_reducible refine OKr_go ?_; simp [a3, a5, a6, a9, a8, inAV, iAV, hlt, c1, c2, w1]))); repeat' (first | refine awp_seq ?_ | refine awp_block ?_ | (refine awp_skip ?_; try simp) | (refine awp_exit ?_; try simp) | (refine awp_ret ?_; try simp) | (refine retP_same (by simp) ?_; simp) | (refine retP_flat (by simp) (by simp) (by simp (maxDischargeDepth := 30) [a3, a5, a6, a9, a8, inAV, iAV, hlt, c1, c2, w1]) ?_; simp) | (refine awp_reg ?_; simp [a3, a5, a6, a9, a8, inAV, iAV, hlt, c1, c2, w1]) | (refine awp_drawT (fun _ => false) mixed (by decide +kernel) ?_; simp [a3, a5, a6, a9, a8, inAV, iAV, hlt, c1, c2, w1]) | (refine guarded_split ?_ ?_ <;> (intro hg; simp only [hg]; simp [a3, a5, a6, a9, a8, inAV, iAV, hlt, c1, c2, w1])) | (apply awp_cond_t; focus (simp [a3, a5, a6, a9, a8, inAV, iAV, hlt, c1, c2, w1]; done)) | (apply awp_cond_f; focus (simp [a3, a5, a6, a9, a8, inAV, iAV, hlt, c1, c2, w1]; done)) | (refine awp_cond ?_; simp [a3, a5, a6, a9, a8, inAV, iAV, hlt, c1, c2, w1]; refine ⟨?_, ?_⟩ <;> intro hc))
                exact hI2 (all.length - (i + 1)) _ _ (by omega) ⟨i + 1, by simp [a3, inAV, iAV], by simp [a5], by simp [a6], by simp, by simp [ht], rfl, by omega, rfl⟩
              · rw [if_neg (fun h => c2 h.2)] at ht
                (try (first | (with_reducible refine dops_go ?_; simp [a3, a5, a6, a9, a8, inAV, iAV, hlt, c1, c2, w1]) | (with_reducible refine OKv_go ?_; simp [a3, a5, a6, a9, a8, inAV, iAV, hlt, c1, c2, w1]) | (with_reducible refine OKr_go ?_; simp [a3, a5, a6, a9, a8, inAV, iAV, hlt, c1, c2, w1]))); repeat' (first | refine awp_seq ?_ | refine awp_block ?_ | (refine awp_skip ?_; try simp) | (refine awp_exit ?_; try simp) | (refine awp_ret ?_; try simp) | (refine retP_same (by simp) ?_; simp) | (refine retP_flat (by simp) (by simp) (by simp (maxDischargeDepth := 30) [a3, a5, a6, a9, a8, inAV, iAV, hlt, c1, c2, w1]) ?_; simp) | (refine awp_reg ?_; simp [a3, a5, a6, a9, a8, inAV, iAV, hlt, c1, c2, w1]) | (refine awp_drawT (fun _ => false) mixed (by decide +kernel) ?_; simp [a3, a5, a6, a9, a8, inAV, iAV, hlt, c1, c2, w1]) | (refine guarded_split ?_ ?_ <;> (intro hg; simp only [hg]; simp [a3, a5, a6, a9, a8, inAV, iAV, hlt, c1, c2, w1])) | (apply awp_cond_t; focus (simp [a3, a5, a6, a9, a8, inAV, iAV, hlt, c1, c2, w1]; done)) | (apply awp_cond_f; focus (simp [a3, a5, a6, a9, a8, inAV, iAV, hlt, c1, c2, w1]; done)) | (refine awp_cond ?_; simp [a3, a5, a6, a9, a8, inAV, iAV, hlt, c1, c2, w1]; refine ⟨?_, ?_⟩ <;> intro hc))
                exact hI2 (all.length - (i + 1)) _ _ (by omega) ⟨i + 1, by simp [a3, inAV, iAV], by simp [a5], by simp [a6], by simp, by simp [a8, ht], rfl, by omega, rfl⟩
            · rw [if_neg (fun h => c1 h.1)] at ht
              (try (first | (with_reducible refine dops_go ?_; simp [a3, a5, a6, a9, a8, inAV, iAV, hlt, c1, w1]) | (with_reducible refine OKv_go ?_; simp [a3, a5, a6, a9, a8, inAV, iAV, hlt, c1, w1]) | (with_reducible refine OKr_go ?_; simp [a3, a5, a6, a9, a8, inAV, iAV, hlt, c1, w1]))); repeat' (first | refine awp_seq ?_ | refine awp_block ?_ | (refine awp_skip ?_; try simp) | (refine awp_exit ?_; try simp) | (refine awp_ret ?_; try simp) | (refine retP_same (by simp) ?_; simp) | (refine retP_flat (by simp) (by simp) (by simp (maxDischargeDepth := 30) [a3, a5, a6, a9, a8, inAV, iAV, hlt, c1, w1]) ?_; simp) | (refine awp_reg ?_; simp [a3, a5, a6, a9, a8, inAV, iAV, hlt, c1, w1]) | (refine awp_drawT (fun _ => false) mixed (by decide +kernel) ?_; simp [a3, a5, a6, a9, a8, inAV, iAV, hlt, c1, w1]) | (refine guarded_split ?_ ?_ <;> (intro hg; simp only [hg]; simp [a3, a5, a6, a9, a8, inAV, iAV, hlt, c1, w1])) | (apply awp_cond_t; focus (simp [a3, a5, a6, a9, a8, inAV, iAV, hlt, c1, w1]; done)) | (apply awp_cond_f; focus (simp [a3, a5, a6, a9, a8, inAV, iAV, hlt, c1, w1]; done)) | (refine awp_cond ?_; simp [a3, a5, a6, a9, a8, inAV, iAV, hlt, c1, w1]; refine ⟨?_, ?_⟩ <;> intro hc))
              exact hI2 (all.length - (i + 1)) _ _ (by omega) ⟨i + 1, by simp [a3, inAV, iAV], by simp [a5], by simp [a6], by simp, by simp [a8, ht], rfl, by omega, rfl⟩
          · have : i = all.length := by omega
            subst this
            rw [List.take_length] at a8
            (try (first | (with_reducible refine dops_go ?_; simp [a3, a5, a6, a9, a8, inAV]) | (with_reducible refine OKv_go ?_; simp [a3, a5, a6, a9, a8, inAV]) | (with_reducible refine OKr_go ?_; simp [a3, a5, a6, a9, a8, inAV]))); repeat' (first | refine awp_seq ?_ | refine awp_block ?_ | (refine awp_skip ?_; try simp) | (refine awp_exit ?_; try simp) | (refine awp_ret ?_; try simp) | (refine retP_same (by simp) ?_; simp) | (refine retP_flat (by simp) (by simp) (by simp (maxDischargeDepth := 30) [a3, a5, a6, a9, a8, inAV]) ?_; simp) | (refine awp_reg ?_; simp [a3, a5, a6, a9, a8, inAV]) | (refine awp_drawT (fun _ => false) mixed (by decide +kernel) ?_; simp [a3, a5, a6, a9, a8, inAV]) | (refine guarded_split ?_ ?_ <;> (intro hg; simp only [hg]; simp [a3, a5, a6, a9, a8, inAV])) | (apply awp_cond_t; focus (simp [a3, a5, a6, a9, a8, inAV]; done)) | (apply awp_cond_f; focus (simp [a3, a5, a6, a9, a8, inAV]; done)) | (refine awp_cond ?_; simp [a3, a5, a6, a9, a8, inAV]; refine ⟨?_, ?_⟩ <;> intro hc))
            exact hR2 _ _ ⟨by simp [a3, inAV], by simp [a5], by simp [a6], by simp [a8], rfl⟩
        · clear a3 a5 a6 a7
          rintro A τ' ⟨a3, a5, a6, a8, rfl⟩
          by_cases hn : nextCut all last ≤ 4294967295
          · have hlt := above_lt hn
            rw [cutsFrom_step hn] at hc
            generalize nextCut all last = x at *
            have hlc := congrArg List.length hc
            simp only [List.length_append, List.length_cons] at hlc
            (try (first | (with_reducible refine dops_go ?_; simp [-opAppend, a3, a5, a6, a8, hn]) | (with_reducible refine OKv_go ?_; simp [-opAppend, a3, a5, a6, a8, hn]) | (with_reducible refine OKr_go ?_; simp [-opAppend, a3, a5, a6, a8, hn]))); repeat' (first | refine awp_seq ?_ | refine awp_block ?_ | (refine awp_skip ?_; try simp) | (refine awp_exit ?_; try simp) | (refine awp_ret ?_; try simp) | (refine retP_same (by simp) ?_; simp) | (refine retP_flat (by simp) (by simp) (by simp (maxDischargeDepth := 30) [-opAppend, a3, a5, a6, a8, hn]) ?_; simp) | (refine awp_reg ?_; simp [-opAppend, a3, a5, a6, a8, hn]) | (refine awp_drawT (fun _ => false) mixed (by decide +kernel) ?_; simp [-opAppend, a3, a5, a6, a8, hn]) | (refine guarded_split ?_ ?_ <;> (intro hg; simp only [hg]; simp [-opAppend, a3, a5, a6, a8, hn])) | (apply awp_cond_t; focus (simp [-opAppend, a3, a5, a6, a8, hn]; done)) | (apply awp_cond_f; focus (simp [-opAppend, a3, a5, a6, a8, hn]; done)))
            have hE63 := Ext.new τ' 63 1 (.buf [.raw (.int .i64 x)])
            refine okr_append slt22 (hO.ext hE63) (hE.trans hE63) (ys := [iAV x]) (by simp [iAV]) (.inr rfl) (by simp [iAV]) (by simp; omega) ?_
            intro v' τ2 hO2 hE2 hkeep hnx
            have hO3 : OwnL σ τ2 1 v' ((out ++ [x]).map iAV) := by simpa using hO2
            clear hkeep
            (try (first | (with_reducible refine dops_go ?_; simp [a3, a8]) | (with_reducible refine OKv_go ?_; simp [a3, a8]) | (with_reducible refine OKr_go ?_; simp [a3, a8]))); repeat' (first | refine awp_seq ?_ | refine awp_block ?_ | (refine awp_skip ?_; try simp) | (refine awp_exit ?_; try simp) | (refine awp_ret ?_; try simp) | (refine retP_same (by simp) ?_; simp) | (refine retP_flat (by simp) (by simp) (by simp (maxDischargeDepth := 30) [a3, a8]) ?_; simp) | (refine awp_reg ?_; simp [a3, a8]) | (refine awp_drawT (fun _ => false) mixed (by decide +kernel) ?_; simp [a3, a8]) | (refine guarded_split ?_ ?_ <;> (intro hg; simp only [hg]; simp [a3, a8])) | (apply awp_cond_t; focus (simp [a3, a8]; done)) | (apply awp_cond_f; focus (simp [a3, a8]; done)) | (refine awp_cond ?_; simp [a3, a8]; refine ⟨?_, ?_⟩ <;> intro hc))
            exact hI1 (above all x + 1) _ _ (by omega) ⟨x, v', out ++ [x], by simp [a3], by simp, by simp, hO3, hE2, by simp; omega, .inl ⟨by simp, by simpa using hc, rfl⟩⟩
          · rw [cutsFrom_stop hn, List.append_nil] at hc
            subst hc
            generalize nextCut all last = x at *
            (try (first | (with_reducible refine dops_go ?_; simp [a3, a5, a6, a8, hn]) | (with_reducible refine OKv_go ?_; simp [a3, a5, a6, a8, hn]) | (with_reducible refine OKr_go ?_; simp [a3, a5, a6, a8, hn]))); repeat' (first | refine awp_seq ?_ | refine awp_block ?_ | (refine awp_skip ?_; try simp) | (refine awp_exit ?_; try simp) | (refine awp_ret ?_; try simp) | (refine retP_same (by simp) ?_; simp) | (refine retP_flat (by simp) (by simp) (by simp (maxDischargeDepth := 30) [a3, a5, a6, a8, hn]) ?_; simp) | (refine awp_reg ?_; simp [a3, a5, a6, a8, hn]) | (refine awp_drawT (fun _ => false) mixed (by decide +kernel) ?_; simp [a3, a5, a6, a8, hn]) | (refine guarded_split ?_ ?_ <;> (intro hg; simp only [hg]; simp [a3, a5, a6, a8, hn])) | (apply awp_cond_t; focus (simp [a3, a5, a6, a8, hn]; done)) | (apply awp_cond_f; focus (simp [a3, a5, a6, a8, hn]; done)) | (refine awp_cond ?_; simp [a3, a5, a6, a8, hn]; refine ⟨?_, ?_⟩ <;> intro hc))
            exact hI1 0 _ _ (by omega) ⟨last, v, out, by simp [a3], by simp [a5], by simp [a6], hO, hE, Nat.le_refl _, .inr ⟨by simp, rfl, rfl⟩⟩
      · (try (first | (with_reducible refine dops_go ?_; simp [a3, a5, a6, a7]) | (with_reducible refine OKv_go ?_; simp [a3, a5, a6, a7]) | (with_reducible refine OKr_go ?_; simp [a3, a5, a6, a7]))); repeat' (first | refine awp_seq ?_ | refine awp_block ?_ | (refine awp_skip ?_; try simp) | (refine awp_exit ?_; try simp) | (refine awp_ret ?_; try simp) | (refine retP_same (by simp) ?_; simp) | (refine retP_flat (by simp) (by simp) (by simp (maxDischargeDepth := 30) [a3, a5, a6, a7]) ?_; simp) | (refine awp_reg ?_; simp [a3, a5, a6, a7]) | (refine awp_drawT (fun _ => false) mixed (by decide +kernel) ?_; simp [a3, a5, a6, a7]) | (refine guarded_split ?_ ?_ <;> (intro hg; simp only [hg]; simp [a3, a5, a6, a7])) | (apply awp_cond_t; focus (simp [a3, a5, a6, a7]; done)) | (apply awp_cond_f; focus (simp [a3, a5, a6, a7]; done)) | (refine awp_cond ?_; simp [a3, a5, a6, a7]; refine ⟨?_, ?_⟩ <;> intro hc))
        exact hR1 _ _ ⟨by simp [a5]; exact hO, hE⟩
    · rintro A τ ⟨hO, hE⟩
      generalize ha5 : A 5 = v at *
      (try (first | (with_reducible refine dops_go ?_; simp [ha5]) | (with_reducible refine OKv_go ?_; simp [ha5]) | (with_reducible refine OKr_go ?_; simp [ha5]))); repeat' (first | refine awp_seq ?_ | refine awp_block ?_ | (refine awp_skip ?_; try simp) | (refine awp_exit ?_; try simp) | (refine awp_ret ?_; try simp) | (refine awp_reg ?_; simp [ha5]) | (refine awp_drawT (fun _ => false) mixed (by decide +kernel) ?_; simp [ha5]) | (refine guarded_split ?_ ?_ <;> (intro hg; simp only [hg]; simp [ha5])) | (apply awp_cond_t; focus (simp [ha5]; done)) | (apply awp_cond_f; focus (simp [ha5]; done)) | (refine awp_cond ?_; simp [ha5]; refine ⟨?_, ?_⟩ <;> intro hc))
      exact retP_own (.inr rfl) (by simp) hO hE
end Go.Proofs.YtanimmdlgmkmkaaGreat.Av.Zn


/- The document's zones: the walks of End, Join, Of, both. -/
namespace Go.Proofs.YtanimmdlgmkmkaaGreat.Av.Zn
open Go
set_option linter.unusedSimpArgs false
set_option linter.unusedVariables false
set_option maxRecDepth 100000
set_option maxHeartbeats 4000000
set_option pp.maxSteps 300

def endOf (C : List Int) (i : Nat) : Int := match C[i + 1]? with | some x => x - 1 | none => 4294967295
theorem end_calls (C : List Int) (f : Bool) (i : Nat) (hl : C.length < 2 ^ 60) (hi : i < 2 ^ 60) (hC : ∀ x ∈ C, 0 ≤ x ∧ x ≤ 4294967296) : PCalls Tryz.prog 114 [inAV C f, .raw (.int .i64 i)] (.raw (.int .i64 (endOf C i))) := by
  refine pbody Tryz.func114 rfl (N := 16) rfl rfl (by simp) (by simp [noIds]) fun σ => ?_
  have w1 : IntKind.i64.wrap ((i : Int) + 1) = ((i + 1 : Nat) : Int) := by rw [wrap64 (by omega) (by omega)]; omega
  obtain ⟨k, hk⟩ : ∃ k, i + 1 = k := ⟨_, rfl⟩
  rw [hk] at w1
  unfold endOf
  rw [hk]
  by_cases hlt : k < C.length
  · have hx : C[k]? = some C[k] := List.getElem?_eq_getElem hlt
    obtain ⟨x1, x2⟩ := hC C[k] (List.getElem_mem _)
    have w2 : IntKind.i64.wrap (C[k] - 1) = C[k] - 1 := wrap64 (by omega) (by omega)
    (try (first | (with_reducible refine dops_go ?_; simp [inAV, iAV, w1, hlt, w2]) | (with_reducible refine OKv_go ?_; simp [inAV, iAV, w1, hlt, w2]) | (with_reducible refine OKr_go ?_; simp [inAV, iAV, w1, hlt, w2]))); repeat' (first | refine awp_seq ?_ | refine awp_block ?_ | (refine awp_skip ?_; try simp) | (refine awp_exit ?_; try simp) | (refine awp_ret ?_; try simp) | (refine retP_same (by simp) ?_; simp) | (refine retP_flat (by simp) (by simp) (by simp (maxDischargeDepth := 30) [inAV, iAV, w1, hlt, w2]) ?_; simp) | (refine awp_reg ?_; simp [inAV, iAV, w1, hlt, w2]) | (refine awp_drawT (fun _ => false) mixed (by decide +kernel) ?_; simp [inAV, iAV, w1, hlt, w2]) | (refine guarded_split ?_ ?_ <;> (intro hg; simp only [hg]; simp [inAV, iAV, w1, hlt, w2])) | (apply awp_cond_t; focus (simp [inAV, iAV, w1, hlt, w2]; done)) | (apply awp_cond_f; focus (simp [inAV, iAV, w1, hlt, w2]; done)) | (refine awp_cond ?_; simp [inAV, iAV, w1, hlt, w2]; refine ⟨?_, ?_⟩ <;> intro hc))
  · have hx : C[k]? = none := List.getElem?_eq_none (by omega)
    rw [hx]
    (try (first | (with_reducible refine dops_go ?_; simp [inAV, iAV, w1, hlt]) | (with_reducible refine OKv_go ?_; simp [inAV, iAV, w1, hlt]) | (with_reducible refine OKr_go ?_; simp [inAV, iAV, w1, hlt]))); repeat' (first | refine awp_seq ?_ | refine awp_block ?_ | (refine awp_skip ?_; try simp) | (refine awp_exit ?_; try simp) | (refine awp_ret ?_; try simp) | (refine retP_same (by simp) ?_; simp) | (refine retP_flat (by simp) (by simp) (by simp (maxDischargeDepth := 30) [inAV, iAV, w1, hlt]) ?_; simp) | (refine awp_reg ?_; simp [inAV, iAV, w1, hlt]) | (refine awp_drawT (fun _ => false) mixed (by decide +kernel) ?_; simp [inAV, iAV, w1, hlt]) | (refine guarded_split ?_ ?_ <;> (intro hg; simp only [hg]; simp [inAV, iAV, w1, hlt])) | (apply awp_cond_t; focus (simp [inAV, iAV, w1, hlt]; done)) | (apply awp_cond_f; focus (simp [inAV, iAV, w1, hlt]; done)) | (refine awp_cond ?_; simp [inAV, iAV, w1, hlt]; refine ⟨?_, ?_⟩ <;> intro hc))

def joinZ (z : List Rg) (f t : Int) : List Rg :=
  match z[z.length - 1]? with
  | some r => if r.hi + 1 = f then z.set (z.length - 1) ⟨r.lo, t⟩ else z ++ [⟨f, t⟩]
  | none => z ++ [⟨f, t⟩]
/-- Joining the cuts that are wanted, behind what is there. -/
def joins (p : Int → Bool) (C : List Int) : Nat → List Rg
  | 0 => []
  | i + 1 => match C[i]? with
    | some c => if p c then joinZ (joins p C i) c (endOf C i) else joins p C i
    | none => joins p C i
def howP (how : Int) (p q : Bool) : Bool := (how == 1 && p && q) || (how == 2 && (p || q)) || (how == 3 && p && !q)
end Go.Proofs.YtanimmdlgmkmkaaGreat.Av.Zn


/- The document's comparisons of lists, rules, topologies; its ranges and atoms. -/
namespace Go.Proofs.YtanimmdlgmkmkaaGreat.Av
open Go
set_option linter.unusedSimpArgs false
set_option linter.unusedVariables false
set_option maxRecDepth 100000
set_option maxHeartbeats 4000000
set_option pp.maxSteps 600

theorem ru_eq (a b : Ru) : structEq Tryz.prog 4 73 (ruAV a) (ruAV b) = some (decide (a = b)) := by
  have : decide (a = b) = (decide (a.id = b.id) && (decide (a.dev = b.dev) && (decide (a.prio = b.prio) && (decide (a.kind = b.kind) && (decide (a.r.lo = b.r.lo) && decide (a.r.hi = b.r.hi) && decide (a.port = b.port)))))) := by
    rcases a with ⟨a1, a2, a3, a4, ⟨a5, a6⟩, a7⟩; rcases b with ⟨b1, b2, b3, b4, ⟨b5, b6⟩, b7⟩
    rw [Bool.eq_iff_iff]; simp [and_assoc]
  rw [this]
  simp [structEq, fieldsEq, ruAV, rowLoad, cellEq]
theorem ru_neq (a b : Ru) : opBin Tryz.prog .neq 73 (ruAV a) (ruAV b) = some (.raw (.bool (!decide (a = b)))) := by
  have e1 : ∀ x y : Ru, opBin Tryz.prog .neq 73 (ruAV x) (ruAV y) = if Tryz.prog.eqGuardType Tryz.prog.depth 73 = false then (structEq Tryz.prog 4 73 (ruAV x) (ruAV y)).bind fun b => (nilBin .neq b).map .raw else none := fun x y => rfl
  rw [e1, if_pos eqg73, ru_eq]
  rfl
theorem refRules_calls (x y : List Ru) (fx fy : Bool) (hl : x.length < 2 ^ 60) (hl2 : y.length < 2 ^ 60) : PCalls Tryz.prog 81 [rulesAV x fx, rulesAV y fy] (.raw (.bool (decide (x = y)))) := by
  refine pbody Tryz.func81 rfl (N := 26) rfl rfl (by simp) (by simp [noIds]) fun σ => ?_
  by_cases hlen : x.length = y.length
  · have hli : (x.length : Int) = (y.length : Int) := by omega
    (try (first | (with_reducible refine dops_go ?_; simp [rulesAV, hlen, hli]) | (with_reducible refine OKv_go ?_; simp [rulesAV, hlen, hli]) | (with_reducible refine OKr_go ?_; simp [rulesAV, hlen, hli]))); repeat' (first | refine awp_seq ?_ | refine awp_block ?_ | (refine awp_skip ?_; try simp) | (refine awp_exit ?_; try simp) | (refine awp_ret ?_; try simp) | (refine retP_same (by simp) ?_; simp) | (refine retP_flat (by simp) (by simp) (by simp (maxDischargeDepth := 30) [rulesAV, hlen, hli]) ?_; simp) | (refine awp_reg ?_; simp [rulesAV, hlen, hli]) | (refine awp_drawT (fun _ => false) mixed (by decide +kernel) ?_; simp [rulesAV, hlen, hli]) | (refine guarded_split ?_ ?_ <;> (intro hg; simp only [hg]; simp [rulesAV, hlen, hli])) | (apply awp_cond_t; focus (simp [rulesAV, hlen, hli]; done)) | (apply awp_cond_f; focus (simp [rulesAV, hlen, hli]; done)) | (refine awp_cond ?_; simp [rulesAV, hlen, hli]; refine ⟨?_, ?_⟩ <;> intro hc))
    refine awp_loopH (fun n A τ => τ = σ ∧ A 0 = rulesAV x fx ∧ A 1 = rulesAV y fy ∧ ∃ i : Nat, A 5 = .raw (.int .i64 i) ∧ i ≤ y.length ∧ n = y.length - i ∧ x.take i = y.take i) y.length ?_ ?_
    · exact ⟨rfl, by simp [rulesAV], by simp [rulesAV], 0, by simp, by omega, by omega, by simp⟩
    rintro n A τ ⟨rfl, a0, a1, i, a5, hi, rfl, htk⟩ I1 hI1
    by_cases hlt : i < y.length
    · have hlx : i < x.length := by omega
      have hx : x[i]? = some x[i] := List.getElem?_eq_getElem hlx
      have hy : y[i]? = some y[i] := List.getElem?_eq_getElem hlt
      have w1 : IntKind.i64.wrap ((i : Int) + 1) = ((i + 1 : Nat) : Int) := by rw [wrap64 (by omega) (by omega)]; omega
      by_cases he : x[i] = y[i]
      · skip
        (try (first | (with_reducible refine dops_go ?_; simp [rulesAV, a0, a1, a5, hlt, hlx, hlen, hx, hy, ru_cells, ru_fold, ru_neq, opBin_raw, -opBin, he, w1]) | (with_reducible refine OKv_go ?_; simp [rulesAV, a0, a1, a5, hlt, hlx, hlen, hx, hy, ru_cells, ru_fold, ru_neq, opBin_raw, -opBin, he, w1]) | (with_reducible refine OKr_go ?_; simp [rulesAV, a0, a1, a5, hlt, hlx, hlen, hx, hy, ru_cells, ru_fold, ru_neq, opBin_raw, -opBin, he, w1]))); repeat' (first | refine awp_seq ?_ | refine awp_block ?_ | (refine awp_skip ?_; try simp) | (refine awp_exit ?_; try simp) | (refine awp_ret ?_; try simp) | (refine retP_same (by simp) ?_; simp) | (refine retP_flat (by simp) (by simp) (by simp (maxDischargeDepth := 30) [rulesAV, a0, a1, a5, hlt, hlx, hlen, hx, hy, ru_cells, ru_fold, ru_neq, opBin_raw, -opBin, he, w1]) ?_; simp) | (refine awp_reg ?_; simp [rulesAV, a0, a1, a5, hlt, hlx, hlen, hx, hy, ru_cells, ru_fold, ru_neq, opBin_raw, -opBin, he, w1]) | (refine awp_drawT (fun _ => false) mixed (by decide +kernel) ?_; simp [rulesAV, a0, a1, a5, hlt, hlx, hlen, hx, hy, ru_cells, ru_fold, ru_neq, opBin_raw, -opBin, he, w1]) | (refine guarded_split ?_ ?_ <;> (intro hg; simp only [hg]; simp [rulesAV, a0, a1, a5, hlt, hlx, hlen, hx, hy, ru_cells, ru_fold, ru_neq, opBin_raw, -opBin, he, w1])) | (apply awp_cond_t; focus (simp [rulesAV, a0, a1, a5, hlt, hlx, hlen, hx, hy, ru_cells, ru_fold, ru_neq, opBin_raw, -opBin, he, w1]; done)) | (apply awp_cond_f; focus (simp [rulesAV, a0, a1, a5, hlt, hlx, hlen, hx, hy, ru_cells, ru_fold, ru_neq, opBin_raw, -opBin, he, w1]; done)) | (refine awp_cond ?_; simp [rulesAV, a0, a1, a5, hlt, hlx, hlen, hx, hy, ru_cells, ru_fold, ru_neq, opBin_raw, -opBin, he, w1]; refine ⟨?_, ?_⟩ <;> intro hc))
        all_goals exact hI1 (y.length - (i + 1)) _ _ (by omega) ⟨rfl, by simp [a0, rulesAV], by simp [a1, rulesAV], i + 1, by simp [w1], by omega, rfl, take_eq htk hx (by rw [hy, he])⟩
      · skip
        (try (first | (with_reducible refine dops_go ?_; simp [rulesAV, a0, a1, a5, hlt, hlx, hlen, hx, hy, ru_cells, ru_fold, ru_neq, opBin_raw, -opBin, he, w1]) | (with_reducible refine OKv_go ?_; simp [rulesAV, a0, a1, a5, hlt, hlx, hlen, hx, hy, ru_cells, ru_fold, ru_neq, opBin_raw, -opBin, he, w1]) | (with_reducible refine OKr_go ?_; simp [rulesAV, a0, a1, a5, hlt, hlx, hlen, hx, hy, ru_cells, ru_fold, ru_neq, opBin_raw, -opBin, he, w1]))); repeat' (first | refine awp_seq ?_ | refine awp_block ?_ | (refine awp_skip ?_; try simp) | (refine awp_exit ?_; try simp) | (refine awp_ret ?_; try simp) | (refine retP_same (by simp) ?_; simp) | (refine retP_flat (by simp) (by simp) (by simp (maxDischargeDepth := 30) [rulesAV, a0, a1, a5, hlt, hlx, hlen, hx, hy, ru_cells, ru_fold, ru_neq, opBin_raw, -opBin, he, w1]) ?_; simp) | (refine awp_reg ?_; simp [rulesAV, a0, a1, a5, hlt, hlx, hlen, hx, hy, ru_cells, ru_fold, ru_neq, opBin_raw, -opBin, he, w1]) | (refine awp_drawT (fun _ => false) mixed (by decide +kernel) ?_; simp [rulesAV, a0, a1, a5, hlt, hlx, hlen, hx, hy, ru_cells, ru_fold, ru_neq, opBin_raw, -opBin, he, w1]) | (refine guarded_split ?_ ?_ <;> (intro hg; simp only [hg]; simp [rulesAV, a0, a1, a5, hlt, hlx, hlen, hx, hy, ru_cells, ru_fold, ru_neq, opBin_raw, -opBin, he, w1])) | (apply awp_cond_t; focus (simp [rulesAV, a0, a1, a5, hlt, hlx, hlen, hx, hy, ru_cells, ru_fold, ru_neq, opBin_raw, -opBin, he, w1]; done)) | (apply awp_cond_f; focus (simp [rulesAV, a0, a1, a5, hlt, hlx, hlen, hx, hy, ru_cells, ru_fold, ru_neq, opBin_raw, -opBin, he, w1]; done)) | (refine awp_cond ?_; simp [rulesAV, a0, a1, a5, hlt, hlx, hlen, hx, hy, ru_cells, ru_fold, ru_neq, opBin_raw, -opBin, he, w1]; refine ⟨?_, ?_⟩ <;> intro hc))
        all_goals (rintro rfl; exact he rfl)
    · have : i = y.length := by omega
      subst this
      have hxy : x = y := by
        rw [List.take_length, ← hlen, List.take_length] at htk; exact htk
      (try (first | (with_reducible refine dops_go ?_; simp [rulesAV, a0, a1, a5, hlen]) | (with_reducible refine OKv_go ?_; simp [rulesAV, a0, a1, a5, hlen]) | (with_reducible refine OKr_go ?_; simp [rulesAV, a0, a1, a5, hlen]))); repeat' (first | refine awp_seq ?_ | refine awp_block ?_ | (refine awp_skip ?_; try simp) | (refine awp_exit ?_; try simp) | (refine awp_ret ?_; try simp) | (refine retP_same (by simp) ?_; simp) | (refine retP_flat (by simp) (by simp) (by simp (maxDischargeDepth := 30) [rulesAV, a0, a1, a5, hlen]) ?_; simp) | (refine awp_reg ?_; simp [rulesAV, a0, a1, a5, hlen]) | (refine awp_drawT (fun _ => false) mixed (by decide +kernel) ?_; simp [rulesAV, a0, a1, a5, hlen]) | (refine guarded_split ?_ ?_ <;> (intro hg; simp only [hg]; simp [rulesAV, a0, a1, a5, hlen])) | (apply awp_cond_t; focus (simp [rulesAV, a0, a1, a5, hlen]; done)) | (apply awp_cond_f; focus (simp [rulesAV, a0, a1, a5, hlen]; done)) | (refine awp_cond ?_; simp [rulesAV, a0, a1, a5, hlen]; refine ⟨?_, ?_⟩ <;> intro hc))
      all_goals first | exact hxy | simp [hxy]
  · have hli : ¬ ((x.length : Int) = (y.length : Int)) := by omega
    (try (first | (with_reducible refine dops_go ?_; simp [rulesAV, hlen, hli]) | (with_reducible refine OKv_go ?_; simp [rulesAV, hlen, hli]) | (with_reducible refine OKr_go ?_; simp [rulesAV, hlen, hli]))); repeat' (first | refine awp_seq ?_ | refine awp_block ?_ | (refine awp_skip ?_; try simp) | (refine awp_exit ?_; try simp) | (refine awp_ret ?_; try simp) | (refine retP_same (by simp) ?_; simp) | (refine retP_flat (by simp) (by simp) (by simp (maxDischargeDepth := 30) [rulesAV, hlen, hli]) ?_; simp) | (refine awp_reg ?_; simp [rulesAV, hlen, hli]) | (refine awp_drawT (fun _ => false) mixed (by decide +kernel) ?_; simp [rulesAV, hlen, hli]) | (refine guarded_split ?_ ?_ <;> (intro hg; simp only [hg]; simp [rulesAV, hlen, hli])) | (apply awp_cond_t; focus (simp [rulesAV, hlen, hli]; done)) | (apply awp_cond_f; focus (simp [rulesAV, hlen, hli]; done)) | (refine awp_cond ?_; simp [rulesAV, hlen, hli]; refine ⟨?_, ?_⟩ <;> intro hc))
    all_goals (rintro rfl; exact hlen rfl)
theorem refTopo_calls (x y : Tp) (fx fy : Fl) (h1 : x.ports.length < 2 ^ 60) (h2 : y.ports.length < 2 ^ 60) (h3 : x.links.length < 2 ^ 60) (h4 : y.links.length < 2 ^ 60) : PCalls Tryz.prog 68 [tpAV x fx, tpAV y fy] (.raw (.bool (decide (x = y)))) := by
  refine pbody Tryz.func68 rfl (N := 59) rfl rfl (by simp) (by simp [noIds]) fun σ => ?_
  have f2 : σ.m ⟨2, σ.nx 2, 2⟩ = none := fresh_none _ _ _
  have f3 : σ.m ⟨3, σ.nx 3, 2⟩ = none := fresh_none _ _ _
  refine awp_seq ?_
  refine awp_reg ?_
  simp [tp_cells]
  refine awp_freeze ⟨2, σ.nx 2, 2⟩ ?_
  refine awp_freeze ⟨3, σ.nx 3, 2⟩ ?_
  generalize hτ : St.del _ _ = τ
  generalize hA : (fun t => giveUp _ _ _) = A
  have a2 : A 2 = .pp (tpAV x fx).cells 0 := by rw [← hA, ← hτ]; simp [giveUp, St.new, St.del, tp_cells, new_nx']
  have a3 : A 3 = .pp (tpAV y fy).cells 0 := by rw [← hA, ← hτ]; simp [giveUp, St.new, St.del, tp_cells, new_nx']
  have hE : Ext σ τ := by
    rw [← hτ]
    refine ⟨fun i o h => ?_, fun s => ?_⟩
    · have q2 : i ≠ ⟨2, σ.nx 2, 2⟩ := fun e => by rw [e, f2] at h; cases h
      have q3 : i ≠ ⟨3, σ.nx 3, 2⟩ := fun e => by rw [e, f3] at h; cases h
      simp [St.del, St.new, q2, q3, h]
    · simp only [St.del, St.new]
      repeat' split
      all_goals omega
  clear hτ hA
  have no : (¬ x.ports.length = y.ports.length ∨ ¬ x.links.length = y.links.length) → ¬ x = y := fun h e => by subst e; simp at h
  by_cases hlen : x.ports.length = y.ports.length
  · have hli : (x.ports.length : Int) = (y.ports.length : Int) := by omega
    by_cases hlen2 : x.links.length = y.links.length
    · have hli2 : (x.links.length : Int) = (y.links.length : Int) := by omega
      clear no
      (try ((first | with_reducible refine dops_go ?_ | with_reducible refine OKv_go ?_ | with_reducible refine OKr_go ?_); simp [-cellOK, intsAV, linksAV, a2, a3, tp_cells, hlen, hli, hlen2, hli2])); repeat' (first | refine awp_seq ?_ | refine awp_block ?_ | (refine awp_skip ?_; try simp) | (refine awp_exit ?_; try simp) | (refine awp_ret ?_; try simp) | (refine retP_same (by simp) ?_; simp) | (refine retP_no (by simp) (by simp [noIds]) (by repeat (first | assumption | exact Ext.refl _ | refine ext_new' ?_ | refine Ext.setF ?_ (by first | assumption | (simp [new_nx', St.set, fresh_none]; done) | exact ext_fresh (by assumption)))) ?_; simp [-cellOK, intsAV, linksAV, a2, a3, tp_cells, hlen, hli, hlen2, hli2, new_m, set_m, new_nx']) | ((first | refine awp_reg ?_ | refine awp_drawT (fun _ => false) mixed (by decide +kernel) ?_ | refine awp_drawT isCallO mixed (by decide +kernel) ?_); simp [-cellOK, intsAV, linksAV, a2, a3, tp_cells, hlen, hli, hlen2, hli2]) | (refine guarded_split ?_ ?_ <;> (intro hg; simp only [hg]; simp [-cellOK, intsAV, linksAV, a2, a3, tp_cells, hlen, hli, hlen2, hli2])) | (apply awp_cond_t; focus (simp [-cellOK, intsAV, linksAV, a2, a3, tp_cells, hlen, hli, hlen2, hli2]; done)) | (apply awp_cond_f; focus (simp [-cellOK, intsAV, linksAV, a2, a3, tp_cells, hlen, hli, hlen2, hli2]; done)) | (refine awp_cond ?_; simp [-cellOK, intsAV, linksAV, a2, a3, tp_cells, hlen, hli, hlen2, hli2]; refine ⟨?_, ?_⟩ <;> intro hc) | fail)
      refine awp_block_cutH (fun B ρ => ρ = τ ∧ B 2 = .pp (tpAV x fx).cells 0 ∧ B 3 = .pp (tpAV y fy).cells 0 ∧ x.ports = y.ports) ?_ ?_
      · intro R1 hR1
        refine awp_loopH (fun n B ρ => ρ = τ ∧ B 2 = .pp (tpAV x fx).cells 0 ∧ B 3 = .pp (tpAV y fy).cells 0 ∧ ∃ i : Nat, B 5 = .raw (.int .i64 i) ∧ i ≤ y.ports.length ∧ n = y.ports.length - i ∧ x.ports.take i = y.ports.take i) y.ports.length ?_ ?_
        · exact ⟨rfl, by simp [a2], by simp [a3], 0, by simp, by omega, by omega, by simp⟩
        rintro n B ρ ⟨rfl, a2, a3, i, a5, hi, rfl, htk⟩ I1 hI1
        by_cases hlt : i < y.ports.length
        · have hlx : i < x.ports.length := by omega
          have hx : x.ports[i]? = some x.ports[i] := List.getElem?_eq_getElem hlx
          have hy : y.ports[i]? = some y.ports[i] := List.getElem?_eq_getElem hlt
          have w1 : IntKind.i64.wrap ((i : Int) + 1) = ((i + 1 : Nat) : Int) := by rw [wrap64 (by omega) (by omega)]; omega
          by_cases he : x.ports[i] = y.ports[i]
          · skip
            (try ((first | with_reducible refine dops_go ?_ | with_reducible refine OKv_go ?_ | with_reducible refine OKr_go ?_); simp [-cellOK, tp_cells, intsAV, iAV, a2, a3, a5, hlt, hlx, hlen, hx, hy, i_cells, he, w1])); repeat' (first | refine awp_seq ?_ | refine awp_block ?_ | (refine awp_skip ?_; try simp) | (refine awp_exit ?_; try simp) | (refine awp_ret ?_; try simp) | (refine retP_same (by simp) ?_; simp) | (refine retP_no (by simp) (by simp [noIds]) (by repeat (first | assumption | exact Ext.refl _ | refine ext_new' ?_ | refine Ext.setF ?_ (by first | assumption | (simp [new_nx', St.set, fresh_none]; done) | exact ext_fresh (by assumption)))) ?_; simp [-cellOK, tp_cells, intsAV, iAV, a2, a3, a5, hlt, hlx, hlen, hx, hy, i_cells, he, w1, new_m, set_m, new_nx']) | ((first | refine awp_reg ?_ | refine awp_drawT (fun _ => false) mixed (by decide +kernel) ?_ | refine awp_drawT isCallO mixed (by decide +kernel) ?_); simp [-cellOK, tp_cells, intsAV, iAV, a2, a3, a5, hlt, hlx, hlen, hx, hy, i_cells, he, w1]) | (refine guarded_split ?_ ?_ <;> (intro hg; simp only [hg]; simp [-cellOK, tp_cells, intsAV, iAV, a2, a3, a5, hlt, hlx, hlen, hx, hy, i_cells, he, w1])) | (apply awp_cond_t; focus (simp [-cellOK, tp_cells, intsAV, iAV, a2, a3, a5, hlt, hlx, hlen, hx, hy, i_cells, he, w1]; done)) | (apply awp_cond_f; focus (simp [-cellOK, tp_cells, intsAV, iAV, a2, a3, a5, hlt, hlx, hlen, hx, hy, i_cells, he, w1]; done)) | (refine awp_cond ?_; simp [-cellOK, tp_cells, intsAV, iAV, a2, a3, a5, hlt, hlx, hlen, hx, hy, i_cells, he, w1]; refine ⟨?_, ?_⟩ <;> intro hc) | fail)
            all_goals exact hI1 (y.ports.length - (i + 1)) _ _ (by omega) ⟨rfl, by simp [a2], by simp [a3], i + 1, by simp [w1], by omega, rfl, take_eq htk hx (by rw [hy, he])⟩
          · have hne : ¬ x = y := fun e => he (by subst e; rfl)
            (try ((first | with_reducible refine dops_go ?_ | with_reducible refine OKv_go ?_ | with_reducible refine OKr_go ?_); simp [-cellOK, tp_cells, intsAV, iAV, a2, a3, a5, hlt, hlx, hlen, hx, hy, i_cells, he, w1, hne])); repeat' (first | refine awp_seq ?_ | refine awp_block ?_ | (refine awp_skip ?_; try simp) | (refine awp_exit ?_; try simp) | (refine awp_ret ?_; try simp) | (refine retP_same (by simp) ?_; simp) | (refine retP_no (by simp) (by simp [noIds]) (by repeat (first | assumption | exact Ext.refl _ | refine ext_new' ?_ | refine Ext.setF ?_ (by first | assumption | (simp [new_nx', St.set, fresh_none]; done) | exact ext_fresh (by assumption)))) ?_; simp [-cellOK, tp_cells, intsAV, iAV, a2, a3, a5, hlt, hlx, hlen, hx, hy, i_cells, he, w1, hne, new_m, set_m, new_nx']) | ((first | refine awp_reg ?_ | refine awp_drawT (fun _ => false) mixed (by decide +kernel) ?_ | refine awp_drawT isCallO mixed (by decide +kernel) ?_); simp [-cellOK, tp_cells, intsAV, iAV, a2, a3, a5, hlt, hlx, hlen, hx, hy, i_cells, he, w1, hne]) | (refine guarded_split ?_ ?_ <;> (intro hg; simp only [hg]; simp [-cellOK, tp_cells, intsAV, iAV, a2, a3, a5, hlt, hlx, hlen, hx, hy, i_cells, he, w1, hne])) | (apply awp_cond_t; focus (simp [-cellOK, tp_cells, intsAV, iAV, a2, a3, a5, hlt, hlx, hlen, hx, hy, i_cells, he, w1, hne]; done)) | (apply awp_cond_f; focus (simp [-cellOK, tp_cells, intsAV, iAV, a2, a3, a5, hlt, hlx, hlen, hx, hy, i_cells, he, w1, hne]; done)) | (refine awp_cond ?_; simp [-cellOK, tp_cells, intsAV, iAV, a2, a3, a5, hlt, hlx, hlen, hx, hy, i_cells, he, w1, hne]; refine ⟨?_, ?_⟩ <;> intro hc) | fail)
        · have : i = y.ports.length := by omega
          subst this
          have hxy : x.ports = y.ports := by
            rw [List.take_length, ← hlen, List.take_length] at htk; exact htk
          (try ((first | with_reducible refine dops_go ?_ | with_reducible refine OKv_go ?_ | with_reducible refine OKr_go ?_); simp [-cellOK, tp_cells, intsAV, a2, a3, a5, hlen])); repeat' (first | refine awp_seq ?_ | refine awp_block ?_ | (refine awp_skip ?_; try simp) | (refine awp_exit ?_; try simp) | (refine awp_ret ?_; try simp) | (refine retP_same (by simp) ?_; simp) | (refine retP_no (by simp) (by simp [noIds]) (by repeat (first | assumption | exact Ext.refl _ | refine ext_new' ?_ | refine Ext.setF ?_ (by first | assumption | (simp [new_nx', St.set, fresh_none]; done) | exact ext_fresh (by assumption)))) ?_; simp [-cellOK, tp_cells, intsAV, a2, a3, a5, hlen, new_m, set_m, new_nx']) | ((first | refine awp_reg ?_ | refine awp_drawT (fun _ => false) mixed (by decide +kernel) ?_ | refine awp_drawT isCallO mixed (by decide +kernel) ?_); simp [-cellOK, tp_cells, intsAV, a2, a3, a5, hlen]) | (refine guarded_split ?_ ?_ <;> (intro hg; simp only [hg]; simp [-cellOK, tp_cells, intsAV, a2, a3, a5, hlen])) | (apply awp_cond_t; focus (simp [-cellOK, tp_cells, intsAV, a2, a3, a5, hlen]; done)) | (apply awp_cond_f; focus (simp [-cellOK, tp_cells, intsAV, a2, a3, a5, hlen]; done)) | (refine awp_cond ?_; simp [-cellOK, tp_cells, intsAV, a2, a3, a5, hlen]; refine ⟨?_, ?_⟩ <;> intro hc) | fail)
          all_goals exact hR1 _ _ ⟨rfl, by simp [a2], by simp [a3], hxy⟩
      · rintro B ρ ⟨rfl, a2, a3, hp⟩
        (try ((first | with_reducible refine dops_go ?_ | with_reducible refine OKv_go ?_ | with_reducible refine OKr_go ?_); simp [-cellOK, intsAV, linksAV, a2, a3, tp_cells])); repeat' (first | refine awp_seq ?_ | refine awp_block ?_ | (refine awp_skip ?_; try simp) | (refine awp_exit ?_; try simp) | (refine awp_ret ?_; try simp) | (refine retP_same (by simp) ?_; simp) | (refine retP_no (by simp) (by simp [noIds]) (by repeat (first | assumption | exact Ext.refl _ | refine ext_new' ?_ | refine Ext.setF ?_ (by first | assumption | (simp [new_nx', St.set, fresh_none]; done) | exact ext_fresh (by assumption)))) ?_; simp [-cellOK, intsAV, linksAV, a2, a3, tp_cells, new_m, set_m, new_nx']) | ((first | refine awp_reg ?_ | refine awp_drawT (fun _ => false) mixed (by decide +kernel) ?_ | refine awp_drawT isCallO mixed (by decide +kernel) ?_); simp [-cellOK, intsAV, linksAV, a2, a3, tp_cells]) | (refine guarded_split ?_ ?_ <;> (intro hg; simp only [hg]; simp [-cellOK, intsAV, linksAV, a2, a3, tp_cells])) | (apply awp_cond_t; focus (simp [-cellOK, intsAV, linksAV, a2, a3, tp_cells]; done)) | (apply awp_cond_f; focus (simp [-cellOK, intsAV, linksAV, a2, a3, tp_cells]; done)) | (refine awp_cond ?_; simp [-cellOK, intsAV, linksAV, a2, a3, tp_cells]; refine ⟨?_, ?_⟩ <;> intro hc) | fail)
        refine awp_loopH (fun n B π => π = ρ ∧ B 2 = .pp (tpAV x fx).cells 0 ∧ B 3 = .pp (tpAV y fy).cells 0 ∧ ∃ i : Nat, B 6 = .raw (.int .i64 i) ∧ i ≤ y.links.length ∧ n = y.links.length - i ∧ x.links.take i = y.links.take i) y.links.length ?_ ?_
        · exact ⟨rfl, by simp [a2], by simp [a3], 0, by simp, by omega, by omega, by simp⟩
        rintro n B π ⟨rfl, a2, a3, i, a6, hi, rfl, htk⟩ I1 hI1
        by_cases hlt : i < y.links.length
        · have hlx : i < x.links.length := by omega
          have hx : x.links[i]? = some x.links[i] := List.getElem?_eq_getElem hlx
          have hy : y.links[i]? = some y.links[i] := List.getElem?_eq_getElem hlt
          have w1 : IntKind.i64.wrap ((i : Int) + 1) = ((i + 1 : Nat) : Int) := by rw [wrap64 (by omega) (by omega)]; omega
          have fx_ : AV.agg [.raw (.int .i64 x.links[i].a.dev), .raw (.int .i64 x.links[i].a.port), .raw (.int .i64 x.links[i].b.dev), .raw (.int .i64 x.links[i].b.port)] = lkAV x.links[i] := rfl
          have fy_ : AV.agg [.raw (.int .i64 y.links[i].a.dev), .raw (.int .i64 y.links[i].a.port), .raw (.int .i64 y.links[i].b.dev), .raw (.int .i64 y.links[i].b.port)] = lkAV y.links[i] := rfl
          by_cases he : x.links[i] = y.links[i]
          · skip
            (try ((first | with_reducible refine dops_go ?_ | with_reducible refine OKv_go ?_ | with_reducible refine OKr_go ?_); simp [-cellOK, tp_cells, linksAV, a2, a3, a6, hlt, hlx, hlen2, hx, hy, lk_cells, fx_, fy_, lk_neq, opBin_raw, -opBin, he, w1])); repeat' (first | refine awp_seq ?_ | refine awp_block ?_ | (refine awp_skip ?_; try simp) | (refine awp_exit ?_; try simp) | (refine awp_ret ?_; try simp) | (refine retP_same (by simp) ?_; simp) | (refine retP_no (by simp) (by simp [noIds]) (by repeat (first | assumption | exact Ext.refl _ | refine ext_new' ?_ | refine Ext.setF ?_ (by first | assumption | (simp [new_nx', St.set, fresh_none]; done) | exact ext_fresh (by assumption)))) ?_; simp [-cellOK, tp_cells, linksAV, a2, a3, a6, hlt, hlx, hlen2, hx, hy, lk_cells, fx_, fy_, lk_neq, opBin_raw, -opBin, he, w1, new_m, set_m, new_nx']) | ((first | refine awp_reg ?_ | refine awp_drawT (fun _ => false) mixed (by decide +kernel) ?_ | refine awp_drawT isCallO mixed (by decide +kernel) ?_); simp [-cellOK, tp_cells, linksAV, a2, a3, a6, hlt, hlx, hlen2, hx, hy, lk_cells, fx_, fy_, lk_neq, opBin_raw, -opBin, he, w1]) | (refine guarded_split ?_ ?_ <;> (intro hg; simp only [hg]; simp [-cellOK, tp_cells, linksAV, a2, a3, a6, hlt, hlx, hlen2, hx, hy, lk_cells, fx_, fy_, lk_neq, opBin_raw, -opBin, he, w1])) | (apply awp_cond_t; focus (simp [-cellOK, tp_cells, linksAV, a2, a3, a6, hlt, hlx, hlen2, hx, hy, lk_cells, fx_, fy_, lk_neq, opBin_raw, -opBin, he, w1]; done)) | (apply awp_cond_f; focus (simp [-cellOK, tp_cells, linksAV, a2, a3, a6, hlt, hlx, hlen2, hx, hy, lk_cells, fx_, fy_, lk_neq, opBin_raw, -opBin, he, w1]; done)) | (refine awp_cond ?_; simp [-cellOK, tp_cells, linksAV, a2, a3, a6, hlt, hlx, hlen2, hx, hy, lk_cells, fx_, fy_, lk_neq, opBin_raw, -opBin, he, w1]; refine ⟨?_, ?_⟩ <;> intro hc) | fail)
            all_goals exact hI1 (y.links.length - (i + 1)) _ _ (by omega) ⟨rfl, by simp [a2], by simp [a3], i + 1, by simp [w1], by omega, rfl, take_eq htk hx (by rw [hy, he])⟩
          · have hne : ¬ x = y := fun e => he (by subst e; rfl)
            (try ((first | with_reducible refine dops_go ?_ | with_reducible refine OKv_go ?_ | with_reducible refine OKr_go ?_); simp [-cellOK, tp_cells, linksAV, a2, a3, a6, hlt, hlx, hlen2, hx, hy, lk_cells, fx_, fy_, lk_neq, opBin_raw, -opBin, he, w1, hne])); repeat' (first | refine awp_seq ?_ | refine awp_block ?_ | (refine awp_skip ?_; try simp) | (refine awp_exit ?_; try simp) | (refine awp_ret ?_; try simp) | (refine retP_same (by simp) ?_; simp) | (refine retP_no (by simp) (by simp [noIds]) (by repeat (first | assumption | exact Ext.refl _ | refine ext_new' ?_ | refine Ext.setF ?_ (by first | assumption | (simp [new_nx', St.set, fresh_none]; done) | exact ext_fresh (by assumption)))) ?_; simp [-cellOK, tp_cells, linksAV, a2, a3, a6, hlt, hlx, hlen2, hx, hy, lk_cells, fx_, fy_, lk_neq, opBin_raw, -opBin, he, w1, hne, new_m, set_m, new_nx']) | ((first | refine awp_reg ?_ | refine awp_drawT (fun _ => false) mixed (by decide +kernel) ?_ | refine awp_drawT isCallO mixed (by decide +kernel) ?_); simp [-cellOK, tp_cells, linksAV, a2, a3, a6, hlt, hlx, hlen2, hx, hy, lk_cells, fx_, fy_, lk_neq, opBin_raw, -opBin, he, w1, hne]) | (refine guarded_split ?_ ?_ <;> (intro hg; simp only [hg]; simp [-cellOK, tp_cells, linksAV, a2, a3, a6, hlt, hlx, hlen2, hx, hy, lk_cells, fx_, fy_, lk_neq, opBin_raw, -opBin, he, w1, hne])) | (apply awp_cond_t; focus (simp [-cellOK, tp_cells, linksAV, a2, a3, a6, hlt, hlx, hlen2, hx, hy, lk_cells, fx_, fy_, lk_neq, opBin_raw, -opBin, he, w1, hne]; done)) | (apply awp_cond_f; focus (simp [-cellOK, tp_cells, linksAV, a2, a3, a6, hlt, hlx, hlen2, hx, hy, lk_cells, fx_, fy_, lk_neq, opBin_raw, -opBin, he, w1, hne]; done)) | (refine awp_cond ?_; simp [-cellOK, tp_cells, linksAV, a2, a3, a6, hlt, hlx, hlen2, hx, hy, lk_cells, fx_, fy_, lk_neq, opBin_raw, -opBin, he, w1, hne]; refine ⟨?_, ?_⟩ <;> intro hc) | fail)
        · have : i = y.links.length := by omega
          subst this
          have hxy : x.links = y.links := by
            rw [List.take_length, ← hlen2, List.take_length] at htk; exact htk
          have hall : x = y := by cases x; cases y; simp only [Tp.mk.injEq]; exact ⟨hp, hxy⟩
          (try ((first | with_reducible refine dops_go ?_ | with_reducible refine OKv_go ?_ | with_reducible refine OKr_go ?_); simp [-cellOK, tp_cells, linksAV, a2, a3, a6, hlen2, hall])); repeat' (first | refine awp_seq ?_ | refine awp_block ?_ | (refine awp_skip ?_; try simp) | (refine awp_exit ?_; try simp) | (refine awp_ret ?_; try simp) | (refine retP_same (by simp) ?_; simp) | (refine retP_no (by simp) (by simp [noIds]) (by repeat (first | assumption | exact Ext.refl _ | refine ext_new' ?_ | refine Ext.setF ?_ (by first | assumption | (simp [new_nx', St.set, fresh_none]; done) | exact ext_fresh (by assumption)))) ?_; simp [-cellOK, tp_cells, linksAV, a2, a3, a6, hlen2, hall, new_m, set_m, new_nx']) | ((first | refine awp_reg ?_ | refine awp_drawT (fun _ => false) mixed (by decide +kernel) ?_ | refine awp_drawT isCallO mixed (by decide +kernel) ?_); simp [-cellOK, tp_cells, linksAV, a2, a3, a6, hlen2, hall]) | (refine guarded_split ?_ ?_ <;> (intro hg; simp only [hg]; simp [-cellOK, tp_cells, linksAV, a2, a3, a6, hlen2, hall])) | (apply awp_cond_t; focus (simp [-cellOK, tp_cells, linksAV, a2, a3, a6, hlen2, hall]; done)) | (apply awp_cond_f; focus (simp [-cellOK, tp_cells, linksAV, a2, a3, a6, hlen2, hall]; done)) | (refine awp_cond ?_; simp [-cellOK, tp_cells, linksAV, a2, a3, a6, hlen2, hall]; refine ⟨?_, ?_⟩ <;> intro hc) | fail)
    · have hli2 : ¬ (x.links.length : Int) = (y.links.length : Int) := by omega
      have no := no (.inr hlen2)
      (try ((first | with_reducible refine dops_go ?_ | with_reducible refine OKv_go ?_ | with_reducible refine OKr_go ?_); simp [-cellOK, intsAV, linksAV, a2, a3, tp_cells, hlen, hli, hlen2, hli2, no])); repeat' (first | refine awp_seq ?_ | refine awp_block ?_ | (refine awp_skip ?_; try simp) | (refine awp_exit ?_; try simp) | (refine awp_ret ?_; try simp) | (refine retP_same (by simp) ?_; simp) | (refine retP_no (by simp) (by simp [noIds]) (by repeat (first | assumption | exact Ext.refl _ | refine ext_new' ?_ | refine Ext.setF ?_ (by first | assumption | (simp [new_nx', St.set, fresh_none]; done) | exact ext_fresh (by assumption)))) ?_; simp [-cellOK, intsAV, linksAV, a2, a3, tp_cells, hlen, hli, hlen2, hli2, no, new_m, set_m, new_nx']) | ((first | refine awp_reg ?_ | refine awp_drawT (fun _ => false) mixed (by decide +kernel) ?_ | refine awp_drawT isCallO mixed (by decide +kernel) ?_); simp [-cellOK, intsAV, linksAV, a2, a3, tp_cells, hlen, hli, hlen2, hli2, no]) | (refine guarded_split ?_ ?_ <;> (intro hg; simp only [hg]; simp [-cellOK, intsAV, linksAV, a2, a3, tp_cells, hlen, hli, hlen2, hli2, no])) | (apply awp_cond_t; focus (simp [-cellOK, intsAV, linksAV, a2, a3, tp_cells, hlen, hli, hlen2, hli2, no]; done)) | (apply awp_cond_f; focus (simp [-cellOK, intsAV, linksAV, a2, a3, tp_cells, hlen, hli, hlen2, hli2, no]; done)) | (refine awp_cond ?_; simp [-cellOK, intsAV, linksAV, a2, a3, tp_cells, hlen, hli, hlen2, hli2, no]; refine ⟨?_, ?_⟩ <;> intro hc) | fail)
  · have hli : ¬ (x.ports.length : Int) = (y.ports.length : Int) := by omega
    have no := no (.inl hlen)
    (try ((first | with_reducible refine dops_go ?_ | with_reducible refine OKv_go ?_ | with_reducible refine OKr_go ?_); simp [-cellOK, intsAV, linksAV, a2, a3, tp_cells, hlen, hli, no])); repeat' (first | refine awp_seq ?_ | refine awp_block ?_ | (refine awp_skip ?_; try simp) | (refine awp_exit ?_; try simp) | (refine awp_ret ?_; try simp) | (refine retP_same (by simp) ?_; simp) | (refine retP_no (by simp) (by simp [noIds]) (by repeat (first | assumption | exact Ext.refl _ | refine ext_new' ?_ | refine Ext.setF ?_ (by first | assumption | (simp [new_nx', St.set, fresh_none]; done) | exact ext_fresh (by assumption)))) ?_; simp [-cellOK, intsAV, linksAV, a2, a3, tp_cells, hlen, hli, no, new_m, set_m, new_nx']) | ((first | refine awp_reg ?_ | refine awp_drawT (fun _ => false) mixed (by decide +kernel) ?_ | refine awp_drawT isCallO mixed (by decide +kernel) ?_); simp [-cellOK, intsAV, linksAV, a2, a3, tp_cells, hlen, hli, no]) | (refine guarded_split ?_ ?_ <;> (intro hg; simp only [hg]; simp [-cellOK, intsAV, linksAV, a2, a3, tp_cells, hlen, hli, no])) | (apply awp_cond_t; focus (simp [-cellOK, intsAV, linksAV, a2, a3, tp_cells, hlen, hli, no]; done)) | (apply awp_cond_f; focus (simp [-cellOK, intsAV, linksAV, a2, a3, tp_cells, hlen, hli, no]; done)) | (refine awp_cond ?_; simp [-cellOK, intsAV, linksAV, a2, a3, tp_cells, hlen, hli, no]; refine ⟨?_, ?_⟩ <;> intro hc) | fail)
end Go.Proofs.YtanimmdlgmkmkaaGreat.Av


/- Zones in plain Lean: what joining the wanted cuts comes to; counting. -/
namespace Go.Proofs.YtanimmdlgmkmkaaGreat.Av.Zn
set_option linter.unusedSimpArgs false
set_option linter.unusedVariables false

theorem cf_spec (all : List Int) : ∀ (n : Nat) (last : Int), above all last ≤ n →
    (∀ c ∈ cutsFrom all n last, c ∈ all ∧ last < c ∧ c < 4294967296) ∧
    (∀ a ∈ all, last < a → a < 4294967296 → ∃ d, (cutsFrom all n last)[0]? = some d ∧ d ≤ a) ∧
    (∀ (i : Nat) (c : Int), (cutsFrom all n last)[i]? = some c → ∀ a ∈ all, c < a → a < 4294967296 → ∃ d, (cutsFrom all n last)[i + 1]? = some d ∧ d ≤ a) ∧
    (∀ (i : Nat) (c d : Int), (cutsFrom all n last)[i]? = some c → (cutsFrom all n last)[i + 1]? = some d → c < d)
  | 0, last, h => by
    refine ⟨(fun c hc => by simp [cutsFrom] at hc), fun a ha h1 h2 => ?_, (fun i c hc => by simp [cutsFrom] at hc), (fun i c d hc => by simp [cutsFrom] at hc)⟩
    have : 0 < above all last := by
      unfold above
      exact List.length_pos_of_mem (List.mem_filter.2 ⟨ha, by simp [h1, h2]⟩)
    omega
  | n + 1, last, h => by
    obtain ⟨n1, n2, n3⟩ := nextCut_is all last
    unfold cutsFrom
    by_cases hx : nextCut all last ≤ 4294967295
    · rw [if_pos hx]
      have hlt := above_lt hx
      have n1 := n1.resolve_left (by omega)
      obtain ⟨h1, h2, h3, h4⟩ := cf_spec all n (nextCut all last) (by omega)
      generalize nextCut all last = x at *
      refine ⟨fun c hc => ?_, fun a ha q1 q2 => ⟨x, rfl, n3 a ha q1⟩, fun i c hc a ha q1 q2 => ?_, fun i c d hc hd => ?_⟩
      · rcases List.mem_cons.1 hc with rfl | hc
        · exact n1
        · have := h1 c hc; exact ⟨this.1, by omega, this.2.2⟩
      · cases i with
        | zero => simp at hc; subst hc; simpa using h2 a ha q1 q2
        | succ i => simpa using h3 i c (by simpa using hc) a ha q1 q2
      · cases i with
        | zero =>
          simp at hc; subst hc
          have := h1 d (List.mem_of_getElem? (by simpa using hd))
          exact this.2.1
        | succ i => exact h4 i c d (by simpa using hc) (by simpa using hd)
    · rw [if_neg hx]
      refine ⟨(fun c hc => by cases hc), fun a ha q1 q2 => ?_, (fun i c hc => by simp at hc), (fun i c d hc => by simp at hc)⟩
      have := n3 a ha q1; omega
theorem cutsAll_mem {l : List Rg} {a : Int} : a ∈ cutsAll l ↔ a = 0 ∨ ∃ r ∈ l, a = r.lo ∨ a = r.hi + 1 := by
  unfold cutsAll; simp
structure Cuts (l : List Rg) (C : List Int) : Prop where
  rng : ∀ c ∈ C, 0 ≤ c ∧ c < 4294967296
  zero : C[0]? = some 0
  up : ∀ (i : Nat) (c d : Int), C[i]? = some c → C[i + 1]? = some d → c < d
  full : ∀ (i : Nat) (c : Int), C[i]? = some c → ∀ a ∈ cutsAll l, c < a → a < 4294967296 → ∃ d, C[i + 1]? = some d ∧ d ≤ a
theorem cuts_of (l : List Rg) (hz : InZ l) : Cuts l (cutsOf l) := by
  obtain ⟨h1, h2, h3, h4⟩ := cf_spec (cutsAll l) (above (cutsAll l) (-1)) (-1) (Nat.le_refl _)
  have hr : ∀ c ∈ cutsOf l, 0 ≤ c ∧ c < 4294967296 := fun c hc => by have := h1 c hc; omega
  refine ⟨hr, ?_, h4, h3⟩
  obtain ⟨d, hd, hle⟩ := h2 0 (cutsAll_mem.2 (.inl rfl)) (by omega) (by omega)
  have := hr d (List.mem_of_getElem? hd)
  rw [show (cutsOf l)[0]? = some d from hd, show d = 0 by omega]
def nextOf (C : List Int) (i : Nat) : Int := match C[i]? with | some c => c | none => 4294967296
theorem endOf_next (C : List Int) (i : Nat) : endOf C i = nextOf C (i + 1) - 1 := by
  unfold endOf nextOf
  cases C[i + 1]? <;> simp
theorem Cuts.hasB {l m : List Rg} {C : List Int} (h : Cuts l C) (hm : ∀ r ∈ m, r ∈ l) (hz : InZ m) {i : Nat} {c a : Int} (hc : C[i]? = some c) (h1 : c ≤ a) (h2 : a ≤ endOf C i) : hasB m a = hasB m c := by
  have no : ∀ x ∈ cutsAll l, ¬ (c < x ∧ x ≤ a) := fun x hx k => by
    have ha : a < 4294967296 := by
      rw [endOf_next] at h2
      have : nextOf C (i + 1) ≤ 4294967296 := by
        unfold nextOf; split
        · rename_i d hd; have := h.rng d (List.mem_of_getElem? hd); omega
        · omega
      omega
    obtain ⟨d, hd, hle⟩ := h.full i c hc x hx k.1 (by omega)
    rw [endOf_next] at h2
    unfold nextOf at h2
    rw [hd] at h2
    simp only [] at h2
    omega
  unfold Zn.hasB
  rw [Bool.eq_iff_iff, List.any_eq_true, List.any_eq_true]
  have hc0 := h.rng c (List.mem_of_getElem? hc)
  constructor
  · rintro ⟨r, hr, k⟩
    refine ⟨r, hr, ?_⟩
    simp only [Bool.and_eq_true, decide_eq_true_eq] at k ⊢
    have n1 := no r.lo (cutsAll_mem.2 (.inr ⟨r, hm r hr, .inl rfl⟩))
    omega
  · rintro ⟨r, hr, k⟩
    refine ⟨r, hr, ?_⟩
    simp only [Bool.and_eq_true, decide_eq_true_eq] at k ⊢
    have n1 := no (r.hi + 1) (cutsAll_mem.2 (.inr ⟨r, hm r hr, .inr rfl⟩))
    omega
/-- The document's zone of ranges. -/
def refOfZ (l : List Rg) : List Rg := joins (hasB l) (cutsOf l) (cutsOf l).length
def refBothZ (how : Int) (x y : List Rg) : List Rg := joins (fun a => howP how (hasB x a) (hasB y a)) (cutsOf (x ++ y)) (cutsOf (x ++ y)).length
end Go.Proofs.YtanimmdlgmkmkaaGreat.Av.Zn


/- The document's cuts are the cuts; its ranges and atoms. -/
namespace Go.Proofs.YtanimmdlgmkmkaaGreat.Av
open Go
set_option linter.unusedSimpArgs false
set_option linter.unusedVariables false
set_option maxRecDepth 100000
set_option maxHeartbeats 4000000
set_option pp.maxSteps 600

theorem nextCut_mem (all : List Int) (last : Int) : Zn.nextCut all last = 4294967296 ∨ Zn.nextCut all last ∈ all := by
  unfold Zn.nextCut
  have key : ∀ (l : List Int) (n : Int), l.foldl (fun next a => if last < a ∧ a < next then a else next) n = n ∨ l.foldl (fun next a => if last < a ∧ a < next then a else next) n ∈ l := by
    intro l
    induction l with
    | nil => intro n; exact .inl rfl
    | cons x l ih =>
      intro n
      rw [List.foldl_cons]
      rcases ih (if last < x ∧ x < n then x else n) with h | h
      · rw [h]
        split
        · exact .inr (by simp)
        · exact .inl rfl
      · exact .inr (List.mem_cons_of_mem _ h)
  exact key all _
theorem cutsFrom_mem (all : List Int) : ∀ (n : Nat) (last : Int), ∀ c ∈ Zn.cutsFrom all n last, c ∈ all
  | 0, _, c, h => by simp [Zn.cutsFrom] at h
  | n + 1, last, c, h => by
    unfold Zn.cutsFrom at h
    split at h
    · rename_i hle
      rcases List.mem_cons.1 h with rfl | h
      · rcases nextCut_mem all last with e | e
        · omega
        · exact e
      · exact cutsFrom_mem all n _ c h
    · simp at h
theorem cutsOf_eq {l : List Rg} (h : ∀ r ∈ l, RgOK r) : Zn.cutsOf l = cutsL l := by
  have hz : Zn.InZ l := fun r hr => ⟨(h r hr).lo0, (h r hr).lo1, (h r hr).hi0, (h r hr).hi1⟩
  have hC := Zn.cuts_of l hz
  have hsub : ∀ c ∈ Zn.cutsOf l, c ∈ Zn.cutsAll l := cutsFrom_mem _ _ _
  have hL := cutsL_cuts l
  have hup : (Zn.cutsOf l).Pairwise (· < ·) := by
    have key : ∀ (C : List Int), (∀ (i : Nat) (c d : Int), C[i]? = some c → C[i + 1]? = some d → c < d) → C.Pairwise (· < ·) := by
      intro C
      induction C with
      | nil => intro _; exact .nil
      | cons x C ih =>
        intro hu
        have ih := ih fun i c d h1 h2 => hu (i + 1) c d (by simpa using h1) (by simpa using h2)
        refine List.pairwise_cons.2 ⟨fun y hy => ?_, ih⟩
        cases C with
        | nil => simp at hy
        | cons z C =>
          have h0 := hu 0 x z rfl rfl
          rcases List.mem_cons.1 hy with rfl | hy
          · exact h0
          · have := (List.pairwise_cons.1 ih).1 y hy
            omega
    exact key _ hC.up
  refine cuts_unique hup hL.srt fun x => ?_
  rw [hL.mem]
  constructor
  · intro hx
    have h1 := hsub x hx
    have h2 := hC.rng x hx
    rcases Zn.cutsAll_mem.1 h1 with rfl | ⟨r, hr, e⟩
    · exact .inl rfl
    · refine .inr ⟨r, hr, ?_⟩
      unfold endsR
      rcases e with rfl | rfl
      · split <;> simp
      · rw [if_pos (by omega)]; simp
  · intro hx
    have hin : x ∈ Zn.cutsAll l ∧ 0 ≤ x ∧ x < 4294967296 := by
      rcases hx with rfl | ⟨r, hr, e⟩
      · exact ⟨Zn.cutsAll_mem.2 (.inl rfl), by omega, by omega⟩
      · obtain ⟨a1, a2, a3, a4⟩ := h r hr
        unfold endsR at e
        split at e
        · simp only [List.mem_cons, List.not_mem_nil, or_false] at e
          rcases e with rfl | rfl
          · exact ⟨Zn.cutsAll_mem.2 (.inr ⟨r, hr, .inl rfl⟩), by omega, by omega⟩
          · exact ⟨Zn.cutsAll_mem.2 (.inr ⟨r, hr, .inr rfl⟩), by omega, by omega⟩
        · simp only [List.mem_cons, List.not_mem_nil, or_false] at e
          subst e
          exact ⟨Zn.cutsAll_mem.2 (.inr ⟨r, hr, .inl rfl⟩), by omega, by omega⟩
    obtain ⟨h1, h2, h3⟩ := hin
    have step : ∀ k, k ≤ (Zn.cutsOf l).length → x ∈ Zn.cutsOf l ∨ ∀ i, i < k → ∀ c, (Zn.cutsOf l)[i]? = some c → c < x := by
      intro k
      induction k with
      | zero => intro _; exact .inr fun i hi => by omega
      | succ k ih =>
        intro hk
        rcases ih (by omega) with hm | hb
        · exact .inl hm
        · have hc : (Zn.cutsOf l)[k]? = some (Zn.cutsOf l)[k] := List.getElem?_eq_getElem (by omega)
          by_cases e : (Zn.cutsOf l)[k] = x
          · exact .inl (e ▸ List.getElem_mem _)
          · by_cases hlt : (Zn.cutsOf l)[k] < x
            · refine .inr fun i hi c hi2 => ?_
              by_cases e2 : i = k
              · subst e2; rw [hc] at hi2; injection hi2 with hi2; omega
              · exact hb i (by omega) c hi2
            · left
              cases k with
              | zero =>
                have h0 := hC.zero
                rw [hc] at h0
                injection h0 with h0
                omega
              | succ j =>
                have hj : (Zn.cutsOf l)[j]? = some (Zn.cutsOf l)[j] := List.getElem?_eq_getElem (by omega)
                have hlj := hb j (by omega) _ hj
                obtain ⟨d, hd, hle⟩ := hC.full j _ hj x h1 hlj h3
                rw [hc] at hd
                injection hd with hd
                omega
    rcases step _ (Nat.le_refl _) with hm | hb
    · exact hm
    · exfalso
      have hne : 0 < (Zn.cutsOf l).length := (List.getElem?_eq_some_iff.1 hC.zero).1
      have hlast : (Zn.cutsOf l)[(Zn.cutsOf l).length - 1]? = some (Zn.cutsOf l)[(Zn.cutsOf l).length - 1] := List.getElem?_eq_getElem (by omega)
      have hlt := hb _ (by omega) _ hlast
      obtain ⟨d, hd, _⟩ := hC.full _ _ hlast x h1 hlt h3
      have := (List.getElem?_eq_some_iff.1 hd).1
      omega
theorem refCuts_calls (l : List Rg) (f : Bool) (hz : ∀ r ∈ l, RgOK r) (hl : l.length < 2 ^ 30) : PCalls Tryz.prog 113 [rgsAV l f] (intsAV (cutsL l) false) := by
  have := Zn.cuts_calls l f (fun r hr => ⟨(hz r hr).lo0, (hz r hr).lo1, (hz r hr).hi0, (hz r hr).hi1⟩) hl
  rw [cutsOf_eq hz] at this
  exact this
def endC (c : List Int) (i : Nat) : Int := match c[i + 1]? with | some y => y - 1 | none => 4294967295
theorem refEnd_calls (c : List Int) (f : Bool) (i : Nat) (hl : c.length < 2 ^ 60) (hi : i < 2 ^ 60) (hC : ∀ x ∈ c, 0 ≤ x ∧ x ≤ 4294967296) : PCalls Tryz.prog 114 [intsAV c f, .raw (.int .i64 i)] (.raw (.int .i64 (endC c i))) := Zn.end_calls c f i hl hi hC
theorem atomsC_at (c : List Int) (i : Nat) : (atomsC c)[i]? = (c[i]?).map fun x => ⟨x, endC c i⟩ := atomsC_get c i
end Go.Proofs.YtanimmdlgmkmkaaGreat.Av


/- The document's ranges and atoms of a network; labels that are those of a network. -/
namespace Go.Proofs.YtanimmdlgmkmkaaGreat.Av
open Go
set_option linter.unusedSimpArgs false
set_option linter.unusedVariables false
set_option maxRecDepth 100000
set_option maxHeartbeats 4000000
set_option pp.maxSteps 600

theorem refRanges_calls (n : Nw) (f : Fl) (hl : n.rules.length < 2 ^ 40) : PCalls Tryz.prog 112 [nwAV n f] (rgsAV (rgsN n) false) := by
  refine pbody Tryz.func112 rfl (N := 22) rfl rfl (by simp) (rgs_ids _ _ _) fun σ => ?_
  have f1 : σ.m ⟨1, σ.nx 1, 3⟩ = none := fresh_none _ _ _
  refine awp_seq ?_
  refine awp_reg ?_
  simp [nw_cells]
  refine awp_freeze ⟨1, σ.nx 1, 3⟩ ?_
  generalize hτ : St.del _ _ = τ
  generalize hA : (fun t => giveUp _ _ _) = A
  have a1 : A 1 = .pp (nwAV n f).cells 0 := by rw [← hA, ← hτ]; simp [giveUp, St.new, St.del, nw_cells]
  have hE : Ext σ τ := by
    rw [← hτ]
    refine ⟨fun i o h => ?_, fun s => ?_⟩
    · have q2 : i ≠ ⟨1, σ.nx 1, 3⟩ := fun e => by rw [e, f1] at h; cases h
      simp [St.del, St.new, q2, h]
    · simp only [St.del, St.new]
      repeat' split
      all_goals omega
  clear hτ hA
  (try ((first | with_reducible refine dops_go ?_ | with_reducible refine OKv_go ?_ | with_reducible refine OKr_go ?_); simp [-cellOK, nw_cells, a1])); repeat' (first | refine awp_seq ?_ | refine awp_block ?_ | (refine awp_skip ?_; try simp) | (refine awp_exit ?_; try simp) | (refine awp_ret ?_; try simp) | (refine retP_same (by simp) ?_; simp) | (refine retP_no (by simp) (by simp [noIds]) (by repeat (first | assumption | exact Ext.refl _ | refine ext_new' ?_ | refine Ext.setF ?_ (by first | assumption | (simp [new_nx', St.set, fresh_none]; done) | exact ext_fresh (by assumption)))) ?_; simp [-cellOK, nw_cells, a1, new_m, set_m, new_nx']) | ((first | refine awp_reg ?_ | refine awp_drawT (fun _ => false) mixed (by decide +kernel) ?_ | refine awp_drawT isCallO mixed (by decide +kernel) ?_); simp [-cellOK, nw_cells, a1]) | (refine guarded_split ?_ ?_ <;> (intro hg; simp only [hg]; simp [-cellOK, nw_cells, a1])) | (apply awp_cond_t; focus (simp [-cellOK, nw_cells, a1]; done)) | (apply awp_cond_f; focus (simp [-cellOK, nw_cells, a1]; done)) | (refine awp_cond ?_; simp [-cellOK, nw_cells, a1]; refine ⟨?_, ?_⟩ <;> intro hc) | fail)
  refine awp_loopH (fun n' B ρ => Ext σ ρ ∧ B 1 = .pp (nwAV n f).cells 0 ∧ ∃ (i : Nat) (v : AV), B 4 = .raw (.int .i64 i) ∧ i ≤ n.rules.length ∧ n' = n.rules.length - i ∧ B 3 = v ∧ OwnL σ ρ 2 v ((rgsN n).take i |>.map rgAV)) n.rules.length ?_ ?_
  · exact ⟨hE, by simp [a1], 0, .sl 0 [] true, by simp, by omega, by omega, by simp, .inl ⟨by simp, rfl⟩⟩
  clear a1 hE
  rintro n' B ρ ⟨hE, a1, i, v, a4, hi, rfl, a3, hO⟩ I1 hI1
  by_cases hlt : i < n.rules.length
  · have hx : n.rules[i]? = some n.rules[i] := List.getElem?_eq_getElem hlt
    have w1 : IntKind.i64.wrap ((i : Int) + 1) = ((i + 1 : Nat) : Int) := by rw [wrap64 (by omega) (by omega)]; omega
    obtain ⟨x, hxe⟩ : ∃ x, n.rules[i] = x := ⟨_, rfl⟩
    have hxr : AV.agg [.raw (.int .u32 x.r.lo), .raw (.int .u32 x.r.hi)] = rgAV x.r := rfl
    have htk : (rgsN n).take (i + 1) = (rgsN n).take i ++ [x.r] := by
      unfold rgsN
      rw [List.take_add_one, List.getElem?_map, hx, hxe]; rfl
    (try ((first | with_reducible refine dops_go ?_ | with_reducible refine OKv_go ?_ | with_reducible refine OKr_go ?_); simp [-cellOK, nw_cells, rulesAV, a1, a3, a4, hlt, hx, hxe, ru_cells, hxr, rg_cells, new_m, set_m, new_nx', -opAppend])); repeat' (first | refine awp_seq ?_ | refine awp_block ?_ | (refine awp_skip ?_; try simp) | (refine awp_exit ?_; try simp) | (refine awp_ret ?_; try simp) | ((first | refine awp_reg ?_ | refine awp_drawT (fun _ => false) mixed (by decide +kernel) ?_ | refine awp_drawT isCallO mixed (by decide +kernel) ?_); simp [-cellOK, nw_cells, rulesAV, a1, a3, a4, hlt, hx, hxe, ru_cells, hxr, rg_cells, new_m, set_m, new_nx', -opAppend]) | (refine guarded_split ?_ ?_ <;> (intro hg; simp only [hg]; simp [-cellOK, nw_cells, rulesAV, a1, a3, a4, hlt, hx, hxe, ru_cells, hxr, rg_cells, new_m, set_m, new_nx', -opAppend])) | (apply awp_cond_t; focus (simp [-cellOK, nw_cells, rulesAV, a1, a3, a4, hlt, hx, hxe, ru_cells, hxr, rg_cells, new_m, set_m, new_nx', -opAppend]; done)) | (apply awp_cond_f; focus (simp [-cellOK, nw_cells, rulesAV, a1, a3, a4, hlt, hx, hxe, ru_cells, hxr, rg_cells, new_m, set_m, new_nx', -opAppend]; done)) | (refine awp_cond ?_; simp [-cellOK, nw_cells, rulesAV, a1, a3, a4, hlt, hx, hxe, ru_cells, hxr, rg_cells, new_m, set_m, new_nx', -opAppend]; refine ⟨?_, ?_⟩ <;> intro hc) | fail)
    refine okr_append slt85 (σ0 := σ) (hO.ext (by repeat (first | assumption | exact Ext.refl _ | refine ext_new' ?_ | refine Ext.setF ?_ (by first | assumption | (simp [new_nx', St.set, fresh_none]; done) | exact ext_fresh (by assumption))))) (by repeat (first | assumption | exact Ext.refl _ | refine ext_new' ?_ | refine Ext.setF ?_ (by first | assumption | (simp [new_nx', St.set, fresh_none]; done) | exact ext_fresh (by assumption)))) (ys := [rgAV x.r]) (by simp [new_m, new_nx', rg_cells, rgAV]) (.inr rfl) (by simp [rgAV, cellsL, cellsOK, cellOK, AV.cells]) (by simp; omega) ?_
    intro v' τ' hO' hE' _ _
    (try ((first | with_reducible refine dops_go ?_ | with_reducible refine OKv_go ?_ | with_reducible refine OKr_go ?_); simp [-cellOK, a1, a3, a4, w1])); repeat' (first | refine awp_seq ?_ | refine awp_block ?_ | (refine awp_skip ?_; try simp) | (refine awp_exit ?_; try simp) | (refine awp_ret ?_; try simp) | (refine retP_same (by simp) ?_; simp) | (refine retP_no (by simp) (by simp [noIds]) (by repeat (first | assumption | exact Ext.refl _ | refine ext_new' ?_ | refine Ext.setF ?_ (by first | assumption | (simp [new_nx', St.set, fresh_none]; done) | exact ext_fresh (by assumption)))) ?_; simp [-cellOK, a1, a3, a4, w1, new_m, set_m, new_nx']) | ((first | refine awp_reg ?_ | refine awp_drawT (fun _ => false) mixed (by decide +kernel) ?_ | refine awp_drawT isCallO mixed (by decide +kernel) ?_); simp [-cellOK, a1, a3, a4, w1]) | (refine guarded_split ?_ ?_ <;> (intro hg; simp only [hg]; simp [-cellOK, a1, a3, a4, w1])) | (apply awp_cond_t; focus (simp [-cellOK, a1, a3, a4, w1]; done)) | (apply awp_cond_f; focus (simp [-cellOK, a1, a3, a4, w1]; done)) | (refine awp_cond ?_; simp [-cellOK, a1, a3, a4, w1]; refine ⟨?_, ?_⟩ <;> intro hc) | fail)
    refine hI1 (n.rules.length - (i + 1)) _ _ (by omega) ⟨hE', by simp [a1], i + 1, v', by simp, by omega, rfl, by simp, ?_⟩
    rw [htk, List.map_append]
    exact hO'
  · have : i = n.rules.length := by omega
    subst this
    rw [List.take_of_length_le (by unfold rgsN; simp)] at hO
    (try ((first | with_reducible refine dops_go ?_ | with_reducible refine OKv_go ?_ | with_reducible refine OKr_go ?_); simp [-cellOK, nw_cells, rulesAV, a1, a3, a4])); repeat' (first | refine awp_seq ?_ | refine awp_block ?_ | (refine awp_skip ?_; try simp) | (refine awp_exit ?_; try simp) | (refine awp_ret ?_; try simp) | ((first | refine awp_reg ?_ | refine awp_drawT (fun _ => false) mixed (by decide +kernel) ?_ | refine awp_drawT isCallO mixed (by decide +kernel) ?_); simp [-cellOK, nw_cells, rulesAV, a1, a3, a4]) | (refine guarded_split ?_ ?_ <;> (intro hg; simp only [hg]; simp [-cellOK, nw_cells, rulesAV, a1, a3, a4])) | (apply awp_cond_t; focus (simp [-cellOK, nw_cells, rulesAV, a1, a3, a4]; done)) | (apply awp_cond_f; focus (simp [-cellOK, nw_cells, rulesAV, a1, a3, a4]; done)) | (refine awp_cond ?_; simp [-cellOK, nw_cells, rulesAV, a1, a3, a4]; refine ⟨?_, ?_⟩ <;> intro hc) | fail)
    exact retP_own (v := v) (.inr rfl) (by simp) hO hE
/-- The atoms of cuts. -/
theorem refAtoms05_calls (l : List Rg) (f : Bool) (hz : ∀ r ∈ l, RgOK r) (hl : l.length < 2 ^ 30) : PCalls Tryz.prog 135 [rgsAV l f] (rgsAV (atomsC (cutsL l)) false) := by
  have hc := refCuts_calls l f hz hl
  have hrg : ∀ x ∈ cutsL l, 0 ≤ x ∧ x < 4294967296 := fun x hx => (cutsL_cuts l).range hz hx
  have hcl : (cutsL l).length ≤ 1 + 2 * l.length := by
    have hcc := cutsL_cuts l
    have := nodup_le (m := 0 :: endsL l) (hcc.srt.imp fun h => by omega) fun x hx => by
      rw [List.mem_cons]; simp only [endsL, List.mem_flatMap]; exact (hcc.mem x).1 hx
    have := endsL_len l
    simp only [List.length_cons] at *
    omega
  have he := fun (i : Nat) (h : i < 2 ^ 60) => refEnd_calls (cutsL l) false i (by omega) h fun x hx => by have := hrg x hx; omega
  have hs := (cutsL_cuts l).srt
  generalize cutsL l = c at *
  refine pbody Tryz.func135 rfl (N := 28) rfl rfl (by simp) (rgs_ids _ _ _) fun σ => ?_
  (try ((first | with_reducible refine dops_go ?_ | with_reducible refine OKv_go ?_ | with_reducible refine OKr_go ?_); simp [-cellOK])); repeat' (first | refine awp_seq ?_ | refine awp_block ?_ | (refine awp_skip ?_; try simp) | (refine awp_exit ?_; try simp) | (refine awp_ret ?_; try simp) | (refine retP_same (by simp) ?_; simp) | (refine retP_no (by simp) (by simp [noIds]) (by repeat (first | assumption | exact Ext.refl _ | refine ext_new' ?_ | refine Ext.setF ?_ (by first | assumption | (simp [new_nx', St.set, fresh_none]; done) | exact ext_fresh (by assumption)))) ?_; simp [-cellOK, new_m, set_m, new_nx']) | ((first | refine awp_reg ?_ | refine awp_drawT (fun _ => false) mixed (by decide +kernel) ?_ | refine awp_drawT isCallO mixed (by decide +kernel) ?_ | refine PCalls.use (hc) ?_ | refine Or.inl ⟨_, Or.inl (hc), ?_⟩); simp [-cellOK]) | (refine guarded_split ?_ ?_ <;> (intro hg; simp only [hg]; simp [-cellOK])) | (apply awp_cond_t; focus (simp [-cellOK]; done)) | (apply awp_cond_f; focus (simp [-cellOK]; done)) | (refine awp_cond ?_; simp [-cellOK]; refine ⟨?_, ?_⟩ <;> intro hc) | fail)
  refine awp_loopH (fun n' B ρ => Ext σ ρ ∧ B 3 = intsAV c false ∧ ∃ (i : Nat) (v : AV), B 5 = .raw (.int .i64 i) ∧ i ≤ c.length ∧ n' = c.length - i ∧ B 4 = v ∧ OwnL σ ρ 2 v ((atomsC c).take i |>.map rgAV)) c.length ?_ ?_
  · exact ⟨Ext.refl _, by simp, 0, .sl 0 [] true, by simp, by omega, by omega, by simp, .inl ⟨by simp, rfl⟩⟩
  rintro n' B ρ ⟨hE, a3, i, v, a5, hi, rfl, a4, hO⟩ I1 hI1
  by_cases hlt : i < c.length
  · have hx : c[i]? = some c[i] := List.getElem?_eq_getElem hlt
    have w1 : IntKind.i64.wrap ((i : Int) + 1) = ((i + 1 : Nat) : Int) := by rw [wrap64 (by omega) (by omega)]; omega
    have hend := he i (by omega)
    have hxr := hrg c[i] (List.getElem_mem hlt)
    obtain ⟨x, hxe⟩ : ∃ x, c[i] = x := ⟨_, rfl⟩
    rw [hxe] at hxr
    have hyr : 0 ≤ endC c i ∧ endC c i < 4294967296 := by
      unfold endC
      cases hy : c[i + 1]? with
      | none => simp only; omega
      | some y =>
        obtain ⟨h2, rfl⟩ := List.getElem?_eq_some_iff.1 hy
        have := hrg c[i + 1] (List.getElem_mem h2)
        simp only
        have h3 := List.pairwise_iff_getElem.1 hs i (i + 1) hlt h2 (by omega)
        rw [hxe] at h3
        omega
    have htk : (atomsC c).take (i + 1) = (atomsC c).take i ++ [⟨x, endC c i⟩] := by
      rw [List.take_add_one, atomsC_at, hx, hxe]; rfl
    generalize endC c i = y at *
    have w2 : IntKind.u32.wrap x = x := wrapU32 (by omega) (by omega)
    have w3 : IntKind.u32.wrap y = y := wrapU32 (by omega) (by omega)
    (try ((first | with_reducible refine dops_go ?_ | with_reducible refine OKv_go ?_ | with_reducible refine OKr_go ?_); simp [-cellOK, intsAV, iAV, a3, a4, a5, hlt, hx, hxe, w2, w3, new_m, set_m, new_nx', -opAppend])); repeat' (first | refine awp_seq ?_ | refine awp_block ?_ | (refine awp_skip ?_; try simp) | (refine awp_exit ?_; try simp) | (refine awp_ret ?_; try simp) | ((first | refine awp_reg ?_ | refine awp_drawT (fun _ => false) mixed (by decide +kernel) ?_ | refine awp_drawT isCallO mixed (by decide +kernel) ?_ | refine PCalls.use (hend) ?_ | refine Or.inl ⟨_, Or.inl (hend), ?_⟩); simp [-cellOK, intsAV, iAV, a3, a4, a5, hlt, hx, hxe, w2, w3, new_m, set_m, new_nx', -opAppend]) | (refine guarded_split ?_ ?_ <;> (intro hg; simp only [hg]; simp [-cellOK, intsAV, iAV, a3, a4, a5, hlt, hx, hxe, w2, w3, new_m, set_m, new_nx', -opAppend])) | (apply awp_cond_t; focus (simp [-cellOK, intsAV, iAV, a3, a4, a5, hlt, hx, hxe, w2, w3, new_m, set_m, new_nx', -opAppend]; done)) | (apply awp_cond_f; focus (simp [-cellOK, intsAV, iAV, a3, a4, a5, hlt, hx, hxe, w2, w3, new_m, set_m, new_nx', -opAppend]; done)) | (refine awp_cond ?_; simp [-cellOK, intsAV, iAV, a3, a4, a5, hlt, hx, hxe, w2, w3, new_m, set_m, new_nx', -opAppend]; refine ⟨?_, ?_⟩ <;> intro hc) | fail)
    refine okr_append slt85 (σ0 := σ) (hO.ext (by repeat (first | assumption | exact Ext.refl _ | refine ext_new' ?_ | refine Ext.setF ?_ (by first | assumption | (simp [new_nx', St.set, fresh_none]; done) | exact ext_fresh (by assumption))))) (by repeat (first | assumption | exact Ext.refl _ | refine ext_new' ?_ | refine Ext.setF ?_ (by first | assumption | (simp [new_nx', St.set, fresh_none]; done) | exact ext_fresh (by assumption)))) (ys := [rgAV ⟨x, y⟩]) (by simp [new_m, new_nx', rg_cells, rgAV]) (.inr rfl) (by simp [rgAV, cellsL, cellsOK, cellOK, AV.cells]) (by simp; omega) ?_
    intro v' τ' hO' hE' _ _
    (try ((first | with_reducible refine dops_go ?_ | with_reducible refine OKv_go ?_ | with_reducible refine OKr_go ?_); simp [-cellOK, a3, a4, a5, w1])); repeat' (first | refine awp_seq ?_ | refine awp_block ?_ | (refine awp_skip ?_; try simp) | (refine awp_exit ?_; try simp) | (refine awp_ret ?_; try simp) | (refine retP_same (by simp) ?_; simp) | (refine retP_no (by simp) (by simp [noIds]) (by repeat (first | assumption | exact Ext.refl _ | refine ext_new' ?_ | refine Ext.setF ?_ (by first | assumption | (simp [new_nx', St.set, fresh_none]; done) | exact ext_fresh (by assumption)))) ?_; simp [-cellOK, a3, a4, a5, w1, new_m, set_m, new_nx']) | ((first | refine awp_reg ?_ | refine awp_drawT (fun _ => false) mixed (by decide +kernel) ?_ | refine awp_drawT isCallO mixed (by decide +kernel) ?_); simp [-cellOK, a3, a4, a5, w1]) | (refine guarded_split ?_ ?_ <;> (intro hg; simp only [hg]; simp [-cellOK, a3, a4, a5, w1])) | (apply awp_cond_t; focus (simp [-cellOK, a3, a4, a5, w1]; done)) | (apply awp_cond_f; focus (simp [-cellOK, a3, a4, a5, w1]; done)) | (refine awp_cond ?_; simp [-cellOK, a3, a4, a5, w1]; refine ⟨?_, ?_⟩ <;> intro hc) | fail)
    refine hI1 (c.length - (i + 1)) _ _ (by omega) ⟨hE', by simp [a3], i + 1, v', by simp, by omega, rfl, by simp, ?_⟩
    rw [htk, List.map_append]
    exact hO'
  · have : i = c.length := by omega
    subst this
    rw [List.take_of_length_le (by rw [atomsC_len]; omega)] at hO
    (try ((first | with_reducible refine dops_go ?_ | with_reducible refine OKv_go ?_ | with_reducible refine OKr_go ?_); simp [-cellOK, intsAV, a3, a4, a5])); repeat' (first | refine awp_seq ?_ | refine awp_block ?_ | (refine awp_skip ?_; try simp) | (refine awp_exit ?_; try simp) | (refine awp_ret ?_; try simp) | ((first | refine awp_reg ?_ | refine awp_drawT (fun _ => false) mixed (by decide +kernel) ?_ | refine awp_drawT isCallO mixed (by decide +kernel) ?_); simp [-cellOK, intsAV, a3, a4, a5]) | (refine guarded_split ?_ ?_ <;> (intro hg; simp only [hg]; simp [-cellOK, intsAV, a3, a4, a5])) | (apply awp_cond_t; focus (simp [-cellOK, intsAV, a3, a4, a5]; done)) | (apply awp_cond_f; focus (simp [-cellOK, intsAV, a3, a4, a5]; done)) | (refine awp_cond ?_; simp [-cellOK, intsAV, a3, a4, a5]; refine ⟨?_, ?_⟩ <;> intro hc) | fail)
    exact retP_own (v := v) (.inr rfl) (by simp) hO hE
end Go.Proofs.YtanimmdlgmkmkaaGreat.Av


/- label: labels that stand for a network are those that the document has of it. -/
namespace Go.Proofs.YtanimmdlgmkmkaaGreat.Av
open Go
set_option linter.unusedSimpArgs false
set_option linter.unusedVariables false
set_option maxRecDepth 100000
set_option maxHeartbeats 4000000
set_option pp.maxSteps 600

@[simp] theorem regD_o (ops : List Oper) (rcs : Oper → Bool) (o : Oper) : (regD ops rcs o).o = o := rfl
def atomsN (n : Nw) : List Rg := atomsC (cutsL (rgsN n))
theorem refAtoms10_calls (n : Nw) (f : Fl) (hn : NwOK n) (hl : n.rules.length < 2 ^ 30) : PCalls Tryz.prog 80 [nwAV n f] (rgsAV (atomsN n) false) := by
  have h1 := refRanges_calls n f (by omega)
  have h2 := refAtoms05_calls (rgsN n) false (fun r hr => by
    obtain ⟨x, hx, rfl⟩ := List.mem_map.1 hr
    exact hn.rg x hx) (by unfold rgsN; simpa using hl)
  unfold atomsN
  refine pbody Tryz.func80 rfl (N := 6) rfl rfl (by simp) (rgs_ids _ _ _) fun σ => ?_
  generalize atomsC (cutsL (rgsN n)) = A at *
  (try ((first | with_reducible refine dops_go ?_ | with_reducible refine OKv_go ?_ | with_reducible refine OKr_go ?_); simp [-cellOK, nw_cells, nw_fold, new_m, set_m, new_nx'])); repeat' (first | refine awp_seq ?_ | refine awp_block ?_ | (refine awp_skip ?_; try simp) | (refine awp_exit ?_; try simp) | (refine awp_ret ?_; try simp) | (refine retP_same (by simp) ?_; simp) | (refine retP_no (by simp) (by simp [noIds]) (by repeat (first | assumption | exact Ext.refl _ | refine ext_new' ?_ | refine Ext.setF ?_ (by first | assumption | (simp [new_nx', St.set, fresh_none]; done) | exact ext_fresh (by assumption)))) ?_; simp [-cellOK, nw_cells, nw_fold, new_m, set_m, new_nx', new_m, set_m, new_nx']) | ((first | refine awp_reg ?_ | refine awp_drawT (fun _ => false) mixed (by decide +kernel) ?_ | refine awp_drawT isCallO mixed (by decide +kernel) ?_ | refine PCalls.use (h1) ?_ | refine Or.inl ⟨_, Or.inl (h1), ?_⟩ | refine PCalls.use (h2) ?_ | refine Or.inl ⟨_, Or.inl (h2), ?_⟩); simp [-cellOK, nw_cells, nw_fold, new_m, set_m, new_nx']) | (refine guarded_split ?_ ?_ <;> (intro hg; simp only [hg]; simp [-cellOK, nw_cells, nw_fold, new_m, set_m, new_nx'])) | (apply awp_cond_t; focus (simp [-cellOK, nw_cells, nw_fold, new_m, set_m, new_nx']; done)) | (apply awp_cond_f; focus (simp [-cellOK, nw_cells, nw_fold, new_m, set_m, new_nx']; done)) | (refine awp_cond ?_; simp [-cellOK, nw_cells, nw_fold, new_m, set_m, new_nx']; refine ⟨?_, ?_⟩ <;> intro hc) | fail)
theorem rg_eq (a b : Rg) : structEq Tryz.prog 4 33 (rgAV a) (rgAV b) = some (decide (a = b)) := by
  have : decide (a = b) = (decide (a.lo = b.lo) && decide (a.hi = b.hi)) := by
    rcases a with ⟨a1, a2⟩; rcases b with ⟨b1, b2⟩
    rw [Bool.eq_iff_iff]; simp
  rw [this]
  simp [structEq, fieldsEq, rgAV, rowLoad, cellEq]
theorem rg_neq (a b : Rg) : opBin Tryz.prog .neq 33 (rgAV a) (rgAV b) = some (.raw (.bool (!decide (a = b)))) := by
  have e1 : ∀ x y : Rg, opBin Tryz.prog .neq 33 (rgAV x) (rgAV y) = if Tryz.prog.eqGuardType Tryz.prog.depth 33 = false then (structEq Tryz.prog 4 33 (rgAV x) (rgAV y)).bind fun b => (nilBin .neq b).map .raw else none := fun x y => rfl
  rw [e1, if_pos eqg33, rg_eq]
  rfl
theorem sameL_calls {L : Lab} {n : Nw} (f : Fl) (h : LabRep L n) : PCalls Tryz.prog 26 [labO (some L), nwAV n f] (.raw (.bool true)) := by
  have hn := h.ok
  have h40 := (right_rules h.right).2
  have hnet := labNet_calls L (by rw [h.net]; exact hn)
  rw [h.net] at hnet
  have hato := refAtoms10_calls n f hn (by omega)
  have hrul := refRules_calls n.rules n.rules false f.r (by omega) (by omega)
  have h16 := hn.links
  have h8 := hn.ports
  have hp8 := (right_few h.right).2
  have htop := refTopo_calls n.t n.t flN f (by omega) (by omega) (by omega) (by omega)
  have hcount := labAtoms_calls (some L)
  have hA := fun i : Int => labAtom_calls (some L) i fun M e => by injection e with e; rw [← e]; exact rep_size h.rep h.right
  have hat := fun d i : Int => labAt_calls L d i (rows_small h).1 (rows_small h).2
  have href := fun (d x : Int) => refAt_calls n f d x hn
  have hre := fun (d x : Int) => refAt_eq h.right d x
  simp only [hre] at href
  simp only [rep_len h.rep] at hcount
  have hlen : (cutsL (rgsN n)).length = (atomsN n).length := (atomsC_len _).symm
  rw [hlen] at hcount
  have hlen40 : (atomsN n).length < 2 ^ 40 := by
    rw [← hlen, ← Int.ofNat_lt, ← rep_len h.rep]; exact rep_size h.rep h.right
  have hval : ∀ i r, (atomsN n)[i]? = some r → (atomT L.t (i : Nat)) = some r := fun i r hi => by
    rw [rep_atom h.rep, if_pos (by omega), Int.toNat_natCast]; exact hi
  have hrow : ∀ (d i : Nat) r, d < n.t.ports.length → (atomsN n)[i]? = some r → atLab L d i = some (atI n d r.lo) := fun d i r hd hi => by
    unfold atLab
    rw [if_pos (by omega), Int.toNat_natCast, Int.toNat_natCast, rows_get h hd, Option.bind_some]
    unfold rowC
    rw [List.getElem?_map]
    show ((atomsN n)[i]?).map _ = _
    rw [hi]; rfl
  have hids := labO_ids (fun _ => False) (some L)
  generalize atomsN n = AT at *
  simp only [decide_true] at hrul htop
  simp only [Option.bind_some] at hA
  clear hlen h16 h8 hre h40
  refine pbody Tryz.func26 rfl (N := 90) rfl rfl (by simp) (by simp [noIds]) fun σ => ?_
  have f3 : σ.m ⟨3, σ.nx 3, 3⟩ = none := fresh_none _ _ _
  have f5 : σ.m ⟨5, σ.nx 5, 3⟩ = none := fresh_none _ _ _
  have htp : AV.agg [intsAV n.t.ports flN.p, linksAV n.t.links flN.l] = tpAV n.t flN := rfl
  have htp2 : AV.agg [intsAV n.t.ports f.p, linksAV n.t.links f.l] = tpAV n.t f := rfl
  have hfl : rulesAV n.rules flN.r = rulesAV n.rules false := rfl
  have hnp : setPart (AV.agg [.sl 0 [] true, .sl 0 [] true, .sl 0 [] true]) 0 [intsAV n.t.ports flN.p, linksAV n.t.links flN.l, rulesAV n.rules flN.r] = nwAV n flN := rfl
  obtain ⟨cL, hcL⟩ : ∃ c, labO (some L) = .pp c 0 := ⟨_, rfl⟩
  rw [hcL] at hnet hcount hids
  simp only [hcL] at hA hat
  rw [hcL]
  refine awp_seq ?_
  (try ((first | with_reducible refine dops_go ?_ | with_reducible refine OKv_go ?_ | with_reducible refine OKr_go ?_); simp [-cellOK, nw_cells, nw_fold, hnp, htp, htp2, hfl, new_m, set_m, new_nx'])); repeat' (first | refine awp_seq ?_ | refine awp_block ?_ | (refine awp_skip ?_; try simp) | (refine awp_exit ?_; try simp) | (refine awp_ret ?_; try simp) | (refine retP_same (by simp) ?_; simp) | (refine retP_no (by simp) (by simp [noIds]) (by repeat (first | assumption | exact Ext.refl _ | refine ext_new' ?_ | refine Ext.setF ?_ (by first | assumption | (simp [new_nx', St.set, fresh_none]; done) | exact ext_fresh (by assumption)))) ?_; simp [-cellOK, nw_cells, nw_fold, hnp, htp, htp2, hfl, new_m, set_m, new_nx', new_m, set_m, new_nx']) | ((first | refine awp_reg ?_ | refine awp_drawT (fun _ => false) mixed (by decide +kernel) ?_ | refine awp_drawT isCallO mixed (by decide +kernel) ?_ | refine PCalls.use (hnet) ?_ | refine Or.inl ⟨_, Or.inl (hnet), ?_⟩ | refine PCalls.use (hato) ?_ | refine Or.inl ⟨_, Or.inl (hato), ?_⟩ | refine PCalls.use (hrul) ?_ | refine Or.inl ⟨_, Or.inl (hrul), ?_⟩ | refine PCalls.use (htop) ?_ | refine Or.inl ⟨_, Or.inl (htop), ?_⟩ | refine PCalls.use (hcount) ?_ | refine Or.inl ⟨_, Or.inl (hcount), ?_⟩); simp [-cellOK, nw_cells, nw_fold, hnp, htp, htp2, hfl, new_m, set_m, new_nx']) | (refine guarded_split ?_ ?_ <;> (intro hg; simp only [hg]; simp [-cellOK, nw_cells, nw_fold, hnp, htp, htp2, hfl, new_m, set_m, new_nx'])) | (apply awp_cond_t; focus (simp [-cellOK, nw_cells, nw_fold, hnp, htp, htp2, hfl, new_m, set_m, new_nx']; done)) | (apply awp_cond_f; focus (simp [-cellOK, nw_cells, nw_fold, hnp, htp, htp2, hfl, new_m, set_m, new_nx']; done)) | (refine awp_cond ?_; simp [-cellOK, nw_cells, nw_fold, hnp, htp, htp2, hfl, new_m, set_m, new_nx']; refine ⟨?_, ?_⟩ <;> intro hc) | fail)
  generalize hA0 : put 90 _ _ _ = A0
  have c0 : A0 0 = .pp cL 0 := by rw [← hA0]; simp
  have c3 : A0 3 = .rp ⟨3, σ.nx 3, 3⟩ 0 0 := by rw [← hA0]; simp
  have c6 : A0 6 = rgsAV AT false := by rw [← hA0]; simp [rgsAV]
  have c9 : A0 9 = .raw (.int .i64 0) := by rw [← hA0]; simp
  clear hA0
  refine awp_freeze ⟨3, σ.nx 3, 3⟩ ?_
  refine awp_freeze ⟨5, σ.nx 5, 3⟩ ?_
  generalize hAA : (fun t => giveUp _ _ _) = A
  have a0 : A 0 = .pp cL 0 := by rw [← hAA]; show giveUp _ _ (giveUp _ _ (A0 0)) = _; rw [c0]; rfl
  have a3 : A 3 = .pp (nwAV n f).cells 0 := by
    rw [← hAA]
    show giveUp _ _ (giveUp _ _ (A0 3)) = _
    rw [c3, giveUp_rp_made (es := [nwAV n f]) (e := nwAV n f) (by simp [St.del]) (by simp [St.new, St.set]) rfl]; rfl
  have a6 : A 6 = rgsAV AT false := by rw [← hAA]; show giveUp _ _ (giveUp _ _ (A0 6)) = _; rw [c6]; rfl
  have a9 : A 9 = .raw (.int .i64 0) := by rw [← hAA]; show giveUp _ _ (giveUp _ _ (A0 9)) = _; rw [c9]; rfl
  generalize hτ : St.del _ _ = τ
  have hE : Ext σ τ := by
    rw [← hτ]
    refine ⟨fun i o h => ?_, fun s => ?_⟩
    · have q3 : i ≠ ⟨3, σ.nx 3, 3⟩ := fun e => by rw [e, f3] at h; cases h
      have q5 : i ≠ ⟨5, σ.nx 5, 3⟩ := fun e => by rw [e, f5] at h; cases h
      simp [St.del, St.new, St.set, q3, q5, h]
    · simp only [St.del, St.new, St.set]
      repeat' split
      all_goals omega
  clear hτ hAA hnet hato hrul htop hcount
  refine awp_loopH (fun n' B ρ => Ext σ ρ ∧ B 0 = .pp cL 0 ∧ B 3 = .pp (nwAV n f).cells 0 ∧ B 6 = rgsAV AT false ∧ ∃ i : Nat, B 9 = .raw (.int .i64 i) ∧ i ≤ AT.length ∧ n' = AT.length - i) AT.length ?_ ?_
  · exact ⟨hE, a0, a3, a6, 0, a9, by omega, by omega⟩
  clear hE a0 a3 a6 a9
  rintro n' B ρ ⟨hE, a0, a3, a6, i, a9, hi, rfl⟩ I1 hI1
  by_cases hlt : i < AT.length
  · have w1 : IntKind.i64.wrap ((i : Int) + 1) = ((i + 1 : Nat) : Int) := by rw [wrap64 (by omega) (by omega)]; omega
    have hx : AT[i]? = some AT[i] := List.getElem?_eq_getElem hlt
    obtain ⟨r, hr⟩ : ∃ r, AT[i] = r := ⟨_, rfl⟩
    have hA := hA i
    rw [hval i _ hx, hr] at hA
    simp only [Option.getD_some, Option.isSome_some] at hA
    have hrow := fun (d : Nat) hd => hrow d i r hd (by rw [hx, hr])
    have f10 : σ.m ⟨10, ρ.nx 10, 2⟩ = none := ext_fresh hE
    (try ((first | with_reducible refine dops_go ?_ | with_reducible refine OKv_go ?_ | with_reducible refine OKr_go ?_); simp [-cellOK, a0, a3, a6, a9, hlt, nw_cells, nw_fold, rg_cells, rg_fold, rgsAV, hx, hr, rg_neq, opBin_raw, -opBin, new_m, set_m, new_nx'])); repeat' (first | refine awp_seq ?_ | refine awp_block ?_ | (refine awp_skip ?_; try simp) | (refine awp_exit ?_; try simp) | (refine awp_ret ?_; try simp) | (refine retP_same (by simp) ?_; simp) | (refine retP_no (by simp) (by simp [noIds]) (by repeat (first | assumption | exact Ext.refl _ | refine ext_new' ?_ | refine Ext.setF ?_ (by first | assumption | (simp [new_nx', St.set, fresh_none]; done) | exact ext_fresh (by assumption)))) ?_; simp [-cellOK, a0, a3, a6, a9, hlt, nw_cells, nw_fold, rg_cells, rg_fold, rgsAV, hx, hr, rg_neq, opBin_raw, -opBin, new_m, set_m, new_nx', new_m, set_m, new_nx']) | ((first | refine awp_reg ?_ | refine awp_drawT (fun _ => false) mixed (by decide +kernel) ?_ | refine awp_drawT isCallO mixed (by decide +kernel) ?_ | refine PCalls.use (hA) ?_ | refine Or.inl ⟨_, Or.inl (hA), ?_⟩); simp [-cellOK, a0, a3, a6, a9, hlt, nw_cells, nw_fold, rg_cells, rg_fold, rgsAV, hx, hr, rg_neq, opBin_raw, -opBin, new_m, set_m, new_nx']) | (refine guarded_split ?_ ?_ <;> (intro hg; simp only [hg]; simp [-cellOK, a0, a3, a6, a9, hlt, nw_cells, nw_fold, rg_cells, rg_fold, rgsAV, hx, hr, rg_neq, opBin_raw, -opBin, new_m, set_m, new_nx'])) | (apply awp_cond_t; focus (simp [-cellOK, a0, a3, a6, a9, hlt, nw_cells, nw_fold, rg_cells, rg_fold, rgsAV, hx, hr, rg_neq, opBin_raw, -opBin, new_m, set_m, new_nx']; done)) | (apply awp_cond_f; focus (simp [-cellOK, a0, a3, a6, a9, hlt, nw_cells, nw_fold, rg_cells, rg_fold, rgsAV, hx, hr, rg_neq, opBin_raw, -opBin, new_m, set_m, new_nx']; done)) | (refine awp_cond ?_; simp [-cellOK, a0, a3, a6, a9, hlt, nw_cells, nw_fold, rg_cells, rg_fold, rgsAV, hx, hr, rg_neq, opBin_raw, -opBin, new_m, set_m, new_nx']; refine ⟨?_, ?_⟩ <;> intro hc) | fail)
    refine awp_freeze ⟨10, ρ.nx 10, 2⟩ ?_
    generalize hτ : St.del _ _ = τ
    generalize hAA : (fun t => giveUp _ _ _) = A
    have b0 : A 0 = .pp cL 0 := by rw [← hAA]; simp [a0, giveUp]
    have b3 : A 3 = .pp (nwAV n f).cells 0 := by rw [← hAA]; simp [a3, giveUp]
    have b6 : A 6 = rgsAV AT false := by rw [← hAA]; simp [a6, giveUp, rgsAV]
    have b9 : A 9 = .raw (.int .i64 i) := by rw [← hAA]; simp [a9]
    have b10 : A 10 = .pp (rgAV r).cells 0 := by rw [← hAA, ← hτ]; simp [giveUp, St.new, St.del, St.set, rg_cells]
    have b12 : A 12 = .raw (.int .i64 0) := by rw [← hAA]; simp
    have hEτ : Ext σ τ := by
      rw [← hτ]
      refine ⟨fun i o h => ?_, fun s => ?_⟩
      · rw [del_other (fun e => by rw [e, f10] at h; cases h)]
        rw [set_ne (fun e => by rw [e, f10] at h; cases h)]
        exact new_up _ _ (hE.m _ _ h)
      · have := hE.nx s
        simp only [St.set, St.del, St.new]
        split <;> omega
    clear hτ hAA hA
    refine awp_loopH (fun n' B ρ => Ext σ ρ ∧ B 0 = .pp cL 0 ∧ B 3 = .pp (nwAV n f).cells 0 ∧ B 6 = rgsAV AT false ∧ B 9 = .raw (.int .i64 i) ∧ B 10 = .pp (rgAV r).cells 0 ∧ ∃ d : Nat, B 12 = .raw (.int .i64 d) ∧ d ≤ n.t.ports.length ∧ n' = n.t.ports.length - d) n.t.ports.length ?_ ?_
    · exact ⟨hEτ, b0, b3, b6, b9, b10, 0, b12, by omega, by omega⟩
    clear hE hEτ f10 a0 a3 a6 a9 b0 b3 b6 b9 b10 b12
    rintro n' B ρ2 ⟨hE, b0, b3, b6, b9, b10, d, b12, hd, rfl⟩ I2 hI2
    by_cases hdt : d < n.t.ports.length
    · have w2 : IntKind.i64.wrap ((d : Int) + 1) = ((d + 1 : Nat) : Int) := by rw [wrap64 (by omega) (by omega)]; omega
      have hat := hat d i
      rw [hrow d hdt] at hat
      simp only [Option.getD_some, Option.isSome_some] at hat
      have r1 := href d r.lo
      clear hrow href hval
      generalize atI n d r.lo = x at *
      (try ((first | with_reducible refine dops_go ?_ | with_reducible refine OKv_go ?_ | with_reducible refine OKr_go ?_); simp [-cellOK, b0, b3, b6, b9, b10, b12, hdt, nw_cells, nw_fold, rg_cells, w2])); repeat' (first | refine awp_seq ?_ | refine awp_block ?_ | (refine awp_skip ?_; try simp) | (refine awp_exit ?_; try simp) | (refine awp_ret ?_; try simp) | (refine retP_same (by simp) ?_; simp) | (refine retP_no (by simp) (by simp [noIds]) (by repeat (first | assumption | exact Ext.refl _ | refine ext_new' ?_ | refine Ext.setF ?_ (by first | assumption | (simp [new_nx', St.set, fresh_none]; done) | exact ext_fresh (by assumption)))) ?_; simp [-cellOK, b0, b3, b6, b9, b10, b12, hdt, nw_cells, nw_fold, rg_cells, w2, new_m, set_m, new_nx']) | ((first | refine awp_reg ?_ | refine awp_drawT (fun _ => false) mixed (by decide +kernel) ?_ | refine awp_drawT isCallO mixed (by decide +kernel) ?_ | refine PCalls.use (hat) ?_ | refine Or.inl ⟨_, Or.inl (hat), ?_⟩ | refine PCalls.use (r1) ?_ | refine Or.inl ⟨_, Or.inl (r1), ?_⟩); simp [-cellOK, b0, b3, b6, b9, b10, b12, hdt, nw_cells, nw_fold, rg_cells, w2]) | (refine guarded_split ?_ ?_ <;> (intro hg; simp only [hg]; simp [-cellOK, b0, b3, b6, b9, b10, b12, hdt, nw_cells, nw_fold, rg_cells, w2])) | (apply awp_cond_t; focus (simp [-cellOK, b0, b3, b6, b9, b10, b12, hdt, nw_cells, nw_fold, rg_cells, w2]; done)) | (apply awp_cond_f; focus (simp [-cellOK, b0, b3, b6, b9, b10, b12, hdt, nw_cells, nw_fold, rg_cells, w2]; done)) | (refine awp_cond ?_; simp [-cellOK, b0, b3, b6, b9, b10, b12, hdt, nw_cells, nw_fold, rg_cells, w2]; refine ⟨?_, ?_⟩ <;> intro hc) | fail)
      exact hI2 (n.t.ports.length - (d + 1)) _ _ (by omega) ⟨hE, by simp [b0], by simp [b3], by simp [b6], by simp [b9], by simp [b10], d + 1, by simp, by omega, rfl⟩
    · (try ((first | with_reducible refine dops_go ?_ | with_reducible refine OKv_go ?_ | with_reducible refine OKr_go ?_); simp [-cellOK, b0, b3, b6, b9, b10, b12, hdt, nw_cells, nw_fold, w1])); repeat' (first | refine awp_seq ?_ | refine awp_block ?_ | (refine awp_skip ?_; try simp) | (refine awp_exit ?_; try simp) | (refine awp_ret ?_; try simp) | (refine retP_same (by simp) ?_; simp) | (refine retP_no (by simp) (by simp [noIds]) (by repeat (first | assumption | exact Ext.refl _ | refine ext_new' ?_ | refine Ext.setF ?_ (by first | assumption | (simp [new_nx', St.set, fresh_none]; done) | exact ext_fresh (by assumption)))) ?_; simp [-cellOK, b0, b3, b6, b9, b10, b12, hdt, nw_cells, nw_fold, w1, new_m, set_m, new_nx']) | ((first | refine awp_reg ?_ | refine awp_drawT (fun _ => false) mixed (by decide +kernel) ?_ | refine awp_drawT isCallO mixed (by decide +kernel) ?_); simp [-cellOK, b0, b3, b6, b9, b10, b12, hdt, nw_cells, nw_fold, w1]) | (refine guarded_split ?_ ?_ <;> (intro hg; simp only [hg]; simp [-cellOK, b0, b3, b6, b9, b10, b12, hdt, nw_cells, nw_fold, w1])) | (apply awp_cond_t; focus (simp [-cellOK, b0, b3, b6, b9, b10, b12, hdt, nw_cells, nw_fold, w1]; done)) | (apply awp_cond_f; focus (simp [-cellOK, b0, b3, b6, b9, b10, b12, hdt, nw_cells, nw_fold, w1]; done)) | (refine awp_cond ?_; simp [-cellOK, b0, b3, b6, b9, b10, b12, hdt, nw_cells, nw_fold, w1]; refine ⟨?_, ?_⟩ <;> intro hc) | fail)
      exact hI1 (AT.length - (i + 1)) _ _ (by omega) ⟨hE, by simp [b0], by simp [b3], by simp [b6], i + 1, by simp, by omega, rfl⟩
  · (try ((first | with_reducible refine dops_go ?_ | with_reducible refine OKv_go ?_ | with_reducible refine OKr_go ?_); simp [-cellOK, a0, a3, a6, a9, hlt, nw_cells, nw_fold, rgsAV])); repeat' (first | refine awp_seq ?_ | refine awp_block ?_ | (refine awp_skip ?_; try simp) | (refine awp_exit ?_; try simp) | (refine awp_ret ?_; try simp) | (refine retP_same (by simp) ?_; simp) | (refine retP_no (by simp) (by simp [noIds]) (by repeat (first | assumption | exact Ext.refl _ | refine ext_new' ?_ | refine Ext.setF ?_ (by first | assumption | (simp [new_nx', St.set, fresh_none]; done) | exact ext_fresh (by assumption)))) ?_; simp [-cellOK, a0, a3, a6, a9, hlt, nw_cells, nw_fold, rgsAV, new_m, set_m, new_nx']) | ((first | refine awp_reg ?_ | refine awp_drawT (fun _ => false) mixed (by decide +kernel) ?_ | refine awp_drawT isCallO mixed (by decide +kernel) ?_); simp [-cellOK, a0, a3, a6, a9, hlt, nw_cells, nw_fold, rgsAV]) | (refine guarded_split ?_ ?_ <;> (intro hg; simp only [hg]; simp [-cellOK, a0, a3, a6, a9, hlt, nw_cells, nw_fold, rgsAV])) | (apply awp_cond_t; focus (simp [-cellOK, a0, a3, a6, a9, hlt, nw_cells, nw_fold, rgsAV]; done)) | (apply awp_cond_f; focus (simp [-cellOK, a0, a3, a6, a9, hlt, nw_cells, nw_fold, rgsAV]; done)) | (refine awp_cond ?_; simp [-cellOK, a0, a3, a6, a9, hlt, nw_cells, nw_fold, rgsAV]; refine ⟨?_, ?_⟩ <;> intro hc) | fail)
end Go.Proofs.YtanimmdlgmkmkaaGreat.Av

