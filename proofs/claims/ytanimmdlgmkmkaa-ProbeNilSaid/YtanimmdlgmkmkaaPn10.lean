/- Probe: ProbeNil Part 10 of 14: AvZ7, AvZ8, AvZ9, AvZA, AvZB, AvZC, AvZD, AvZE, AvZF, AvZG, AvZH, AvZI, AvZJ, AvZK, AvZL, AvZM, AvZN, AvZO, AvZP, AvZQ, AvZR, AvZS, AvL20, AvQ0, AvBC, AvBD. -/
import Derived.Test.YtanimmdlgmkmkaaPn6
import Derived.Test.YtanimmdlgmkmkaaPn7
import Derived.Test.YtanimmdlgmkmkaaPn8
import Derived.Test.YtanimmdlgmkmkaaPn9
import Derived.Sort.AssemblyPlain

/- Sorting, part 1: insertion sort of an owned list of ranges. -/
namespace Go.Proofs.Ytanimmdlgmkmkaa.Av.Zn
open Go
set_option linter.unusedSimpArgs false
set_option linter.unusedVariables false
set_option maxRecDepth 100000
set_option pp.maxSteps 300

instance : Inhabited Rg := ⟨⟨0, 0⟩⟩
def bufOf (d : Array Rg) : Ob := .buf (d.toList.map rgAV)
/-- What an order is told by. -/
structure Cmp (g : FuncId) (c : Rg → Rg → Int) : Prop where
  calls : ∀ x y, PCalls Try.prog g [rgAV x, rgAV y] (.raw (.int .i64 (c x y)))
def ltOf (c : Rg → Rg → Int) (x y : Rg) : Bool := decide (c x y < 0)

end Go.Proofs.Ytanimmdlgmkmkaa.Av.Zn


/- Sorting, part 2: heap sort. -/
namespace Go.Proofs.Ytanimmdlgmkmkaa.Av.Zn
open Go
set_option linter.unusedSimpArgs false
set_option linter.unusedVariables false
set_option maxRecDepth 100000
set_option pp.maxSteps 300

end Go.Proofs.Ytanimmdlgmkmkaa.Av.Zn


/- Sorting, part 3: heap sort, reversing. -/
namespace Go.Proofs.Ytanimmdlgmkmkaa.Av.Zn
open Go
set_option linter.unusedSimpArgs false
set_option linter.unusedVariables false
set_option maxRecDepth 100000
set_option pp.maxSteps 300

end Go.Proofs.Ytanimmdlgmkmkaa.Av.Zn


/- Sorting, part 4: reversing; partitions. -/
namespace Go.Proofs.Ytanimmdlgmkmkaa.Av.Zn
open Go
set_option linter.unusedSimpArgs false
set_option linter.unusedVariables false
set_option maxRecDepth 100000
set_option pp.maxSteps 300

end Go.Proofs.Ytanimmdlgmkmkaa.Av.Zn


/- Sorting, part 5: partition. -/
namespace Go.Proofs.Ytanimmdlgmkmkaa.Av.Zn
open Go
set_option linter.unusedSimpArgs false
set_option linter.unusedVariables false
set_option maxRecDepth 100000
set_option pp.maxSteps 150

def PR (o : Id) (d : Array Rg) (σ : St) (g : FuncId) (a : Nat) (e : Array Rg) (i j : Nat) (A : Env) (τ : St) : Prop :=
  τ.m o = some (bufOf e) ∧ τ.set o (bufOf d) = σ ∧ A 0 = .rs o 0 d.size ∧ A 1 = .raw (.int .i64 a) ∧ A 4 = .fn (.func g) [] [] ∧ A 12 = .raw (.int .i64 i) ∧ A 13 = .raw (.int .i64 j)
end Go.Proofs.Ytanimmdlgmkmkaa.Av.Zn


/- Sorting, part 6: partition of equal ones. -/
namespace Go.Proofs.Ytanimmdlgmkmkaa.Av.Zn
open Go
set_option linter.unusedSimpArgs false
set_option linter.unusedVariables false
set_option maxRecDepth 100000
set_option pp.maxSteps 150

def PQ (o : Id) (d : Array Rg) (σ : St) (g : FuncId) (a : Nat) (e : Array Rg) (i j : Nat) (A : Env) (τ : St) : Prop :=
  τ.m o = some (bufOf e) ∧ τ.set o (bufOf d) = σ ∧ A 0 = .rs o 0 d.size ∧ A 1 = .raw (.int .i64 a) ∧ A 4 = .fn (.func g) [] [] ∧ A 11 = .raw (.int .i64 i) ∧ A 12 = .raw (.int .i64 j)
end Go.Proofs.Ytanimmdlgmkmkaa.Av.Zn


/- Sorting, part 7: the partial insertion sort. -/
namespace Go.Proofs.Ytanimmdlgmkmkaa.Av.Zn
open Go
set_option linter.unusedSimpArgs false
set_option linter.unusedVariables false
set_option maxRecDepth 100000
set_option pp.maxSteps 150

def PI (o : Id) (d : Array Rg) (σ : St) (g : FuncId) (a b : Nat) (e : Array Rg) (i s : Nat) (A : Env) (τ : St) : Prop :=
  τ.m o = some (bufOf e) ∧ τ.set o (bufOf d) = σ ∧ A 0 = .rs o 0 d.size ∧ A 1 = .raw (.int .i64 a) ∧ A 2 = .raw (.int .i64 b) ∧ A 3 = .fn (.func g) [] [] ∧ A 9 = .raw (.int .i64 i) ∧ A 10 = .raw (.int .i64 ((5 : Int) - s))
def PJ (o : Id) (d : Array Rg) (σ : St) (g : FuncId) (a b : Nat) (e : Array Rg) (i : Nat) (x : Int) (A : Env) (τ : St) : Prop :=
  τ.m o = some (bufOf e) ∧ τ.set o (bufOf d) = σ ∧ A 0 = .rs o 0 d.size ∧ A 1 = .raw (.int .i64 a) ∧ A 2 = .raw (.int .i64 b) ∧ A 3 = .fn (.func g) [] [] ∧ A 9 = .raw (.int .i64 i) ∧ A 10 = .raw (.int .i64 x)
end Go.Proofs.Ytanimmdlgmkmkaa.Av.Zn


/- Sorting, part 8: the pivot. -/
namespace Go.Proofs.Ytanimmdlgmkmkaa.Av.Zn
open Go
set_option linter.unusedSimpArgs false
set_option linter.unusedVariables false
set_option maxRecDepth 100000
set_option pp.maxSteps 150

end Go.Proofs.Ytanimmdlgmkmkaa.Av.Zn


/- Sorting, part 9: choosing the pivot. -/
namespace Go.Proofs.Ytanimmdlgmkmkaa.Av.Zn
open Go
set_option linter.unusedSimpArgs false
set_option linter.unusedVariables false
set_option maxRecDepth 100000
set_option maxHeartbeats 4000000
set_option pp.maxSteps 150

def hintI : Sort.Hint → Int
  | .unknown => 0
  | .increasing => 1
  | .decreasing => 2
end Go.Proofs.Ytanimmdlgmkmkaa.Av.Zn


/- Sorting, part 10: bits.Len, the next power of two. -/
namespace Go.Proofs.Ytanimmdlgmkmkaa.Av.Zn
open Go
set_option linter.unusedSimpArgs false
set_option linter.unusedVariables false
set_option maxRecDepth 100000
set_option maxHeartbeats 4000000
set_option pp.maxSteps 150

def lenTab : ByteArray := ⟨#[0, 1, 2, 2, 3, 3, 3, 3, 4, 4, 4, 4, 4, 4, 4, 4, 5, 5, 5, 5, 5, 5, 5, 5, 5, 5, 5, 5, 5, 5, 5, 5, 6, 6, 6, 6, 6, 6, 6, 6, 6, 6, 6, 6, 6, 6, 6, 6, 6, 6, 6, 6, 6, 6, 6, 6, 6, 6, 6, 6, 6, 6, 6, 6, 7, 7, 7, 7, 7, 7, 7, 7, 7, 7, 7, 7, 7, 7, 7, 7, 7, 7, 7, 7, 7, 7, 7, 7, 7, 7, 7, 7, 7, 7, 7, 7, 7, 7, 7, 7, 7, 7, 7, 7, 7, 7, 7, 7, 7, 7, 7, 7, 7, 7, 7, 7, 7, 7, 7, 7, 7, 7, 7, 7, 7, 7, 7, 7, 8, 8, 8, 8, 8, 8, 8, 8, 8, 8, 8, 8, 8, 8, 8, 8, 8, 8, 8, 8, 8, 8, 8, 8, 8, 8, 8, 8, 8, 8, 8, 8, 8, 8, 8, 8, 8, 8, 8, 8, 8, 8, 8, 8, 8, 8, 8, 8, 8, 8, 8, 8, 8, 8, 8, 8, 8, 8, 8, 8, 8, 8, 8, 8, 8, 8, 8, 8, 8, 8, 8, 8, 8, 8, 8, 8, 8, 8, 8, 8, 8, 8, 8, 8, 8, 8, 8, 8, 8, 8, 8, 8, 8, 8, 8, 8, 8, 8, 8, 8, 8, 8, 8, 8, 8, 8, 8, 8, 8, 8, 8, 8, 8, 8, 8, 8, 8, 8, 8, 8, 8, 8, 8, 8, 8, 8, 8, 8]⟩
end Go.Proofs.Ytanimmdlgmkmkaa.Av.Zn


/- Sorting, part 11: breaking patterns. -/
namespace Go.Proofs.Ytanimmdlgmkmkaa.Av.Zn
open Go
set_option linter.unusedSimpArgs false
set_option linter.unusedVariables false
set_option maxRecDepth 100000
set_option maxHeartbeats 4000000
set_option pp.maxSteps 1500

end Go.Proofs.Ytanimmdlgmkmkaa.Av.Zn


/- Sorting, part 12: breaking patterns. -/
namespace Go.Proofs.Ytanimmdlgmkmkaa.Av.Zn
open Go
set_option linter.unusedSimpArgs false
set_option linter.unusedVariables false
set_option maxRecDepth 100000
set_option maxHeartbeats 4000000
set_option pp.maxSteps 1500

/-- After so many steps. -/
def brk (a l m i : Nat) (st : UInt64 × Array Rg) : Nat → UInt64 × Array Rg
  | 0 => st
  | k + 1 => Sort.breakStep a l m (brk a l m i st k) (i + k)

end Go.Proofs.Ytanimmdlgmkmkaa.Av.Zn


/- Sorting, part 13: pdqsort. -/
namespace Go.Proofs.Ytanimmdlgmkmkaa.Av.Zn
open Go
set_option linter.unusedSimpArgs false
set_option linter.unusedVariables false
set_option maxRecDepth 100000
set_option maxHeartbeats 8000000
set_option pp.maxSteps 600

/-- One object has turned into another; some names more are in use. -/
structure Fr (o : Id) (x : Ob) (σ τ : St) : Prop where
  m : τ.m = (σ.set o x).m
  nx : ∀ s, σ.nx s ≤ τ.nx s
theorem Fr.set (o : Id) (x : Ob) (σ : St) : Fr o x σ (σ.set o x) := ⟨rfl, fun _ => Nat.le_refl _⟩
theorem Fr.buf {o : Id} {x y : Ob} {σ τ : St} (h : Fr o x σ τ) (hy : σ.m o = some y) : τ.m o = some x := by rw [h.m, set_self, hy]; rfl
def PdqPost (lt : Rg → Rg → Bool) (o : Id) (d : Array Rg) (a b : Nat) (σ : St) (r : AV) (τ : St) : Prop :=
  r = .tup [] ∧ ∃ d', Sort.PermIn a b d d' ∧ Sort.SortedIn lt a b d' ∧ Fr o (bufOf d') σ τ

def PdI (o : Id) (n a b lim : Nat) (g : FuncId) (wb wp : Bool) (A : Env) : Prop :=
  A 0 = .rs o 0 n ∧ A 1 = .raw (.int .i64 a) ∧ A 2 = .raw (.int .i64 b) ∧ A 3 = .raw (.int .i64 lim) ∧ A 4 = .fn (.func g) [] [] ∧ A 10 = .raw (.bool wb) ∧ A 11 = .raw (.bool wp)

/-- What holds of the array in the midst of a round that is at [a', b'). -/
structure Rd (lt : Rg → Rg → Bool) (o : Id) (d : Array Rg) (a b : Nat) (σ : St) (a' b' : Nat) (e : Array Rg) (τ : St) : Prop where
  fr : Fr o (bufOf e) σ τ
  size : e.size = d.size
  below : Sort.Below lt a' b' e
  glue : ∀ R, Sort.PermIn a' b' e R → Sort.SortedIn lt a' b' R → Sort.PermIn a b d R ∧ Sort.SortedIn lt a b R
end Go.Proofs.Ytanimmdlgmkmkaa.Av.Zn


/- Iterators over a list; sorting what is collected. -/
namespace Go.Proofs.Ytanimmdlgmkmkaa.Av.Zn
open Go
set_option linter.unusedSimpArgs false
set_option linter.unusedVariables false
set_option maxRecDepth 100000
set_option maxHeartbeats 4000000
set_option pp.maxSteps 300

/-- **slices.Collect**: what is yielded, or nothing. -/
def Coll (i : Id) (z : List Rg) (σ : St) (r : AV) (τ : St) : Prop := But i σ τ ∧ ((z = [] ∧ r = .sl 0 [] true) ∨ (z ≠ [] ∧ ∃ j, r = .rs j 0 z.length ∧ j.sz = 2 ∧ τ.m j = some (.buf (z.map rgAV)) ∧ σ.m j = none))
/-- In the order c says, or any of those that are alike. -/
def SortedBy (c : Rg → Rg → Int) (z : List Rg) : Prop := z.Pairwise fun x y => ¬ c y x < 0
end Go.Proofs.Ytanimmdlgmkmkaa.Av.Zn


/- Searching by a function; merging; the zone of ranges. -/
namespace Go.Proofs.Ytanimmdlgmkmkaa.Av.Zn
open Go
set_option linter.unusedSimpArgs false
set_option linter.unusedVariables false
set_option maxRecDepth 100000
set_option maxHeartbeats 4000000
set_option pp.maxSteps 300

/-- The first that is asked for; -1: there is none. -/
def idxOf (p : Rg → Bool) (z : List Rg) : Int := if z.any p then (z.findIdx p : Nat) else -1
end Go.Proofs.Ytanimmdlgmkmkaa.Av.Zn


/- Zones: what is merged, as an iterator; zone.Of. -/
namespace Go.Proofs.Ytanimmdlgmkmkaa.Av.Zn
open Go
set_option linter.unusedSimpArgs false
set_option linter.unusedVariables false
set_option maxRecDepth 100000
set_option maxHeartbeats 4000000
set_option pp.maxSteps 300

end Go.Proofs.Ytanimmdlgmkmkaa.Av.Zn


/- Zones: zone.Of. -/
namespace Go.Proofs.Ytanimmdlgmkmkaa.Av.Zn
open Go
set_option linter.unusedSimpArgs false
set_option linter.unusedVariables false
set_option maxRecDepth 100000
set_option maxHeartbeats 4000000
set_option pp.maxSteps 300

end Go.Proofs.Ytanimmdlgmkmkaa.Av.Zn


/- Zones: And, not, Minus, All. -/
namespace Go.Proofs.Ytanimmdlgmkmkaa.Av.Zn
open Go
set_option linter.unusedSimpArgs false
set_option linter.unusedVariables false
set_option maxRecDepth 100000
set_option maxHeartbeats 4000000
set_option pp.maxSteps 300

end Go.Proofs.Ytanimmdlgmkmkaa.Av.Zn


/- Zones: Minus, All, Grow, Concat, Or. -/
namespace Go.Proofs.Ytanimmdlgmkmkaa.Av.Zn
open Go
set_option linter.unusedSimpArgs false
set_option linter.unusedVariables false
set_option maxRecDepth 100000
set_option maxHeartbeats 4000000
set_option pp.maxSteps 300

def allZ : List Rg := [⟨0, 4294967295⟩]
/-- One list behind the other. -/
def catZ : List (List Rg × Bool) → List Rg
  | [] => []
  | p :: l => p.1 ++ catZ l
def pAV (p : List Rg × Bool) : AV := zAV p.1 p.2
end Go.Proofs.Ytanimmdlgmkmkaa.Av.Zn


/- The document's zones: cuts, ends, joining. -/
namespace Go.Proofs.Ytanimmdlgmkmkaa.Av.Zn
open Go
set_option linter.unusedSimpArgs false
set_option linter.unusedVariables false
set_option maxRecDepth 100000
set_option maxHeartbeats 4000000
set_option pp.maxSteps 300

/-- Whole numbers, as a list. -/
def iAV (n : Int) : AV := .raw (.int .i64 n)
def inAV (l : List Int) (b : Bool) : AV := .sl 1 (l.map iAV) b
def cutsAll (l : List Rg) : List Int := 0 :: l.flatMap fun r => [r.lo, r.hi + 1]
def nextCut (all : List Int) (last : Int) : Int := all.foldl (fun next a => if last < a ∧ a < next then a else next) 4294967296
def cutsFrom (all : List Int) : Nat → Int → List Int
  | 0, _ => []
  | n + 1, last => if nextCut all last ≤ 4294967295 then nextCut all last :: cutsFrom all n (nextCut all last) else []
/-- How many are still to come. -/
def above (all : List Int) (last : Int) : Nat := (all.filter fun a => decide (last < a) && decide (a < 4294967296)).length
def cutsOf (l : List Rg) : List Int := cutsFrom (cutsAll l) (above (cutsAll l) (-1)) (-1)
end Go.Proofs.Ytanimmdlgmkmkaa.Av.Zn


/- The document's zones: the walks of Cuts, End, Join. -/
namespace Go.Proofs.Ytanimmdlgmkmkaa.Av.Zn
open Go
set_option linter.unusedSimpArgs false
set_option linter.unusedVariables false
set_option maxRecDepth 100000
set_option maxHeartbeats 4000000
set_option pp.maxSteps 300

end Go.Proofs.Ytanimmdlgmkmkaa.Av.Zn


/- The document's zones: the walks of End, Join, Of, both. -/
namespace Go.Proofs.Ytanimmdlgmkmkaa.Av.Zn
open Go
set_option linter.unusedSimpArgs false
set_option linter.unusedVariables false
set_option maxRecDepth 100000
set_option maxHeartbeats 4000000
set_option pp.maxSteps 300

def endOf (C : List Int) (i : Nat) : Int := match C[i + 1]? with | some x => x - 1 | none => 4294967295
def joinZ (z : List Rg) (f t : Int) : List Rg :=
  match z[z.length - 1]? with
  | some r => if r.hi + 1 = f then z.set (z.length - 1) ⟨r.lo, t⟩ else z ++ [⟨f, t⟩]
  | none => z ++ [⟨f, t⟩]
/-- Joining the cuts that are wanted, behind what is there. -/
def joins (p : Int → Bool) (C : List Int) : Nat → List Rg
  | 0 => []
  | i + 1 => match C[i]? with
    | some c => if p c then joinZ (joins p C i) c (endOf C i) else joins p C i
    | none => joins p C i
def howP (how : Int) (p q : Bool) : Bool := (how == 1 && p && q) || (how == 2 && (p || q)) || (how == 3 && p && !q)
end Go.Proofs.Ytanimmdlgmkmkaa.Av.Zn


/- The document's comparisons of lists, rules, topologies; its ranges and atoms. -/
namespace Go.Proofs.Ytanimmdlgmkmkaa.Av
open Go
set_option linter.unusedSimpArgs false
set_option linter.unusedVariables false
set_option maxRecDepth 100000
set_option maxHeartbeats 4000000
set_option pp.maxSteps 600

theorem refInts_calls (x y : List Int) (fx fy : Bool) (hl : x.length < 2 ^ 60) (hl2 : y.length < 2 ^ 60) : PCalls Try.prog 98 [intsAV x fx, intsAV y fy] (.raw (.bool (decide (x = y)))) := by
  refine pbody Try.func98 rfl (N := 26) rfl rfl (by simp) (by simp [noIds]) fun σ => ?_
  by_cases hlen : x.length = y.length
  · have hli : (x.length : Int) = (y.length : Int) := by omega
    (try (first | (with_reducible refine dops_go ?_; simp [intsAV, hlen, hli]) | (with_reducible refine OKv_go ?_; simp [intsAV, hlen, hli]) | (with_reducible refine OKr_go ?_; simp [intsAV, hlen, hli]))); repeat' (first | refine awp_seq ?_ | refine awp_block ?_ | (refine awp_skip ?_; try simp) | (refine awp_exit ?_; try simp) | (refine awp_ret ?_; try simp) | (refine retP_same (by simp) ?_; simp) | (refine retP_flat (by simp) (by simp) (by simp (maxDischargeDepth := 30) [intsAV, hlen, hli]) ?_; simp) | (refine awp_reg ?_; simp [intsAV, hlen, hli]) | (refine awp_drawT (fun _ => false) mixed (by decide +kernel) ?_; simp [intsAV, hlen, hli]) | (refine guarded_split ?_ ?_ <;> (intro hg; simp only [hg]; simp [intsAV, hlen, hli])) | (apply awp_cond_t; focus (simp [intsAV, hlen, hli]; done)) | (apply awp_cond_f; focus (simp [intsAV, hlen, hli]; done)) | (refine awp_cond ?_; simp [intsAV, hlen, hli]; refine ⟨?_, ?_⟩ <;> intro hc))
    refine awp_loopH (fun n A τ => τ = σ ∧ A 0 = intsAV x fx ∧ A 1 = intsAV y fy ∧ ∃ i : Nat, A 5 = .raw (.int .i64 i) ∧ i ≤ y.length ∧ n = y.length - i ∧ x.take i = y.take i) y.length ?_ ?_
    · exact ⟨rfl, by simp [intsAV], by simp [intsAV], 0, by simp, by omega, by omega, by simp⟩
    rintro n A τ ⟨rfl, a0, a1, i, a5, hi, rfl, htk⟩ I1 hI1
    by_cases hlt : i < y.length
    · have hlx : i < x.length := by omega
      have hx : x[i]? = some x[i] := List.getElem?_eq_getElem hlx
      have hy : y[i]? = some y[i] := List.getElem?_eq_getElem hlt
      have w1 : IntKind.i64.wrap ((i : Int) + 1) = ((i + 1 : Nat) : Int) := by rw [wrap64 (by omega) (by omega)]; omega
      by_cases he : x[i] = y[i]
      · skip
        (try (first | (with_reducible refine dops_go ?_; simp [intsAV, iAV, a0, a1, a5, hlt, hlx, hlen, hx, hy, i_cells, he, w1]) | (with_reducible refine OKv_go ?_; simp [intsAV, iAV, a0, a1, a5, hlt, hlx, hlen, hx, hy, i_cells, he, w1]) | (with_reducible refine OKr_go ?_; simp [intsAV, iAV, a0, a1, a5, hlt, hlx, hlen, hx, hy, i_cells, he, w1]))); repeat' (first | refine awp_seq ?_ | refine awp_block ?_ | (refine awp_skip ?_; try simp) | (refine awp_exit ?_; try simp) | (refine awp_ret ?_; try simp) | (refine retP_same (by simp) ?_; simp) | (refine retP_flat (by simp) (by simp) (by simp (maxDischargeDepth := 30) [intsAV, iAV, a0, a1, a5, hlt, hlx, hlen, hx, hy, i_cells, he, w1]) ?_; simp) | (refine awp_reg ?_; simp [intsAV, iAV, a0, a1, a5, hlt, hlx, hlen, hx, hy, i_cells, he, w1]) | (refine awp_drawT (fun _ => false) mixed (by decide +kernel) ?_; simp [intsAV, iAV, a0, a1, a5, hlt, hlx, hlen, hx, hy, i_cells, he, w1]) | (refine guarded_split ?_ ?_ <;> (intro hg; simp only [hg]; simp [intsAV, iAV, a0, a1, a5, hlt, hlx, hlen, hx, hy, i_cells, he, w1])) | (apply awp_cond_t; focus (simp [intsAV, iAV, a0, a1, a5, hlt, hlx, hlen, hx, hy, i_cells, he, w1]; done)) | (apply awp_cond_f; focus (simp [intsAV, iAV, a0, a1, a5, hlt, hlx, hlen, hx, hy, i_cells, he, w1]; done)) | (refine awp_cond ?_; simp [intsAV, iAV, a0, a1, a5, hlt, hlx, hlen, hx, hy, i_cells, he, w1]; refine ⟨?_, ?_⟩ <;> intro hc))
        all_goals exact hI1 (y.length - (i + 1)) _ _ (by omega) ⟨rfl, by simp [a0, intsAV, iAV], by simp [a1, intsAV, iAV], i + 1, by simp [w1], by omega, rfl, take_eq htk hx (by rw [hy, he])⟩
      · skip
        (try (first | (with_reducible refine dops_go ?_; simp [intsAV, iAV, a0, a1, a5, hlt, hlx, hlen, hx, hy, i_cells, he, w1]) | (with_reducible refine OKv_go ?_; simp [intsAV, iAV, a0, a1, a5, hlt, hlx, hlen, hx, hy, i_cells, he, w1]) | (with_reducible refine OKr_go ?_; simp [intsAV, iAV, a0, a1, a5, hlt, hlx, hlen, hx, hy, i_cells, he, w1]))); repeat' (first | refine awp_seq ?_ | refine awp_block ?_ | (refine awp_skip ?_; try simp) | (refine awp_exit ?_; try simp) | (refine awp_ret ?_; try simp) | (refine retP_same (by simp) ?_; simp) | (refine retP_flat (by simp) (by simp) (by simp (maxDischargeDepth := 30) [intsAV, iAV, a0, a1, a5, hlt, hlx, hlen, hx, hy, i_cells, he, w1]) ?_; simp) | (refine awp_reg ?_; simp [intsAV, iAV, a0, a1, a5, hlt, hlx, hlen, hx, hy, i_cells, he, w1]) | (refine awp_drawT (fun _ => false) mixed (by decide +kernel) ?_; simp [intsAV, iAV, a0, a1, a5, hlt, hlx, hlen, hx, hy, i_cells, he, w1]) | (refine guarded_split ?_ ?_ <;> (intro hg; simp only [hg]; simp [intsAV, iAV, a0, a1, a5, hlt, hlx, hlen, hx, hy, i_cells, he, w1])) | (apply awp_cond_t; focus (simp [intsAV, iAV, a0, a1, a5, hlt, hlx, hlen, hx, hy, i_cells, he, w1]; done)) | (apply awp_cond_f; focus (simp [intsAV, iAV, a0, a1, a5, hlt, hlx, hlen, hx, hy, i_cells, he, w1]; done)) | (refine awp_cond ?_; simp [intsAV, iAV, a0, a1, a5, hlt, hlx, hlen, hx, hy, i_cells, he, w1]; refine ⟨?_, ?_⟩ <;> intro hc))
        all_goals (rintro rfl; exact he rfl)
    · have : i = y.length := by omega
      subst this
      have hxy : x = y := by
        rw [List.take_length, ← hlen, List.take_length] at htk; exact htk
      (try (first | (with_reducible refine dops_go ?_; simp [intsAV, a0, a1, a5, hlen]) | (with_reducible refine OKv_go ?_; simp [intsAV, a0, a1, a5, hlen]) | (with_reducible refine OKr_go ?_; simp [intsAV, a0, a1, a5, hlen]))); repeat' (first | refine awp_seq ?_ | refine awp_block ?_ | (refine awp_skip ?_; try simp) | (refine awp_exit ?_; try simp) | (refine awp_ret ?_; try simp) | (refine retP_same (by simp) ?_; simp) | (refine retP_flat (by simp) (by simp) (by simp (maxDischargeDepth := 30) [intsAV, a0, a1, a5, hlen]) ?_; simp) | (refine awp_reg ?_; simp [intsAV, a0, a1, a5, hlen]) | (refine awp_drawT (fun _ => false) mixed (by decide +kernel) ?_; simp [intsAV, a0, a1, a5, hlen]) | (refine guarded_split ?_ ?_ <;> (intro hg; simp only [hg]; simp [intsAV, a0, a1, a5, hlen])) | (apply awp_cond_t; focus (simp [intsAV, a0, a1, a5, hlen]; done)) | (apply awp_cond_f; focus (simp [intsAV, a0, a1, a5, hlen]; done)) | (refine awp_cond ?_; simp [intsAV, a0, a1, a5, hlen]; refine ⟨?_, ?_⟩ <;> intro hc))
      all_goals first | exact hxy | simp [hxy]
  · have hli : ¬ ((x.length : Int) = (y.length : Int)) := by omega
    (try (first | (with_reducible refine dops_go ?_; simp [intsAV, hlen, hli]) | (with_reducible refine OKv_go ?_; simp [intsAV, hlen, hli]) | (with_reducible refine OKr_go ?_; simp [intsAV, hlen, hli]))); repeat' (first | refine awp_seq ?_ | refine awp_block ?_ | (refine awp_skip ?_; try simp) | (refine awp_exit ?_; try simp) | (refine awp_ret ?_; try simp) | (refine retP_same (by simp) ?_; simp) | (refine retP_flat (by simp) (by simp) (by simp (maxDischargeDepth := 30) [intsAV, hlen, hli]) ?_; simp) | (refine awp_reg ?_; simp [intsAV, hlen, hli]) | (refine awp_drawT (fun _ => false) mixed (by decide +kernel) ?_; simp [intsAV, hlen, hli]) | (refine guarded_split ?_ ?_ <;> (intro hg; simp only [hg]; simp [intsAV, hlen, hli])) | (apply awp_cond_t; focus (simp [intsAV, hlen, hli]; done)) | (apply awp_cond_f; focus (simp [intsAV, hlen, hli]; done)) | (refine awp_cond ?_; simp [intsAV, hlen, hli]; refine ⟨?_, ?_⟩ <;> intro hc))
    all_goals (rintro rfl; exact hlen rfl)
end Go.Proofs.Ytanimmdlgmkmkaa.Av


/- The document's verdicts: alike. -/
namespace Go.Proofs.Ytanimmdlgmkmkaa.Av
open Go
set_option linter.unusedSimpArgs false
set_option linter.unusedVariables false
set_option maxRecDepth 100000
set_option maxHeartbeats 4000000
set_option pp.maxSteps 600

theorem refTkSame_calls (x y : Tk) (fx fy : Bool) (hx : x.path.length < 2 ^ 60) (hy : y.path.length < 2 ^ 60) : PCalls Try.prog 55 [tkAV x fx, tkAV y fy] (.raw (.bool (decide (x = y)))) := by
  have h := refInts_calls x.path y.path fx fy hx hy
  have hxy : decide (x = y) = (decide (x.path = y.path) && (decide (x.out = y.out) && (decide (x.last.dev = y.last.dev) && decide (x.last.port = y.last.port)))) := by
    rcases x with ⟨p, o, ⟨a, b⟩⟩; rcases y with ⟨p', o', ⟨a', b'⟩⟩
    rw [Bool.eq_iff_iff]; simp
  rw [hxy]
  generalize decide (x.path = y.path) = b at *
  refine pbody Try.func55 rfl (N := 26) rfl rfl (by simp) (by simp [noIds]) fun σ => ?_
  have k1 : (x.out = y.out) = True ∨ (x.out = y.out) = False := by by_cases h : x.out = y.out <;> simp [h]
  have k2 : (x.last.dev = y.last.dev) = True ∨ (x.last.dev = y.last.dev) = False := by by_cases h : x.last.dev = y.last.dev <;> simp [h]
  have k3 : (x.last.port = y.last.port) = True ∨ (x.last.port = y.last.port) = False := by by_cases h : x.last.port = y.last.port <;> simp [h]
  cases b <;> rcases k1 with k1 | k1 <;> rcases k2 with k2 | k2 <;> rcases k3 with k3 | k3
  all_goals
    (try ((first | with_reducible refine dops_go ?_ | with_reducible refine OKv_go ?_ | with_reducible refine OKr_go ?_); simp [-cellOK, tk_cells, k1, k2, k3, new_m, set_m, new_nx'])); repeat' (first | refine awp_seq ?_ | refine awp_block ?_ | (refine awp_skip ?_; try simp) | (refine awp_exit ?_; try simp) | (refine awp_ret ?_; try simp) | (refine retP_same (by simp) ?_; simp) | (refine retP_no (by simp) (by simp [noIds]) (by repeat (first | assumption | exact Ext.refl _ | refine ext_new' ?_ | refine Ext.setF ?_ (by first | assumption | (simp [new_nx', St.set, fresh_none]; done) | exact ext_fresh (by assumption)))) ?_; simp [-cellOK, tk_cells, k1, k2, k3, new_m, set_m, new_nx', new_m, set_m, new_nx']) | ((first | refine awp_reg ?_ | refine awp_drawT (fun _ => false) mixed (by decide +kernel) ?_ | refine awp_drawT isCallO mixed (by decide +kernel) ?_ | refine PCalls.use (h) ?_ | refine Or.inl ⟨_, Or.inl (h), ?_⟩); simp [-cellOK, tk_cells, k1, k2, k3, new_m, set_m, new_nx']) | (refine guarded_split ?_ ?_ <;> (intro hg; simp only [hg]; simp [-cellOK, tk_cells, k1, k2, k3, new_m, set_m, new_nx'])) | (apply awp_cond_t; focus (simp [-cellOK, tk_cells, k1, k2, k3, new_m, set_m, new_nx']; done)) | (apply awp_cond_f; focus (simp [-cellOK, tk_cells, k1, k2, k3, new_m, set_m, new_nx']; done)) | (refine awp_cond ?_; simp [-cellOK, tk_cells, k1, k2, k3, new_m, set_m, new_nx']; refine ⟨?_, ?_⟩ <;> intro hc) | fail)
theorem refVdSame_calls (x y : Vd) (f g : Bool) (hx : x.tr.path.length < 2 ^ 60) (hy : y.tr.path.length < 2 ^ 60) : PCalls Try.prog 28 [vdAV x f, vdAV y g] (.raw (.bool (decide (x = y)))) := by
  have h := refTkSame_calls x.tr y.tr f g hx hy
  have hxy : decide (x = y) = (decide (x.tr = y.tr) && ((x.holds == y.holds) && (decide (x.src = y.src) && decide (x.addr = y.addr)))) := by
    rcases x with ⟨p, o, a, b⟩; rcases y with ⟨p', o', a', b'⟩
    rw [Bool.eq_iff_iff]; simp; constructor
    · rintro ⟨h1, h2, h3, h4⟩; exact ⟨h4, h1, h2, h3⟩
    · rintro ⟨h4, h1, h2, h3⟩; exact ⟨h1, h2, h3, h4⟩
  rw [hxy]
  have htk : ∀ t b, AV.agg [intsAV t.path b, .raw (.int .i64 t.out), .raw (.int .i64 t.last.dev), .raw (.int .i64 t.last.port)] = tkAV t b := fun _ _ => rfl
  generalize decide (x.tr = y.tr) = b at *
  refine pbody Try.func28 rfl (N := 33) rfl rfl (by simp) (by simp [noIds]) fun σ => ?_
  obtain ⟨b1, hb1⟩ : ∃ b, (x.holds == y.holds) = b := ⟨_, rfl⟩
  have k2 : (x.src = y.src) = True ∨ (x.src = y.src) = False := by by_cases h : x.src = y.src <;> simp [h]
  have k3 : (x.addr = y.addr) = True ∨ (x.addr = y.addr) = False := by by_cases h : x.addr = y.addr <;> simp [h]
  rw [hb1]
  cases b <;> cases b1 <;> rcases k2 with k2 | k2 <;> rcases k3 with k3 | k3
  all_goals
    (try ((first | with_reducible refine dops_go ?_ | with_reducible refine OKv_go ?_ | with_reducible refine OKr_go ?_); simp [-cellOK, vd_cells, htk, hb1, k2, k3, new_m, set_m, new_nx'])); repeat' (first | refine awp_seq ?_ | refine awp_block ?_ | (refine awp_skip ?_; try simp) | (refine awp_exit ?_; try simp) | (refine awp_ret ?_; try simp) | (refine retP_same (by simp) ?_; simp) | (refine retP_no (by simp) (by simp [noIds]) (by repeat (first | assumption | exact Ext.refl _ | refine ext_new' ?_ | refine Ext.setF ?_ (by first | assumption | (simp [new_nx', St.set, fresh_none]; done) | exact ext_fresh (by assumption)))) ?_; simp [-cellOK, vd_cells, htk, hb1, k2, k3, new_m, set_m, new_nx', new_m, set_m, new_nx']) | ((first | refine awp_reg ?_ | refine awp_drawT (fun _ => false) mixed (by decide +kernel) ?_ | refine awp_drawT isCallO mixed (by decide +kernel) ?_ | refine PCalls.use (h) ?_ | refine Or.inl ⟨_, Or.inl (h), ?_⟩); simp [-cellOK, vd_cells, htk, hb1, k2, k3, new_m, set_m, new_nx']) | (refine guarded_split ?_ ?_ <;> (intro hg; simp only [hg]; simp [-cellOK, vd_cells, htk, hb1, k2, k3, new_m, set_m, new_nx'])) | (apply awp_cond_t; focus (simp [-cellOK, vd_cells, htk, hb1, k2, k3, new_m, set_m, new_nx']; done)) | (apply awp_cond_f; focus (simp [-cellOK, vd_cells, htk, hb1, k2, k3, new_m, set_m, new_nx']; done)) | (refine awp_cond ?_; simp [-cellOK, vd_cells, htk, hb1, k2, k3, new_m, set_m, new_nx']; refine ⟨?_, ?_⟩ <;> intro hc) | fail)
end Go.Proofs.Ytanimmdlgmkmkaa.Av


/- Probes: the live question. -/
namespace Go.Proofs.Ytanimmdlgmkmkaa.Av
open Go
set_option linter.unusedSimpArgs false
set_option linter.unusedVariables false
set_option maxRecDepth 100000
set_option maxHeartbeats 4000000
set_option pp.maxSteps 600

/-- A probe that is apart from all that was there. -/
structure Off (σ : St) (ip : Id) (v w : AV) (τ : St) : Prop where
  ext : Ext σ τ
  ip : σ.m ip = none
  at_ : ∀ i o, σ.m i = some o → ¬ isAt v i ∧ ¬ isAt w i
theorem Off.step {σ τ ρ : St} {ip : Id} {v w v' w' : AV} (h : Off σ ip v w τ) (k : Kq ip v w v' w' τ ρ) : Off σ ip v' w' ρ := by
  have hk : ∀ i o, σ.m i = some o → ρ.m i = some o ∧ ¬ isAt v' i ∧ ¬ isAt w' i := fun i o e =>
    k.1 i o (fun q => by rw [q, h.ip] at e; cases e) (h.at_ i o e).1 (h.at_ i o e).2 (h.ext.1 i o e)
  exact ⟨⟨fun i o e => (hk i o e).1, fun s => Nat.le_trans (h.ext.2 s) (k.2 s)⟩, h.ip, fun i o e => (hk i o e).2⟩
def px1 : PB := (goP 2 (pb0 netN netN flN flN aq1) (.one [] 0)).1.1
def ph1 : Ph := (goP 2 (pb0 netN netN flN flN aq1) (.one [] 0)).1.2
def px2 : PB := (goP 100 px1 ph1).1.1
theorem run_p0 : askedB netN netN aq1 = true := by decide +kernel
theorem run_ps : sourcesQ netN aq1 = [0] := by decide +kernel
theorem run_pp : ∃ r rs, partsQ netN netN aq1 = r :: rs := by
  cases h : partsQ netN netN aq1 with
  | nil => exact absurd h (by decide +kernel)
  | cons r rs => exact ⟨r, rs, rfl⟩
theorem run_p1 : (goP 2 (pb0 netN netN flN flN aq1) (.one [] 0)).2 = 2 := by decide +kernel
theorem run_p2 : ph1.done = false := by decide +kernel
theorem run_p3 : (goP 100 px1 ph1).2 = 4 := by decide +kernel
theorem run_p4 : (goP 100 px1 ph1).1.2 = .fin ⟨false, 0, 20, ⟨[0, 1, 2], 2, ⟨0, 0⟩⟩⟩ := by decide +kernel
theorem pb0_ok {n m : Nw} {f g : Fl} {q : Qy} (hn : NwOK n) (hm : NwOK m) (hP : ∃ r rs, partsQ n m q = r :: rs) : OkB (pb0 n m f g q) := by
  have h1 : (partsQ n m q).length ≤ 1001 := cutP_len _ _
  have h2 : (sourcesQ n q).length < 2 ^ 60 := by
    have := hn.ports
    unfold sourcesQ
    split
    · simp
    · simp; omega
  exact ⟨hn, hm, hP, by show (partsQ n m q).length < _; omega, h2, by show (partsQ n m q).length < _; omega⟩
theorem OkB.go {X : PB} (h : OkB X) (k : Nat) (ph : Ph) : OkB (goP k X ph).1.1 := by
  induction k generalizing X ph with
  | zero => exact h
  | succ k ih =>
    rw [goP]
    split
    · exact h
    · exact ih (h.step ph) _
theorem alive13_calls : PCalls Try.prog 29 [] (.raw (.bool true)) := by
  have hn := net_calls
  have e1 : qyAV aq1 = .agg [.raw (.int .i64 0), .raw (.int .i64 0), .raw (.int .i64 2), .raw (.int .i64 0), .raw (.int .u32 5), .raw (.int .u32 30), .raw (.string ⟨#[]⟩)] := rfl
  have hnp : setPart (AV.agg [.sl 0 [] true, .sl 0 [] true, .sl 0 [] true]) 0 [intsAV netN.t.ports flN.p, linksAV netN.t.links flN.l, rulesAV netN.rules flN.r] = nwAV netN flN := rfl
  have hX0 : OkB (pb0 netN netN flN flN aq1) := pb0_ok netN_ok netN_ok run_pp
  have hX1 : OkB px1 := hX0.go 2 _
  refine pbody Try.func29 rfl (N := 71) rfl rfl (by simp) (by simp [noIds]) fun σ => ?_
  (try ((first | with_reducible refine dops_go ?_ | with_reducible refine OKv_go ?_ | with_reducible refine OKr_go ?_); simp [-cellOK, nw_cells, nw_fold, hnp, new_m, set_m, new_nx'])); repeat' (first | refine awp_seq ?_ | refine awp_block ?_ | (refine awp_skip ?_; try simp) | (refine awp_exit ?_; try simp) | (refine awp_ret ?_; try simp) | ((first | refine awp_reg ?_ | refine awp_drawT (fun _ => false) mixed (by decide +kernel) ?_ | refine awp_drawT isCallO mixed (by decide +kernel) ?_ | refine PCalls.use (hn) ?_ | refine Or.inl ⟨_, Or.inl (hn), ?_⟩); simp [-cellOK, nw_cells, nw_fold, hnp, new_m, set_m, new_nx']) | (refine guarded_split ?_ ?_ <;> (intro hg; simp only [hg]; simp [-cellOK, nw_cells, nw_fold, hnp, new_m, set_m, new_nx'])) | (apply awp_cond_t; focus (simp [-cellOK, nw_cells, nw_fold, hnp, new_m, set_m, new_nx']; done)) | (apply awp_cond_f; focus (simp [-cellOK, nw_cells, nw_fold, hnp, new_m, set_m, new_nx']; done)) | (refine awp_cond ?_; simp [-cellOK, nw_cells, nw_fold, hnp, new_m, set_m, new_nx']; refine ⟨?_, ?_⟩ <;> intro hc) | fail)
  have hES : Ext σ ((σ.new 1 3 (.buf [.agg [.sl 0 [] true, .sl 0 [] true, .sl 0 [] true]])).set ⟨1, σ.nx 1, 3⟩ (.buf [nwAV netN flN])) := (by repeat (first | assumption | exact Ext.refl _ | refine ext_new' ?_ | refine Ext.setF ?_ (by first | assumption | (simp [new_nx', St.set, fresh_none]; done) | exact ext_fresh (by assumption))))
  have f1 : σ.m ⟨1, σ.nx 1, 3⟩ = none := fresh_none _ _ _
  generalize hST : St.set _ _ _ = ST at hES ⊢
  have m1 : ST.m ⟨1, σ.nx 1, 3⟩ = some (.buf [nwAV netN flN]) := by rw [← hST]; simp [set_m, new_m]
  clear hST
  rw [← e1]
  refine pnew_calls netN netN flN flN aq1 netN_ok netN_ok ⟨by decide, by decide, by decide, by decide⟩ (fun h => by rw [run_p0] at h; cases h) (fun _ => ⟨0, [], run_ps⟩) (fun _ => run_pp) ?_
  intro s ss _ hs τ ip hsz hip hR hE
  rw [run_ps] at hs
  injection hs with q1 q2
  subst q1; subst q2
  have hO : Off ST ip nilAV nilAV τ := ⟨hE, hip, fun i o _ => ⟨nilAV_at i, nilAV_at i⟩⟩
  (try ((first | with_reducible refine dops_go ?_ | with_reducible refine OKv_go ?_ | with_reducible refine OKr_go ?_); simp [-cellOK])); repeat' (first | refine awp_seq ?_ | refine awp_block ?_ | (refine awp_skip ?_; try simp) | (refine awp_exit ?_; try simp) | (refine awp_ret ?_; try simp) | ((first | refine awp_reg ?_ | refine awp_drawT (fun _ => false) mixed (by decide +kernel) ?_ | refine awp_drawT isCallO mixed (by decide +kernel) ?_); simp [-cellOK]) | (refine guarded_split ?_ ?_ <;> (intro hg; simp only [hg]; simp [-cellOK])) | (apply awp_cond_t; focus (simp [-cellOK]; done)) | (apply awp_cond_f; focus (simp [-cellOK]; done)) | (refine awp_cond ?_; simp [-cellOK]; refine ⟨?_, ?_⟩ <;> intro hc) | fail)
  refine stepG_calls hsz hX0 rfl hR (f := 2) (by decide) (by decide) fun τ1 v1 w1 h1 k1 => ?_
  have hO1 := hO.step k1
  rw [show (2 : Int).toNat = 2 from rfl] at h1 ⊢
  rw [run_p1]
  (try ((first | with_reducible refine dops_go ?_ | with_reducible refine OKv_go ?_ | with_reducible refine OKr_go ?_); simp [-cellOK])); repeat' (first | refine awp_seq ?_ | refine awp_block ?_ | (refine awp_skip ?_; try simp) | (refine awp_exit ?_; try simp) | (refine awp_ret ?_; try simp) | ((first | refine awp_reg ?_ | refine awp_drawT (fun _ => false) mixed (by decide +kernel) ?_ | refine awp_drawT isCallO mixed (by decide +kernel) ?_); simp [-cellOK]) | (refine guarded_split ?_ ?_ <;> (intro hg; simp only [hg]; simp [-cellOK])) | (apply awp_cond_t; focus (simp [-cellOK]; done)) | (apply awp_cond_f; focus (simp [-cellOK]; done)) | (refine awp_cond ?_; simp [-cellOK]; refine ⟨?_, ?_⟩ <;> intro hc) | fail)
  refine stepG_calls hsz hX1 run_p2 h1 (f := 100) (by decide) (by decide) fun τ2 v2 w2 h2 k2 => ?_
  have hO2 := hO1.step k2
  change PbR ip (goP 100 px1 ph1).1.1 (goP 100 px1 ph1).1.2 v2 w2 τ2 at h2
  rw [show (100 : Int).toNat = 100 from rfl]
  rw [run_p3]
  rw [run_p4] at h2
  generalize (goP 100 px1 ph1).1.1 = X2 at h2
  clear h1 hR
  have hE2 := hES.trans hO2.ext
  obtain ⟨d, v3, t3, w3, u3, nx3, r3, m3, _⟩ := h2.ob
  (try ((first | with_reducible refine dops_go ?_ | with_reducible refine OKv_go ?_ | with_reducible refine OKr_go ?_); simp [-cellOK])); repeat' (first | refine awp_seq ?_ | refine awp_block ?_ | (refine awp_skip ?_; try simp) | (refine awp_exit ?_; try simp) | (refine awp_ret ?_; try simp) | ((first | refine awp_reg ?_ | refine awp_drawT (fun _ => false) mixed (by decide +kernel) ?_ | refine awp_drawT isCallO mixed (by decide +kernel) ?_); simp [-cellOK]) | (refine guarded_split ?_ ?_ <;> (intro hg; simp only [hg]; simp [-cellOK])) | (apply awp_cond_t; focus (simp [-cellOK]; done)) | (apply awp_cond_f; focus (simp [-cellOK]; done)) | (refine awp_cond ?_; simp [-cellOK]; refine ⟨?_, ?_⟩ <;> intro hc) | fail)
  refine verdict_calls hsz h2 fun τ3 hE3 => ?_
  have m3 : τ3.m ip = some (pbOb X2 d v3 t3 w3 u3 nx3 true r3) := hE3.1 _ _ m3
  have hE4 := hE2.trans hE3
  generalize hV : (⟨false, 0, 20, ⟨[0, 1, 2], 2, ⟨0, 0⟩⟩⟩ : Vd) = V
  have v1 : V.holds = false := by rw [← hV]
  have v2 : V.addr = 20 := by rw [← hV]
  have hvp : setPart vd0AV 0 (vdAV V false).cells = vdAV V false := rfl
  (try ((first | with_reducible refine dops_go ?_ | with_reducible refine OKv_go ?_ | with_reducible refine OKr_go ?_); simp [-cellOK, vd0_fold, hvp, vd0_cells, vd_cells, vd0_put, vd_fold, new_m, set_m, new_nx', v1, v2])); repeat' (first | refine awp_seq ?_ | refine awp_block ?_ | (refine awp_skip ?_; try simp) | (refine awp_exit ?_; try simp) | (refine awp_ret ?_; try simp) | ((first | refine awp_reg ?_ | refine awp_drawT (fun _ => false) mixed (by decide +kernel) ?_ | refine awp_drawT isCallO mixed (by decide +kernel) ?_); simp [-cellOK, vd0_fold, hvp, vd0_cells, vd_cells, vd0_put, vd_fold, new_m, set_m, new_nx', v1, v2]) | (refine guarded_split ?_ ?_ <;> (intro hg; simp only [hg]; simp [-cellOK, vd0_fold, hvp, vd0_cells, vd_cells, vd0_put, vd_fold, new_m, set_m, new_nx', v1, v2])) | (apply awp_cond_t; focus (simp [-cellOK, vd0_fold, hvp, vd0_cells, vd_cells, vd0_put, vd_fold, new_m, set_m, new_nx', v1, v2]; done)) | (apply awp_cond_f; focus (simp [-cellOK, vd0_fold, hvp, vd0_cells, vd_cells, vd0_put, vd_fold, new_m, set_m, new_nx', v1, v2]; done)) | (refine awp_cond ?_; simp [-cellOK, vd0_fold, hvp, vd0_cells, vd_cells, vd0_put, vd_fold, new_m, set_m, new_nx', v1, v2]; refine ⟨?_, ?_⟩ <;> intro hc) | fail)
  refine done_calls (X := X2) ((show Ext τ3 _ from (by repeat (first | assumption | exact Ext.refl _ | refine ext_new' ?_ | refine Ext.setF ?_ (by first | assumption | (simp [new_nx', St.set, fresh_none]; done) | exact ext_fresh (by assumption))))).1 _ _ m3) ?_
  (try ((first | with_reducible refine dops_go ?_ | with_reducible refine OKv_go ?_ | with_reducible refine OKr_go ?_); simp [-cellOK, vd0_fold, hvp, vd0_cells, vd_cells, vd0_put, vd_fold, new_m, set_m, new_nx', v1, v2])); repeat' (first | refine awp_seq ?_ | refine awp_block ?_ | (refine awp_skip ?_; try simp) | (refine awp_exit ?_; try simp) | (refine awp_ret ?_; try simp) | (refine retP_same (by simp) ?_; simp) | (refine retP_no (by simp) (by simp [noIds]) (by repeat (first | assumption | exact Ext.refl _ | refine ext_new' ?_ | refine Ext.setF ?_ (by first | assumption | (simp [new_nx', St.set, fresh_none]; done) | exact ext_fresh (by assumption)))) ?_; simp [-cellOK, vd0_fold, hvp, vd0_cells, vd_cells, vd0_put, vd_fold, new_m, set_m, new_nx', v1, v2, new_m, set_m, new_nx']) | ((first | refine awp_reg ?_ | refine awp_drawT (fun _ => false) mixed (by decide +kernel) ?_ | refine awp_drawT isCallO mixed (by decide +kernel) ?_); simp [-cellOK, vd0_fold, hvp, vd0_cells, vd_cells, vd0_put, vd_fold, new_m, set_m, new_nx', v1, v2]) | (refine guarded_split ?_ ?_ <;> (intro hg; simp only [hg]; simp [-cellOK, vd0_fold, hvp, vd0_cells, vd_cells, vd0_put, vd_fold, new_m, set_m, new_nx', v1, v2])) | (apply awp_cond_t; focus (simp [-cellOK, vd0_fold, hvp, vd0_cells, vd_cells, vd0_put, vd_fold, new_m, set_m, new_nx', v1, v2]; done)) | (apply awp_cond_f; focus (simp [-cellOK, vd0_fold, hvp, vd0_cells, vd_cells, vd0_put, vd_fold, new_m, set_m, new_nx', v1, v2]; done)) | (refine awp_cond ?_; simp [-cellOK, vd0_fold, hvp, vd0_cells, vd_cells, vd0_put, vd_fold, new_m, set_m, new_nx', v1, v2]; refine ⟨?_, ?_⟩ <;> intro hc) | fail)
end Go.Proofs.Ytanimmdlgmkmkaa.Av


/- The law ProbeNil walked. -/
namespace Go.Proofs.Ytanimmdlgmkmkaa.Av
open Go
set_option linter.unusedSimpArgs false
set_option linter.unusedVariables false
set_option maxRecDepth 100000
set_option maxHeartbeats 4000000
set_option pp.maxSteps 600

theorem probeNil_calls (f : Int) : PCalls Try.prog 7 [.raw (.int .i64 f)] (.raw (.bool true)) := by
  have h1 := step0_calls f
  have h2 := verdict0_calls
  have h3 := refVdSame_calls ⟨false, 0, 0, noTk⟩ ⟨false, 0, 0, noTk⟩ false false (by decide) (by decide)
  rw [decide_eq_true rfl] at h3
  have h4 := alive13_calls
  have h5 := done0_calls
  generalize hV : (⟨false, 0, 0, noTk⟩ : Vd) = V at h2 h3
  have h3' : PCalls Try.prog 28 [vdAV V false, vd0AV] (.raw (.bool true)) := by
    refine ⟨h3.1, fun σ => ACalls.args (bs := [vdAV V false, vdAV V false]) (fun S vs hl => ?_) (h3.2 σ)⟩
    simp only [LRel] at hl ⊢
    obtain ⟨x, xs, e, k1, y, ys, e2, k2, k3⟩ := hl
    refine ⟨x, xs, e, k1, y, ys, e2, ?_, k3⟩
    rw [← hV]
    simp only [vd0AV, vdAV, noTk, intsAV, List.map_nil, VRel, LRel] at k2 ⊢
    obtain ⟨l2, e0, x1, y1, e1, p1, x2, y2, e2, p2, x3, y3, e3, p3, x4, y4, e4, ⟨base, cap, e, q1, q2, q3⟩, p5⟩ := k2
    exact ⟨l2, e0, x1, y1, e1, p1, x2, y2, e2, p2, x3, y3, e3, p3, x4, y4, e4, ⟨base, cap, e, q1, by simp, by simp⟩, p5⟩
  have hvp : setPart vd0AV 0 (vdAV V false).cells = vdAV V false := rfl
  refine pbody Try.func7 rfl (N := 44) rfl rfl (by simp) (by simp [noIds]) fun σ => ?_
  (try ((first | with_reducible refine dops_go ?_ | with_reducible refine OKv_go ?_ | with_reducible refine OKr_go ?_); simp [-cellOK, vd0_fold, hvp, vd0_cells, vd_cells, vd0_put, vd_fold, new_m, set_m, new_nx'])); repeat' (first | refine awp_seq ?_ | refine awp_block ?_ | (refine awp_skip ?_; try simp) | (refine awp_exit ?_; try simp) | (refine awp_ret ?_; try simp) | (refine retP_same (by simp) ?_; simp) | (refine retP_no (by simp) (by simp [noIds]) (by repeat (first | assumption | exact Ext.refl _ | refine ext_new' ?_ | refine Ext.setF ?_ (by first | assumption | (simp [new_nx', St.set, fresh_none]; done) | exact ext_fresh (by assumption)))) ?_; simp [-cellOK, vd0_fold, hvp, vd0_cells, vd_cells, vd0_put, vd_fold, new_m, set_m, new_nx', new_m, set_m, new_nx']) | ((first | refine awp_reg ?_ | refine awp_drawT (fun _ => false) mixed (by decide +kernel) ?_ | refine awp_drawT isCallO mixed (by decide +kernel) ?_ | refine PCalls.use (h1) ?_ | refine Or.inl ⟨_, Or.inl (h1), ?_⟩ | refine PCalls.use (h2) ?_ | refine Or.inl ⟨_, Or.inl (h2), ?_⟩ | refine PCalls.use (h3') ?_ | refine Or.inl ⟨_, Or.inl (h3'), ?_⟩ | refine PCalls.use (h4) ?_ | refine Or.inl ⟨_, Or.inl (h4), ?_⟩ | refine PCalls.use (h5) ?_ | refine Or.inl ⟨_, Or.inl (h5), ?_⟩); simp [-cellOK, vd0_fold, hvp, vd0_cells, vd_cells, vd0_put, vd_fold, new_m, set_m, new_nx']) | (refine guarded_split ?_ ?_ <;> (intro hg; simp only [hg]; simp [-cellOK, vd0_fold, hvp, vd0_cells, vd_cells, vd0_put, vd_fold, new_m, set_m, new_nx'])) | (apply awp_cond_t; focus (simp [-cellOK, vd0_fold, hvp, vd0_cells, vd_cells, vd0_put, vd_fold, new_m, set_m, new_nx']; done)) | (apply awp_cond_f; focus (simp [-cellOK, vd0_fold, hvp, vd0_cells, vd_cells, vd0_put, vd_fold, new_m, set_m, new_nx']; done)) | (refine awp_cond ?_; simp [-cellOK, vd0_fold, hvp, vd0_cells, vd_cells, vd0_put, vd_fold, new_m, set_m, new_nx']; refine ⟨?_, ?_⟩ <;> intro hc) | fail)
end Go.Proofs.Ytanimmdlgmkmkaa.Av

