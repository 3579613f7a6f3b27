/- Probe: ProbeCut Part 11 of 15: AvZ7, AvZ8, AvZ9, AvZA, AvZB, AvZC, AvZD, AvZE, AvZF, AvZG, AvZH, AvZI, AvZJ, AvZK, AvZL, AvZM, AvZN, AvZO, AvZP, AvZQ, AvZR, AvZS, AvL20, AvQ0, AvBC, AvBG. -/
import Derived.Test.YtanimmdlgmkmkaaPc6
import Derived.Test.YtanimmdlgmkmkaaPc7
import Derived.Test.YtanimmdlgmkmkaaPc9
import Derived.Test.YtanimmdlgmkmkaaPc10
import Derived.Sort.AssemblyPlain

/- Sorting, part 1: insertion sort of an owned list of ranges. -/
namespace Go.Proofs.Ytanimmdlgmkmkaa.Av.Zn
open Go
set_option linter.unusedSimpArgs false
set_option linter.unusedVariables false
set_option maxRecDepth 100000
set_option pp.maxSteps 300

instance : Inhabited Rg := ⟨⟨0, 0⟩⟩
def bufOf (d : Array Rg) : Ob := .buf (d.toList.map rgAV)
/-- What an order is told by. -/
structure Cmp (g : FuncId) (c : Rg → Rg → Int) : Prop where
  calls : ∀ x y, PCalls Try.prog g [rgAV x, rgAV y] (.raw (.int .i64 (c x y)))
def ltOf (c : Rg → Rg → Int) (x y : Rg) : Bool := decide (c x y < 0)

end Go.Proofs.Ytanimmdlgmkmkaa.Av.Zn


/- Sorting, part 2: heap sort. -/
namespace Go.Proofs.Ytanimmdlgmkmkaa.Av.Zn
open Go
set_option linter.unusedSimpArgs false
set_option linter.unusedVariables false
set_option maxRecDepth 100000
set_option pp.maxSteps 300

end Go.Proofs.Ytanimmdlgmkmkaa.Av.Zn


/- Sorting, part 3: heap sort, reversing. -/
namespace Go.Proofs.Ytanimmdlgmkmkaa.Av.Zn
open Go
set_option linter.unusedSimpArgs false
set_option linter.unusedVariables false
set_option maxRecDepth 100000
set_option pp.maxSteps 300

end Go.Proofs.Ytanimmdlgmkmkaa.Av.Zn


/- Sorting, part 4: reversing; partitions. -/
namespace Go.Proofs.Ytanimmdlgmkmkaa.Av.Zn
open Go
set_option linter.unusedSimpArgs false
set_option linter.unusedVariables false
set_option maxRecDepth 100000
set_option pp.maxSteps 300

end Go.Proofs.Ytanimmdlgmkmkaa.Av.Zn


/- Sorting, part 5: partition. -/
namespace Go.Proofs.Ytanimmdlgmkmkaa.Av.Zn
open Go
set_option linter.unusedSimpArgs false
set_option linter.unusedVariables false
set_option maxRecDepth 100000
set_option pp.maxSteps 150

def PR (o : Id) (d : Array Rg) (σ : St) (g : FuncId) (a : Nat) (e : Array Rg) (i j : Nat) (A : Env) (τ : St) : Prop :=
  τ.m o = some (bufOf e) ∧ τ.set o (bufOf d) = σ ∧ A 0 = .rs o 0 d.size ∧ A 1 = .raw (.int .i64 a) ∧ A 4 = .fn (.func g) [] [] ∧ A 12 = .raw (.int .i64 i) ∧ A 13 = .raw (.int .i64 j)
end Go.Proofs.Ytanimmdlgmkmkaa.Av.Zn


/- Sorting, part 6: partition of equal ones. -/
namespace Go.Proofs.Ytanimmdlgmkmkaa.Av.Zn
open Go
set_option linter.unusedSimpArgs false
set_option linter.unusedVariables false
set_option maxRecDepth 100000
set_option pp.maxSteps 150

def PQ (o : Id) (d : Array Rg) (σ : St) (g : FuncId) (a : Nat) (e : Array Rg) (i j : Nat) (A : Env) (τ : St) : Prop :=
  τ.m o = some (bufOf e) ∧ τ.set o (bufOf d) = σ ∧ A 0 = .rs o 0 d.size ∧ A 1 = .raw (.int .i64 a) ∧ A 4 = .fn (.func g) [] [] ∧ A 11 = .raw (.int .i64 i) ∧ A 12 = .raw (.int .i64 j)
end Go.Proofs.Ytanimmdlgmkmkaa.Av.Zn


/- Sorting, part 7: the partial insertion sort. -/
namespace Go.Proofs.Ytanimmdlgmkmkaa.Av.Zn
open Go
set_option linter.unusedSimpArgs false
set_option linter.unusedVariables false
set_option maxRecDepth 100000
set_option pp.maxSteps 150

def PI (o : Id) (d : Array Rg) (σ : St) (g : FuncId) (a b : Nat) (e : Array Rg) (i s : Nat) (A : Env) (τ : St) : Prop :=
  τ.m o = some (bufOf e) ∧ τ.set o (bufOf d) = σ ∧ A 0 = .rs o 0 d.size ∧ A 1 = .raw (.int .i64 a) ∧ A 2 = .raw (.int .i64 b) ∧ A 3 = .fn (.func g) [] [] ∧ A 9 = .raw (.int .i64 i) ∧ A 10 = .raw (.int .i64 ((5 : Int) - s))
def PJ (o : Id) (d : Array Rg) (σ : St) (g : FuncId) (a b : Nat) (e : Array Rg) (i : Nat) (x : Int) (A : Env) (τ : St) : Prop :=
  τ.m o = some (bufOf e) ∧ τ.set o (bufOf d) = σ ∧ A 0 = .rs o 0 d.size ∧ A 1 = .raw (.int .i64 a) ∧ A 2 = .raw (.int .i64 b) ∧ A 3 = .fn (.func g) [] [] ∧ A 9 = .raw (.int .i64 i) ∧ A 10 = .raw (.int .i64 x)
end Go.Proofs.Ytanimmdlgmkmkaa.Av.Zn


/- Sorting, part 8: the pivot. -/
namespace Go.Proofs.Ytanimmdlgmkmkaa.Av.Zn
open Go
set_option linter.unusedSimpArgs false
set_option linter.unusedVariables false
set_option maxRecDepth 100000
set_option pp.maxSteps 150

end Go.Proofs.Ytanimmdlgmkmkaa.Av.Zn


/- Sorting, part 9: choosing the pivot. -/
namespace Go.Proofs.Ytanimmdlgmkmkaa.Av.Zn
open Go
set_option linter.unusedSimpArgs false
set_option linter.unusedVariables false
set_option maxRecDepth 100000
set_option maxHeartbeats 4000000
set_option pp.maxSteps 150

def hintI : Sort.Hint → Int
  | .unknown => 0
  | .increasing => 1
  | .decreasing => 2
end Go.Proofs.Ytanimmdlgmkmkaa.Av.Zn


/- Sorting, part 10: bits.Len, the next power of two. -/
namespace Go.Proofs.Ytanimmdlgmkmkaa.Av.Zn
open Go
set_option linter.unusedSimpArgs false
set_option linter.unusedVariables false
set_option maxRecDepth 100000
set_option maxHeartbeats 4000000
set_option pp.maxSteps 150

def lenTab : ByteArray := ⟨#[0, 1, 2, 2, 3, 3, 3, 3, 4, 4, 4, 4, 4, 4, 4, 4, 5, 5, 5, 5, 5, 5, 5, 5, 5, 5, 5, 5, 5, 5, 5, 5, 6, 6, 6, 6, 6, 6, 6, 6, 6, 6, 6, 6, 6, 6, 6, 6, 6, 6, 6, 6, 6, 6, 6, 6, 6, 6, 6, 6, 6, 6, 6, 6, 7, 7, 7, 7, 7, 7, 7, 7, 7, 7, 7, 7, 7, 7, 7, 7, 7, 7, 7, 7, 7, 7, 7, 7, 7, 7, 7, 7, 7, 7, 7, 7, 7, 7, 7, 7, 7, 7, 7, 7, 7, 7, 7, 7, 7, 7, 7, 7, 7, 7, 7, 7, 7, 7, 7, 7, 7, 7, 7, 7, 7, 7, 7, 7, 8, 8, 8, 8, 8, 8, 8, 8, 8, 8, 8, 8, 8, 8, 8, 8, 8, 8, 8, 8, 8, 8, 8, 8, 8, 8, 8, 8, 8, 8, 8, 8, 8, 8, 8, 8, 8, 8, 8, 8, 8, 8, 8, 8, 8, 8, 8, 8, 8, 8, 8, 8, 8, 8, 8, 8, 8, 8, 8, 8, 8, 8, 8, 8, 8, 8, 8, 8, 8, 8, 8, 8, 8, 8, 8, 8, 8, 8, 8, 8, 8, 8, 8, 8, 8, 8, 8, 8, 8, 8, 8, 8, 8, 8, 8, 8, 8, 8, 8, 8, 8, 8, 8, 8, 8, 8, 8, 8, 8, 8, 8, 8, 8, 8, 8, 8, 8, 8, 8, 8, 8, 8, 8, 8, 8, 8, 8, 8]⟩
end Go.Proofs.Ytanimmdlgmkmkaa.Av.Zn


/- Sorting, part 11: breaking patterns. -/
namespace Go.Proofs.Ytanimmdlgmkmkaa.Av.Zn
open Go
set_option linter.unusedSimpArgs false
set_option linter.unusedVariables false
set_option maxRecDepth 100000
set_option maxHeartbeats 4000000
set_option pp.maxSteps 1500

end Go.Proofs.Ytanimmdlgmkmkaa.Av.Zn


/- Sorting, part 12: breaking patterns. -/
namespace Go.Proofs.Ytanimmdlgmkmkaa.Av.Zn
open Go
set_option linter.unusedSimpArgs false
set_option linter.unusedVariables false
set_option maxRecDepth 100000
set_option maxHeartbeats 4000000
set_option pp.maxSteps 1500

/-- After so many steps. -/
def brk (a l m i : Nat) (st : UInt64 × Array Rg) : Nat → UInt64 × Array Rg
  | 0 => st
  | k + 1 => Sort.breakStep a l m (brk a l m i st k) (i + k)

end Go.Proofs.Ytanimmdlgmkmkaa.Av.Zn


/- Sorting, part 13: pdqsort. -/
namespace Go.Proofs.Ytanimmdlgmkmkaa.Av.Zn
open Go
set_option linter.unusedSimpArgs false
set_option linter.unusedVariables false
set_option maxRecDepth 100000
set_option maxHeartbeats 8000000
set_option pp.maxSteps 600

/-- One object has turned into another; some names more are in use. -/
structure Fr (o : Id) (x : Ob) (σ τ : St) : Prop where
  m : τ.m = (σ.set o x).m
  nx : ∀ s, σ.nx s ≤ τ.nx s
theorem Fr.set (o : Id) (x : Ob) (σ : St) : Fr o x σ (σ.set o x) := ⟨rfl, fun _ => Nat.le_refl _⟩
theorem Fr.buf {o : Id} {x y : Ob} {σ τ : St} (h : Fr o x σ τ) (hy : σ.m o = some y) : τ.m o = some x := by rw [h.m, set_self, hy]; rfl
def PdqPost (lt : Rg → Rg → Bool) (o : Id) (d : Array Rg) (a b : Nat) (σ : St) (r : AV) (τ : St) : Prop :=
  r = .tup [] ∧ ∃ d', Sort.PermIn a b d d' ∧ Sort.SortedIn lt a b d' ∧ Fr o (bufOf d') σ τ

def PdI (o : Id) (n a b lim : Nat) (g : FuncId) (wb wp : Bool) (A : Env) : Prop :=
  A 0 = .rs o 0 n ∧ A 1 = .raw (.int .i64 a) ∧ A 2 = .raw (.int .i64 b) ∧ A 3 = .raw (.int .i64 lim) ∧ A 4 = .fn (.func g) [] [] ∧ A 10 = .raw (.bool wb) ∧ A 11 = .raw (.bool wp)

/-- What holds of the array in the midst of a round that is at [a', b'). -/
structure Rd (lt : Rg → Rg → Bool) (o : Id) (d : Array Rg) (a b : Nat) (σ : St) (a' b' : Nat) (e : Array Rg) (τ : St) : Prop where
  fr : Fr o (bufOf e) σ τ
  size : e.size = d.size
  below : Sort.Below lt a' b' e
  glue : ∀ R, Sort.PermIn a' b' e R → Sort.SortedIn lt a' b' R → Sort.PermIn a b d R ∧ Sort.SortedIn lt a b R
end Go.Proofs.Ytanimmdlgmkmkaa.Av.Zn


/- Iterators over a list; sorting what is collected. -/
namespace Go.Proofs.Ytanimmdlgmkmkaa.Av.Zn
open Go
set_option linter.unusedSimpArgs false
set_option linter.unusedVariables false
set_option maxRecDepth 100000
set_option maxHeartbeats 4000000
set_option pp.maxSteps 300

/-- **slices.Collect**: what is yielded, or nothing. -/
def Coll (i : Id) (z : List Rg) (σ : St) (r : AV) (τ : St) : Prop := But i σ τ ∧ ((z = [] ∧ r = .sl 0 [] true) ∨ (z ≠ [] ∧ ∃ j, r = .rs j 0 z.length ∧ j.sz = 2 ∧ τ.m j = some (.buf (z.map rgAV)) ∧ σ.m j = none))
/-- In the order c says, or any of those that are alike. -/
def SortedBy (c : Rg → Rg → Int) (z : List Rg) : Prop := z.Pairwise fun x y => ¬ c y x < 0
end Go.Proofs.Ytanimmdlgmkmkaa.Av.Zn


/- Searching by a function; merging; the zone of ranges. -/
namespace Go.Proofs.Ytanimmdlgmkmkaa.Av.Zn
open Go
set_option linter.unusedSimpArgs false
set_option linter.unusedVariables false
set_option maxRecDepth 100000
set_option maxHeartbeats 4000000
set_option pp.maxSteps 300

/-- The first that is asked for; -1: there is none. -/
def idxOf (p : Rg → Bool) (z : List Rg) : Int := if z.any p then (z.findIdx p : Nat) else -1
end Go.Proofs.Ytanimmdlgmkmkaa.Av.Zn


/- Zones: what is merged, as an iterator; zone.Of. -/
namespace Go.Proofs.Ytanimmdlgmkmkaa.Av.Zn
open Go
set_option linter.unusedSimpArgs false
set_option linter.unusedVariables false
set_option maxRecDepth 100000
set_option maxHeartbeats 4000000
set_option pp.maxSteps 300

end Go.Proofs.Ytanimmdlgmkmkaa.Av.Zn


/- Zones: zone.Of. -/
namespace Go.Proofs.Ytanimmdlgmkmkaa.Av.Zn
open Go
set_option linter.unusedSimpArgs false
set_option linter.unusedVariables false
set_option maxRecDepth 100000
set_option maxHeartbeats 4000000
set_option pp.maxSteps 300

end Go.Proofs.Ytanimmdlgmkmkaa.Av.Zn


/- Zones: And, not, Minus, All. -/
namespace Go.Proofs.Ytanimmdlgmkmkaa.Av.Zn
open Go
set_option linter.unusedSimpArgs false
set_option linter.unusedVariables false
set_option maxRecDepth 100000
set_option maxHeartbeats 4000000
set_option pp.maxSteps 300

end Go.Proofs.Ytanimmdlgmkmkaa.Av.Zn


/- Zones: Minus, All, Grow, Concat, Or. -/
namespace Go.Proofs.Ytanimmdlgmkmkaa.Av.Zn
open Go
set_option linter.unusedSimpArgs false
set_option linter.unusedVariables false
set_option maxRecDepth 100000
set_option maxHeartbeats 4000000
set_option pp.maxSteps 300

def allZ : List Rg := [⟨0, 4294967295⟩]
/-- One list behind the other. -/
def catZ : List (List Rg × Bool) → List Rg
  | [] => []
  | p :: l => p.1 ++ catZ l
def pAV (p : List Rg × Bool) : AV := zAV p.1 p.2
end Go.Proofs.Ytanimmdlgmkmkaa.Av.Zn


/- The document's zones: cuts, ends, joining. -/
namespace Go.Proofs.Ytanimmdlgmkmkaa.Av.Zn
open Go
set_option linter.unusedSimpArgs false
set_option linter.unusedVariables false
set_option maxRecDepth 100000
set_option maxHeartbeats 4000000
set_option pp.maxSteps 300

/-- Whole numbers, as a list. -/
def iAV (n : Int) : AV := .raw (.int .i64 n)
def inAV (l : List Int) (b : Bool) : AV := .sl 1 (l.map iAV) b
def cutsAll (l : List Rg) : List Int := 0 :: l.flatMap fun r => [r.lo, r.hi + 1]
def nextCut (all : List Int) (last : Int) : Int := all.foldl (fun next a => if last < a ∧ a < next then a else next) 4294967296
def cutsFrom (all : List Int) : Nat → Int → List Int
  | 0, _ => []
  | n + 1, last => if nextCut all last ≤ 4294967295 then nextCut all last :: cutsFrom all n (nextCut all last) else []
/-- How many are still to come. -/
def above (all : List Int) (last : Int) : Nat := (all.filter fun a => decide (last < a) && decide (a < 4294967296)).length
def cutsOf (l : List Rg) : List Int := cutsFrom (cutsAll l) (above (cutsAll l) (-1)) (-1)
end Go.Proofs.Ytanimmdlgmkmkaa.Av.Zn


/- The document's zones: the walks of Cuts, End, Join. -/
namespace Go.Proofs.Ytanimmdlgmkmkaa.Av.Zn
open Go
set_option linter.unusedSimpArgs false
set_option linter.unusedVariables false
set_option maxRecDepth 100000
set_option maxHeartbeats 4000000
set_option pp.maxSteps 300

end Go.Proofs.Ytanimmdlgmkmkaa.Av.Zn


/- The document's zones: the walks of End, Join, Of, both. -/
namespace Go.Proofs.Ytanimmdlgmkmkaa.Av.Zn
open Go
set_option linter.unusedSimpArgs false
set_option linter.unusedVariables false
set_option maxRecDepth 100000
set_option maxHeartbeats 4000000
set_option pp.maxSteps 300

def endOf (C : List Int) (i : Nat) : Int := match C[i + 1]? with | some x => x - 1 | none => 4294967295
def joinZ (z : List Rg) (f t : Int) : List Rg :=
  match z[z.length - 1]? with
  | some r => if r.hi + 1 = f then z.set (z.length - 1) ⟨r.lo, t⟩ else z ++ [⟨f, t⟩]
  | none => z ++ [⟨f, t⟩]
/-- Joining the cuts that are wanted, behind what is there. -/
def joins (p : Int → Bool) (C : List Int) : Nat → List Rg
  | 0 => []
  | i + 1 => match C[i]? with
    | some c => if p c then joinZ (joins p C i) c (endOf C i) else joins p C i
    | none => joins p C i
def howP (how : Int) (p q : Bool) : Bool := (how == 1 && p && q) || (how == 2 && (p || q)) || (how == 3 && p && !q)
end Go.Proofs.Ytanimmdlgmkmkaa.Av.Zn


/- The document's comparisons of lists, rules, topologies; its ranges and atoms. -/
namespace Go.Proofs.Ytanimmdlgmkmkaa.Av
open Go
set_option linter.unusedSimpArgs false
set_option linter.unusedVariables false
set_option maxRecDepth 100000
set_option maxHeartbeats 4000000
set_option pp.maxSteps 600

end Go.Proofs.Ytanimmdlgmkmkaa.Av


/- The document's verdicts: alike. -/
namespace Go.Proofs.Ytanimmdlgmkmkaa.Av
open Go
set_option linter.unusedSimpArgs false
set_option linter.unusedVariables false
set_option maxRecDepth 100000
set_option maxHeartbeats 4000000
set_option pp.maxSteps 600

end Go.Proofs.Ytanimmdlgmkmkaa.Av


/- Probes: the live question. -/
namespace Go.Proofs.Ytanimmdlgmkmkaa.Av
open Go
set_option linter.unusedSimpArgs false
set_option linter.unusedVariables false
set_option maxRecDepth 100000
set_option maxHeartbeats 4000000
set_option pp.maxSteps 600

/-- A probe that is apart from all that was there. -/
structure Off (σ : St) (ip : Id) (v w : AV) (τ : St) : Prop where
  ext : Ext σ τ
  ip : σ.m ip = none
  at_ : ∀ i o, σ.m i = some o → ¬ isAt v i ∧ ¬ isAt w i
theorem Off.step {σ τ ρ : St} {ip : Id} {v w v' w' : AV} (h : Off σ ip v w τ) (k : Kq ip v w v' w' τ ρ) : Off σ ip v' w' ρ := by
  have hk : ∀ i o, σ.m i = some o → ρ.m i = some o ∧ ¬ isAt v' i ∧ ¬ isAt w' i := fun i o e =>
    k.1 i o (fun q => by rw [q, h.ip] at e; cases e) (h.at_ i o e).1 (h.at_ i o e).2 (h.ext.1 i o e)
  exact ⟨⟨fun i o e => (hk i o e).1, fun s => Nat.le_trans (h.ext.2 s) (k.2 s)⟩, h.ip, fun i o e => (hk i o e).2⟩
def px1 : PB := (goP 2 (pb0 netN netN flN flN aq1) (.one [] 0)).1.1
def ph1 : Ph := (goP 2 (pb0 netN netN flN flN aq1) (.one [] 0)).1.2
def px2 : PB := (goP 100 px1 ph1).1.1
theorem run_p0 : askedB netN netN aq1 = true := by decide +kernel
theorem run_ps : sourcesQ netN aq1 = [0] := by decide +kernel
theorem run_pp : ∃ r rs, partsQ netN netN aq1 = r :: rs := by
  cases h : partsQ netN netN aq1 with
  | nil => exact absurd h (by decide +kernel)
  | cons r rs => exact ⟨r, rs, rfl⟩
theorem run_p1 : (goP 2 (pb0 netN netN flN flN aq1) (.one [] 0)).2 = 2 := by decide +kernel
theorem run_p2 : ph1.done = false := by decide +kernel
theorem run_p3 : (goP 100 px1 ph1).2 = 4 := by decide +kernel
theorem run_p4 : (goP 100 px1 ph1).1.2 = .fin ⟨false, 0, 20, ⟨[0, 1, 2], 2, ⟨0, 0⟩⟩⟩ := by decide +kernel
theorem pb0_ok {n m : Nw} {f g : Fl} {q : Qy} (hn : NwOK n) (hm : NwOK m) (hP : ∃ r rs, partsQ n m q = r :: rs) : OkB (pb0 n m f g q) := by
  have h1 : (partsQ n m q).length ≤ 1001 := cutP_len _ _
  have h2 : (sourcesQ n q).length < 2 ^ 60 := by
    have := hn.ports
    unfold sourcesQ
    split
    · simp
    · simp; omega
  exact ⟨hn, hm, hP, by show (partsQ n m q).length < _; omega, h2, by show (partsQ n m q).length < _; omega⟩
theorem OkB.go {X : PB} (h : OkB X) (k : Nat) (ph : Ph) : OkB (goP k X ph).1.1 := by
  induction k generalizing X ph with
  | zero => exact h
  | succ k ih =>
    rw [goP]
    split
    · exact h
    · exact ih (h.step ph) _
theorem alive13_calls : PCalls Try.prog 29 [] (.raw (.bool true)) := by
  have hn := net_calls
  have e1 : qyAV aq1 = .agg [.raw (.int .i64 0), .raw (.int .i64 0), .raw (.int .i64 2), .raw (.int .i64 0), .raw (.int .u32 5), .raw (.int .u32 30), .raw (.string ⟨#[]⟩)] := rfl
  have hnp : setPart (AV.agg [.sl 0 [] true, .sl 0 [] true, .sl 0 [] true]) 0 [intsAV netN.t.ports flN.p, linksAV netN.t.links flN.l, rulesAV netN.rules flN.r] = nwAV netN flN := rfl
  have hX0 : OkB (pb0 netN netN flN flN aq1) := pb0_ok netN_ok netN_ok run_pp
  have hX1 : OkB px1 := hX0.go 2 _
  refine pbody Try.func29 rfl (N := 71) rfl rfl (by simp) (by simp [noIds]) fun σ => ?_
  (try ((first | with_reducible refine dops_go ?_ | with_reducible refine OKv_go ?_ | with_reducible refine OKr_go ?_); simp [-cellOK, nw_cells, nw_fold, hnp, new_m, set_m, new_nx'])); repeat' (first | refine awp_seq ?_ | refine awp_block ?_ | (refine awp_skip ?_; try simp) | (refine awp_exit ?_; try simp) | (refine awp_ret ?_; try simp) | ((first | refine awp_reg ?_ | refine awp_drawT (fun _ => false) mixed (by decide +kernel) ?_ | refine awp_drawT isCallO mixed (by decide +kernel) ?_ | refine PCalls.use (hn) ?_ | refine Or.inl ⟨_, Or.inl (hn), ?_⟩); simp [-cellOK, nw_cells, nw_fold, hnp, new_m, set_m, new_nx']) | (refine guarded_split ?_ ?_ <;> (intro hg; simp only [hg]; simp [-cellOK, nw_cells, nw_fold, hnp, new_m, set_m, new_nx'])) | (apply awp_cond_t; focus (simp [-cellOK, nw_cells, nw_fold, hnp, new_m, set_m, new_nx']; done)) | (apply awp_cond_f; focus (simp [-cellOK, nw_cells, nw_fold, hnp, new_m, set_m, new_nx']; done)) | (refine awp_cond ?_; simp [-cellOK, nw_cells, nw_fold, hnp, new_m, set_m, new_nx']; refine ⟨?_, ?_⟩ <;> intro hc) | fail)
  have hES : Ext σ ((σ.new 1 3 (.buf [.agg [.sl 0 [] true, .sl 0 [] true, .sl 0 [] true]])).set ⟨1, σ.nx 1, 3⟩ (.buf [nwAV netN flN])) := (by repeat (first | assumption | exact Ext.refl _ | refine ext_new' ?_ | refine Ext.setF ?_ (by first | assumption | (simp [new_nx', St.set, fresh_none]; done) | exact ext_fresh (by assumption))))
  have f1 : σ.m ⟨1, σ.nx 1, 3⟩ = none := fresh_none _ _ _
  generalize hST : St.set _ _ _ = ST at hES ⊢
  have m1 : ST.m ⟨1, σ.nx 1, 3⟩ = some (.buf [nwAV netN flN]) := by rw [← hST]; simp [set_m, new_m]
  clear hST
  rw [← e1]
  refine pnew_calls netN netN flN flN aq1 netN_ok netN_ok ⟨by decide, by decide, by decide, by decide⟩ (fun h => by rw [run_p0] at h; cases h) (fun _ => ⟨0, [], run_ps⟩) (fun _ => run_pp) ?_
  intro s ss _ hs τ ip hsz hip hR hE
  rw [run_ps] at hs
  injection hs with q1 q2
  subst q1; subst q2
  have hO : Off ST ip nilAV nilAV τ := ⟨hE, hip, fun i o _ => ⟨nilAV_at i, nilAV_at i⟩⟩
  (try ((first | with_reducible refine dops_go ?_ | with_reducible refine OKv_go ?_ | with_reducible refine OKr_go ?_); simp [-cellOK])); repeat' (first | refine awp_seq ?_ | refine awp_block ?_ | (refine awp_skip ?_; try simp) | (refine awp_exit ?_; try simp) | (refine awp_ret ?_; try simp) | ((first | refine awp_reg ?_ | refine awp_drawT (fun _ => false) mixed (by decide +kernel) ?_ | refine awp_drawT isCallO mixed (by decide +kernel) ?_); simp [-cellOK]) | (refine guarded_split ?_ ?_ <;> (intro hg; simp only [hg]; simp [-cellOK])) | (apply awp_cond_t; focus (simp [-cellOK]; done)) | (apply awp_cond_f; focus (simp [-cellOK]; done)) | (refine awp_cond ?_; simp [-cellOK]; refine ⟨?_, ?_⟩ <;> intro hc) | fail)
  refine stepG_calls hsz hX0 rfl hR (f := 2) (by decide) (by decide) fun τ1 v1 w1 h1 k1 => ?_
  have hO1 := hO.step k1
  rw [show (2 : Int).toNat = 2 from rfl] at h1 ⊢
  rw [run_p1]
  (try ((first | with_reducible refine dops_go ?_ | with_reducible refine OKv_go ?_ | with_reducible refine OKr_go ?_); simp [-cellOK])); repeat' (first | refine awp_seq ?_ | refine awp_block ?_ | (refine awp_skip ?_; try simp) | (refine awp_exit ?_; try simp) | (refine awp_ret ?_; try simp) | ((first | refine awp_reg ?_ | refine awp_drawT (fun _ => false) mixed (by decide +kernel) ?_ | refine awp_drawT isCallO mixed (by decide +kernel) ?_); simp [-cellOK]) | (refine guarded_split ?_ ?_ <;> (intro hg; simp only [hg]; simp [-cellOK])) | (apply awp_cond_t; focus (simp [-cellOK]; done)) | (apply awp_cond_f; focus (simp [-cellOK]; done)) | (refine awp_cond ?_; simp [-cellOK]; refine ⟨?_, ?_⟩ <;> intro hc) | fail)
  refine stepG_calls hsz hX1 run_p2 h1 (f := 100) (by decide) (by decide) fun τ2 v2 w2 h2 k2 => ?_
  have hO2 := hO1.step k2
  change PbR ip (goP 100 px1 ph1).1.1 (goP 100 px1 ph1).1.2 v2 w2 τ2 at h2
  rw [show (100 : Int).toNat = 100 from rfl]
  rw [run_p3]
  rw [run_p4] at h2
  generalize (goP 100 px1 ph1).1.1 = X2 at h2
  clear h1 hR
  have hE2 := hES.trans hO2.ext
  obtain ⟨d, v3, t3, w3, u3, nx3, r3, m3, _⟩ := h2.ob
  (try ((first | with_reducible refine dops_go ?_ | with_reducible refine OKv_go ?_ | with_reducible refine OKr_go ?_); simp [-cellOK])); repeat' (first | refine awp_seq ?_ | refine awp_block ?_ | (refine awp_skip ?_; try simp) | (refine awp_exit ?_; try simp) | (refine awp_ret ?_; try simp) | ((first | refine awp_reg ?_ | refine awp_drawT (fun _ => false) mixed (by decide +kernel) ?_ | refine awp_drawT isCallO mixed (by decide +kernel) ?_); simp [-cellOK]) | (refine guarded_split ?_ ?_ <;> (intro hg; simp only [hg]; simp [-cellOK])) | (apply awp_cond_t; focus (simp [-cellOK]; done)) | (apply awp_cond_f; focus (simp [-cellOK]; done)) | (refine awp_cond ?_; simp [-cellOK]; refine ⟨?_, ?_⟩ <;> intro hc) | fail)
  refine verdict_calls hsz h2 fun τ3 hE3 => ?_
  have m3 : τ3.m ip = some (pbOb X2 d v3 t3 w3 u3 nx3 true r3) := hE3.1 _ _ m3
  have hE4 := hE2.trans hE3
  generalize hV : (⟨false, 0, 20, ⟨[0, 1, 2], 2, ⟨0, 0⟩⟩⟩ : Vd) = V
  have v1 : V.holds = false := by rw [← hV]
  have v2 : V.addr = 20 := by rw [← hV]
  have hvp : setPart vd0AV 0 (vdAV V false).cells = vdAV V false := rfl
  (try ((first | with_reducible refine dops_go ?_ | with_reducible refine OKv_go ?_ | with_reducible refine OKr_go ?_); simp [-cellOK, vd0_fold, hvp, vd0_cells, vd_cells, vd0_put, vd_fold, new_m, set_m, new_nx', v1, v2])); repeat' (first | refine awp_seq ?_ | refine awp_block ?_ | (refine awp_skip ?_; try simp) | (refine awp_exit ?_; try simp) | (refine awp_ret ?_; try simp) | ((first | refine awp_reg ?_ | refine awp_drawT (fun _ => false) mixed (by decide +kernel) ?_ | refine awp_drawT isCallO mixed (by decide +kernel) ?_); simp [-cellOK, vd0_fold, hvp, vd0_cells, vd_cells, vd0_put, vd_fold, new_m, set_m, new_nx', v1, v2]) | (refine guarded_split ?_ ?_ <;> (intro hg; simp only [hg]; simp [-cellOK, vd0_fold, hvp, vd0_cells, vd_cells, vd0_put, vd_fold, new_m, set_m, new_nx', v1, v2])) | (apply awp_cond_t; focus (simp [-cellOK, vd0_fold, hvp, vd0_cells, vd_cells, vd0_put, vd_fold, new_m, set_m, new_nx', v1, v2]; done)) | (apply awp_cond_f; focus (simp [-cellOK, vd0_fold, hvp, vd0_cells, vd_cells, vd0_put, vd_fold, new_m, set_m, new_nx', v1, v2]; done)) | (refine awp_cond ?_; simp [-cellOK, vd0_fold, hvp, vd0_cells, vd_cells, vd0_put, vd_fold, new_m, set_m, new_nx', v1, v2]; refine ⟨?_, ?_⟩ <;> intro hc) | fail)
  refine done_calls (X := X2) ((show Ext τ3 _ from (by repeat (first | assumption | exact Ext.refl _ | refine ext_new' ?_ | refine Ext.setF ?_ (by first | assumption | (simp [new_nx', St.set, fresh_none]; done) | exact ext_fresh (by assumption))))).1 _ _ m3) ?_
  (try ((first | with_reducible refine dops_go ?_ | with_reducible refine OKv_go ?_ | with_reducible refine OKr_go ?_); simp [-cellOK, vd0_fold, hvp, vd0_cells, vd_cells, vd0_put, vd_fold, new_m, set_m, new_nx', v1, v2])); repeat' (first | refine awp_seq ?_ | refine awp_block ?_ | (refine awp_skip ?_; try simp) | (refine awp_exit ?_; try simp) | (refine awp_ret ?_; try simp) | (refine retP_same (by simp) ?_; simp) | (refine retP_no (by simp) (by simp [noIds]) (by repeat (first | assumption | exact Ext.refl _ | refine ext_new' ?_ | refine Ext.setF ?_ (by first | assumption | (simp [new_nx', St.set, fresh_none]; done) | exact ext_fresh (by assumption)))) ?_; simp [-cellOK, vd0_fold, hvp, vd0_cells, vd_cells, vd0_put, vd_fold, new_m, set_m, new_nx', v1, v2, new_m, set_m, new_nx']) | ((first | refine awp_reg ?_ | refine awp_drawT (fun _ => false) mixed (by decide +kernel) ?_ | refine awp_drawT isCallO mixed (by decide +kernel) ?_); simp [-cellOK, vd0_fold, hvp, vd0_cells, vd_cells, vd0_put, vd_fold, new_m, set_m, new_nx', v1, v2]) | (refine guarded_split ?_ ?_ <;> (intro hg; simp only [hg]; simp [-cellOK, vd0_fold, hvp, vd0_cells, vd_cells, vd0_put, vd_fold, new_m, set_m, new_nx', v1, v2])) | (apply awp_cond_t; focus (simp [-cellOK, vd0_fold, hvp, vd0_cells, vd_cells, vd0_put, vd_fold, new_m, set_m, new_nx', v1, v2]; done)) | (apply awp_cond_f; focus (simp [-cellOK, vd0_fold, hvp, vd0_cells, vd_cells, vd0_put, vd_fold, new_m, set_m, new_nx', v1, v2]; done)) | (refine awp_cond ?_; simp [-cellOK, vd0_fold, hvp, vd0_cells, vd_cells, vd0_put, vd_fold, new_m, set_m, new_nx', v1, v2]; refine ⟨?_, ?_⟩ <;> intro hc) | fail)
end Go.Proofs.Ytanimmdlgmkmkaa.Av


/- Probes: the law ProbeCut walked. -/
namespace Go.Proofs.Ytanimmdlgmkmkaa.Av
open Go
set_option linter.unusedSimpArgs false
set_option linter.unusedVariables false
set_option maxRecDepth 100000
set_option maxHeartbeats 4000000
set_option pp.maxSteps 600

/-- What a probe holds. -/
def obj (ip : Id) (v w : AV) (i : Id) : Prop := i = ip ∨ isAt v i ∨ isAt w i
theorem OwnB.hasO {σ : St} {v : AV} {es : List AV} (h : OwnB σ v es) {i : Id} (hi : isAt v i) : ∃ o, σ.m i = some o := by
  rcases h with ⟨_, rfl⟩ | ⟨j, rfl, hj, hm⟩
  · exact absurd hi (nilAV_at i)
  · obtain ⟨l, e⟩ := hi
    injection e with e; subst e; exact ⟨_, hm⟩
theorem PbR.hasO {ip : Id} {X : PB} {ph : Ph} {v w : AV} {σ : St} (h : PbR ip X ph v w σ) {i : Id} (hi : obj ip v w i) : ∃ o, σ.m i = some o := by
  rcases hi with rfl | hi
  · obtain ⟨d, v1, t, w1, u, nx, r, m, _⟩ := h.ob; exact ⟨_, m⟩
  · cases ph with
    | one p d =>
      obtain ⟨rfl, hB, _⟩ := h
      rcases hi with hi | hi
      · exact hB.hasO hi
      · exact absurd hi (nilAV_at i)
    | two p d =>
      obtain ⟨hB, hdis, k5, s, ss, r, rs, x, hS, hP, hw, hv, m⟩ := h
      rcases hi with hi | hi
      · exact hv.hasO hi
      · exact hB.hasO hi
    | fin V =>
      obtain ⟨rfl, hB, _⟩ := h
      rcases hi with hi | hi
      · exact hB.hasO hi
      · exact absurd hi (nilAV_at i)
theorem PbR.up {ip : Id} {X : PB} {ph : Ph} {v w : AV} {σ τ : St} (h : PbR ip X ph v w σ) (k : ∀ i o, obj ip v w i → σ.m i = some o → τ.m i = some o) : PbR ip X ph v w τ := by
  have kv : ∀ {es}, OwnB σ v es → OwnB τ v es := fun h => h.up fun i o hi e => k i o (.inr (.inl hi)) e
  have kw : ∀ {es}, OwnB σ w es → OwnB τ w es := fun h => h.up fun i o hi e => k i o (.inr (.inr hi)) e
  cases ph with
  | one p d =>
    obtain ⟨e, hB, s, ss, r, rs, x, hS, hP, hw, m⟩ := h
    exact ⟨e, kv hB, s, ss, r, rs, x, hS, hP, hw, k ip _ (.inl rfl) m⟩
  | two p d =>
    obtain ⟨hB, hdis, k5, s, ss, r, rs, x, hS, hP, hw, hv, m⟩ := h
    exact ⟨kw hB, hdis, k5, s, ss, r, rs, x, hS, hP, hw, kv hv, k ip _ (.inl rfl) m⟩
  | fin V =>
    obtain ⟨e, hB, hl, d, v', t, w', u, nx, m⟩ := h
    exact ⟨e, kv hB, hl, d, v', t, w', u, nx, k ip _ (.inl rfl) m⟩
theorem ext_none {σ τ : St} (h : Ext σ τ) {i : Id} (k : τ.m i = none) : σ.m i = none := by
  cases e : σ.m i with
  | none => rfl
  | some o => rw [h.1 i o e] at k; cases k
theorem ext_del {σ τ : St} (h : Ext σ τ) {i : Id} (k : σ.m i = none) : Ext σ (τ.del i) := ⟨fun j o e => by
    have q : j ≠ i := fun q => by rw [q, k] at e; cases e
    rw [del_other q]; exact h.1 j o e, fun s => h.2 s⟩
/-- Two probes that share nothing. -/
def Apart (ip : Id) (v w : AV) (jp : Id) (a b : AV) : Prop := ∀ i, obj ip v w i → ¬ obj jp a b i
theorem Apart.symm {ip jp : Id} {v w a b : AV} (h : Apart ip v w jp a b) : Apart jp a b ip v w := fun i h1 h2 => h i h2 h1
theorem PbR.other {ip jp : Id} {X : PB} {ph : Ph} {v w a b a' b' : AV} {σ τ : St} (h : PbR ip X ph v w σ) (hd : Apart ip v w jp a b) (k : Kq jp a b a' b' σ τ) : PbR ip X ph v w τ ∧ Apart ip v w jp a' b' := by
  have hk : ∀ i o, obj ip v w i → σ.m i = some o → τ.m i = some o ∧ ¬ isAt a' i ∧ ¬ isAt b' i := fun i o hi e =>
    k.1 i o (fun q => hd i hi (.inl q)) (fun q => hd i hi (.inr (.inl q))) (fun q => hd i hi (.inr (.inr q))) e
  refine ⟨h.up fun i o hi e => (hk i o hi e).1, fun i hi hj => ?_⟩
  obtain ⟨o, e⟩ := h.hasO hi
  obtain ⟨_, h1, h2⟩ := hk i o hi e
  rcases hj with hj | hj | hj
  · exact hd i hi (.inl hj)
  · exact h1 hj
  · exact h2 hj
theorem PbR.ext {ip : Id} {X : PB} {ph : Ph} {v w : AV} {σ τ : St} (h : PbR ip X ph v w σ) (k : Ext σ τ) : PbR ip X ph v w τ := h.up fun i o _ e => k.1 i o e
theorem probeCut_calls (n m : Nw) (f g : Fl) (q : Qy) (fuel : Int) (hn : NwOK n) (hm : NwOK m) (hq : RgOK q.r) (hfu : -9223372036854775808 ≤ fuel ∧ fuel < 9223372036854775808) :
    PCalls Try.prog 9 [nw2AV n m f g, qyAV q, .raw (.int .i64 fuel)] (.raw (.bool true)) := by
  have hal := alive13_calls
  have hfit := fits12_calls n m f g q hn.w hm.w
  have hrun := run_calls n m f g q hn hm hq
  refine pbody Try.func9 rfl (N := 165) rfl rfl (by simp) (by simp [noIds]) fun σ => ?_
  repeat (refine awp_seq ?_)
  refine awp_reg ?_
  simp [-cellOK, nw2_cells, qy_cells]
  generalize hA0 : put 165 _ _ _ = A0
  have d2 : A0 2 = .raw (.int .i64 fuel) := by rw [← hA0]; simp [new_nx']
  have d3 : A0 3 = .rp ⟨3, σ.nx 3, 6⟩ 0 0 := by rw [← hA0]; simp [new_nx']
  have d4 : A0 4 = .rp ⟨4, σ.nx 4, 7⟩ 0 0 := by rw [← hA0]; simp [new_nx']
  clear hA0
  refine awp_freeze ⟨3, σ.nx 3, 6⟩ ?_
  refine awp_freeze ⟨4, σ.nx 4, 7⟩ ?_
  generalize hτ : St.del _ _ = τ
  generalize hA : (fun t => giveUp _ _ _) = A
  have a2 : A 2 = .raw (.int .i64 fuel) := by rw [← hA, ← hτ]; simp [giveUp, St.new, St.del, d2]
  have a3 : A 3 = .pp (nw2AV n m f g).cells 0 := by rw [← hA, ← hτ]; simp [giveUp, St.new, St.del, nw2_cells, d3]
  have a4 : A 4 = .pp (qyAV q).cells 0 := by rw [← hA, ← hτ]; simp [giveUp, St.new, St.del, qy_cells, d4]
  have hE : Ext σ τ := by
    rw [← hτ]
    refine ⟨fun i o h => ?_, fun s => ?_⟩
    · have q1 : i ≠ ⟨3, σ.nx 3, 6⟩ := fun e => by rw [e, fresh_none] at h; cases h
      have q2 : i ≠ ⟨4, σ.nx 4, 7⟩ := fun e => by rw [e, fresh_none] at h; cases h
      simp [St.del, St.new, q1, q2, h]
    · simp only [St.del, St.new]
      repeat' split
      all_goals omega
  clear hτ hA d2 d3 d4
  cases hf : fits12 n m q with
  | false =>
    rw [hf] at hfit
    (try ((first | with_reducible refine dops_go ?_ | with_reducible refine OKv_go ?_ | with_reducible refine OKr_go ?_); simp [-cellOK, a2, a3, a4, nw2_cells, nw2_fold, qy_cells, qy_fold])); repeat' (first | refine awp_seq ?_ | refine awp_block ?_ | (refine awp_skip ?_; try simp) | (refine awp_exit ?_; try simp) | (refine awp_ret ?_; try simp) | (refine retP_same (by simp) ?_; simp) | (refine retP_no (by simp) (by simp [noIds]) (by repeat (first | assumption | exact Ext.refl _ | refine ext_new' ?_ | refine Ext.setF ?_ (by first | assumption | (simp [new_nx', St.set, fresh_none]; done) | exact ext_fresh (by assumption)))) ?_; simp [-cellOK, a2, a3, a4, nw2_cells, nw2_fold, qy_cells, qy_fold, new_m, set_m, new_nx']) | ((first | refine awp_reg ?_ | refine awp_drawT (fun _ => false) mixed (by decide +kernel) ?_ | refine awp_drawT isCallO mixed (by decide +kernel) ?_ | refine PCalls.use (hfit) ?_ | refine Or.inl ⟨_, Or.inl (hfit), ?_⟩ | refine PCalls.use (hal) ?_ | refine Or.inl ⟨_, Or.inl (hal), ?_⟩); simp [-cellOK, a2, a3, a4, nw2_cells, nw2_fold, qy_cells, qy_fold]) | (refine guarded_split ?_ ?_ <;> (intro hg; simp only [hg]; simp [-cellOK, a2, a3, a4, nw2_cells, nw2_fold, qy_cells, qy_fold])) | (apply awp_cond_t; focus (simp [-cellOK, a2, a3, a4, nw2_cells, nw2_fold, qy_cells, qy_fold]; done)) | (apply awp_cond_f; focus (simp [-cellOK, a2, a3, a4, nw2_cells, nw2_fold, qy_cells, qy_fold]; done)) | (refine awp_cond ?_; simp [-cellOK, a2, a3, a4, nw2_cells, nw2_fold, qy_cells, qy_fold]; refine ⟨?_, ?_⟩ <;> intro hc) | fail)
  | true =>
  rw [hf] at hfit
  obtain ⟨rn, rm⟩ := fits12_right' hf
  cases hab : askedB n m q with
  | false =>
    rw [run_no hab] at hrun
    (try ((first | with_reducible refine dops_go ?_ | with_reducible refine OKv_go ?_ | with_reducible refine OKr_go ?_); simp [-cellOK, a2, a3, a4, nw2_cells, nw2_fold, nw_fold, qy_cells, qy_fold])); repeat' (first | refine awp_seq ?_ | refine awp_block ?_ | (refine awp_skip ?_; try simp) | (refine awp_exit ?_; try simp) | (refine awp_ret ?_; try simp) | ((first | refine awp_reg ?_ | refine awp_drawT (fun _ => false) mixed (by decide +kernel) ?_ | refine awp_drawT isCallO mixed (by decide +kernel) ?_ | refine PCalls.use (hfit) ?_ | refine Or.inl ⟨_, Or.inl (hfit), ?_⟩); simp [-cellOK, a2, a3, a4, nw2_cells, nw2_fold, nw_fold, qy_cells, qy_fold]) | (refine guarded_split ?_ ?_ <;> (intro hg; simp only [hg]; simp [-cellOK, a2, a3, a4, nw2_cells, nw2_fold, nw_fold, qy_cells, qy_fold])) | (apply awp_cond_t; focus (simp [-cellOK, a2, a3, a4, nw2_cells, nw2_fold, nw_fold, qy_cells, qy_fold]; done)) | (apply awp_cond_f; focus (simp [-cellOK, a2, a3, a4, nw2_cells, nw2_fold, nw_fold, qy_cells, qy_fold]; done)) | (refine awp_cond ?_; simp [-cellOK, a2, a3, a4, nw2_cells, nw2_fold, nw_fold, qy_cells, qy_fold]; refine ⟨?_, ?_⟩ <;> intro hc) | fail)
    refine pnew_calls n m f g q hn hm hq (fun _ τ1 hE1 => ?_) (fun h => by rw [hab] at h; cases h) (fun h => by rw [hab] at h; cases h) (fun _ _ h => by rw [hab] at h; cases h)
    (try ((first | with_reducible refine dops_go ?_ | with_reducible refine OKv_go ?_ | with_reducible refine OKr_go ?_); simp [-cellOK, a2, a3, a4, nw2_cells, nw2_fold, nw_fold, qy_cells, qy_fold])); repeat' (first | refine awp_seq ?_ | refine awp_block ?_ | (refine awp_skip ?_; try simp) | (refine awp_exit ?_; try simp) | (refine awp_ret ?_; try simp) | ((first | refine awp_reg ?_ | refine awp_drawT (fun _ => false) mixed (by decide +kernel) ?_ | refine awp_drawT isCallO mixed (by decide +kernel) ?_ | refine PCalls.use (hfit) ?_ | refine Or.inl ⟨_, Or.inl (hfit), ?_⟩); simp [-cellOK, a2, a3, a4, nw2_cells, nw2_fold, nw_fold, qy_cells, qy_fold]) | (refine guarded_split ?_ ?_ <;> (intro hg; simp only [hg]; simp [-cellOK, a2, a3, a4, nw2_cells, nw2_fold, nw_fold, qy_cells, qy_fold])) | (apply awp_cond_t; focus (simp [-cellOK, a2, a3, a4, nw2_cells, nw2_fold, nw_fold, qy_cells, qy_fold]; done)) | (apply awp_cond_f; focus (simp [-cellOK, a2, a3, a4, nw2_cells, nw2_fold, nw_fold, qy_cells, qy_fold]; done)) | (refine awp_cond ?_; simp [-cellOK, a2, a3, a4, nw2_cells, nw2_fold, nw_fold, qy_cells, qy_fold]; refine ⟨?_, ?_⟩ <;> intro hc) | fail)
    refine pnew_calls n m f g q hn hm hq (fun _ τ2 hE2 => ?_) (fun h => by rw [hab] at h; cases h) (fun h => by rw [hab] at h; cases h) (fun _ _ h => by rw [hab] at h; cases h)
    have hEτ := (hE.trans hE1).trans hE2
    (try ((first | with_reducible refine dops_go ?_ | with_reducible refine OKv_go ?_ | with_reducible refine OKr_go ?_); simp [-cellOK, a2, a3, a4, nw2_cells, nw2_fold, nw_fold, qy_cells, qy_fold, vd0_fold, vd_cells, vd_fold, vd0_put, new_m, set_m, new_nx'])); repeat' (first | refine awp_seq ?_ | refine awp_block ?_ | (refine awp_skip ?_; try simp) | (refine awp_exit ?_; try simp) | (refine awp_ret ?_; try simp) | (refine retP_same (by simp) ?_; simp) | (refine retP_no (by simp) (by simp [noIds]) (by repeat (first | assumption | exact Ext.refl _ | refine ext_new' ?_ | refine Ext.setF ?_ (by first | assumption | (simp [new_nx', St.set, fresh_none]; done) | exact ext_fresh (by assumption)))) ?_; simp [-cellOK, a2, a3, a4, nw2_cells, nw2_fold, nw_fold, qy_cells, qy_fold, vd0_fold, vd_cells, vd_fold, vd0_put, new_m, set_m, new_nx', new_m, set_m, new_nx']) | ((first | refine awp_reg ?_ | refine awp_drawT (fun _ => false) mixed (by decide +kernel) ?_ | refine awp_drawT isCallO mixed (by decide +kernel) ?_ | refine PCalls.use (hfit) ?_ | refine Or.inl ⟨_, Or.inl (hfit), ?_⟩ | refine PCalls.use (hrun) ?_ | refine Or.inl ⟨_, Or.inl (hrun), ?_⟩ | refine PCalls.use (hal) ?_ | refine Or.inl ⟨_, Or.inl (hal), ?_⟩); simp [-cellOK, a2, a3, a4, nw2_cells, nw2_fold, nw_fold, qy_cells, qy_fold, vd0_fold, vd_cells, vd_fold, vd0_put, new_m, set_m, new_nx']) | (refine guarded_split ?_ ?_ <;> (intro hg; simp only [hg]; simp [-cellOK, a2, a3, a4, nw2_cells, nw2_fold, nw_fold, qy_cells, qy_fold, vd0_fold, vd_cells, vd_fold, vd0_put, new_m, set_m, new_nx'])) | (apply awp_cond_t; focus (simp [-cellOK, a2, a3, a4, nw2_cells, nw2_fold, nw_fold, qy_cells, qy_fold, vd0_fold, vd_cells, vd_fold, vd0_put, new_m, set_m, new_nx']; done)) | (apply awp_cond_f; focus (simp [-cellOK, a2, a3, a4, nw2_cells, nw2_fold, nw_fold, qy_cells, qy_fold, vd0_fold, vd_cells, vd_fold, vd0_put, new_m, set_m, new_nx']; done)) | (refine awp_cond ?_; simp [-cellOK, a2, a3, a4, nw2_cells, nw2_fold, nw_fold, qy_cells, qy_fold, vd0_fold, vd_cells, vd_fold, vd0_put, new_m, set_m, new_nx']; refine ⟨?_, ?_⟩ <;> intro hc) | fail)
  | true =>
  obtain ⟨s, ss, T, hs, hp, hends, hT1, hTb, hT2⟩ := run_ends f g rn rm hq hab
  have hr0 : (runQ n m q).2 = 0 := by rw [run_pb hab]
  rw [hr0] at hrun
  have hvl := run_len n m q
  generalize (runQ n m q).1 = V at hends hrun hvl
  (try ((first | with_reducible refine dops_go ?_ | with_reducible refine OKv_go ?_ | with_reducible refine OKr_go ?_); simp [-cellOK, a2, a3, a4, nw2_cells, nw2_fold, nw_fold, qy_cells, qy_fold])); repeat' (first | refine awp_seq ?_ | refine awp_block ?_ | (refine awp_skip ?_; try simp) | (refine awp_exit ?_; try simp) | (refine awp_ret ?_; try simp) | ((first | refine awp_reg ?_ | refine awp_drawT (fun _ => false) mixed (by decide +kernel) ?_ | refine awp_drawT isCallO mixed (by decide +kernel) ?_ | refine PCalls.use (hfit) ?_ | refine Or.inl ⟨_, Or.inl (hfit), ?_⟩); simp [-cellOK, a2, a3, a4, nw2_cells, nw2_fold, nw_fold, qy_cells, qy_fold]) | (refine guarded_split ?_ ?_ <;> (intro hg; simp only [hg]; simp [-cellOK, a2, a3, a4, nw2_cells, nw2_fold, nw_fold, qy_cells, qy_fold])) | (apply awp_cond_t; focus (simp [-cellOK, a2, a3, a4, nw2_cells, nw2_fold, nw_fold, qy_cells, qy_fold]; done)) | (apply awp_cond_f; focus (simp [-cellOK, a2, a3, a4, nw2_cells, nw2_fold, nw_fold, qy_cells, qy_fold]; done)) | (refine awp_cond ?_; simp [-cellOK, a2, a3, a4, nw2_cells, nw2_fold, nw_fold, qy_cells, qy_fold]; refine ⟨?_, ?_⟩ <;> intro hc) | fail)
  refine pnew_calls n m f g q hn hm hq (fun h => by rw [hab] at h; cases h) (fun _ => ⟨s, ss, hs⟩) (fun _ => hp) (fun s1 ss1 _ hs1 τ1 ip hsz hip hR1 hE1 => ?_)
  rw [hs] at hs1
  injection hs1 with e1 e2
  subst e1; subst e2
  (try ((first | with_reducible refine dops_go ?_ | with_reducible refine OKv_go ?_ | with_reducible refine OKr_go ?_); simp [-cellOK, a2, a3, a4, nw2_cells, nw2_fold, nw_fold, qy_cells, qy_fold])); repeat' (first | refine awp_seq ?_ | refine awp_block ?_ | (refine awp_skip ?_; try simp) | (refine awp_exit ?_; try simp) | (refine awp_ret ?_; try simp) | ((first | refine awp_reg ?_ | refine awp_drawT (fun _ => false) mixed (by decide +kernel) ?_ | refine awp_drawT isCallO mixed (by decide +kernel) ?_ | refine PCalls.use (hfit) ?_ | refine Or.inl ⟨_, Or.inl (hfit), ?_⟩); simp [-cellOK, a2, a3, a4, nw2_cells, nw2_fold, nw_fold, qy_cells, qy_fold]) | (refine guarded_split ?_ ?_ <;> (intro hg; simp only [hg]; simp [-cellOK, a2, a3, a4, nw2_cells, nw2_fold, nw_fold, qy_cells, qy_fold])) | (apply awp_cond_t; focus (simp [-cellOK, a2, a3, a4, nw2_cells, nw2_fold, nw_fold, qy_cells, qy_fold]; done)) | (apply awp_cond_f; focus (simp [-cellOK, a2, a3, a4, nw2_cells, nw2_fold, nw_fold, qy_cells, qy_fold]; done)) | (refine awp_cond ?_; simp [-cellOK, a2, a3, a4, nw2_cells, nw2_fold, nw_fold, qy_cells, qy_fold]; refine ⟨?_, ?_⟩ <;> intro hc) | fail)
  refine pnew_calls n m f g q hn hm hq (fun h => by rw [hab] at h; cases h) (fun _ => ⟨s, ss, hs⟩) (fun _ => hp) (fun s1 ss1 _ hs1 τ2 jp hsz2 hjp hR2 hE2 => ?_)
  rw [hs] at hs1
  injection hs1 with e1 e2
  subst e1; subst e2
  (try ((first | with_reducible refine dops_go ?_ | with_reducible refine OKv_go ?_ | with_reducible refine OKr_go ?_); simp [-cellOK, a2, a3, a4, nw2_cells, nw2_fold, nw_fold, qy_cells, qy_fold, vd0_fold, vd0_cells, vd_cells, vd_fold, vd0_put, new_m, set_m, new_nx'])); repeat' (first | refine awp_seq ?_ | refine awp_block ?_ | (refine awp_skip ?_; try simp) | (refine awp_exit ?_; try simp) | (refine awp_ret ?_; try simp) | ((first | refine awp_reg ?_ | refine awp_drawT (fun _ => false) mixed (by decide +kernel) ?_ | refine awp_drawT isCallO mixed (by decide +kernel) ?_ | refine PCalls.use (hfit) ?_ | refine Or.inl ⟨_, Or.inl (hfit), ?_⟩ | refine PCalls.use (hrun) ?_ | refine Or.inl ⟨_, Or.inl (hrun), ?_⟩); simp [-cellOK, a2, a3, a4, nw2_cells, nw2_fold, nw_fold, qy_cells, qy_fold, vd0_fold, vd0_cells, vd_cells, vd_fold, vd0_put, new_m, set_m, new_nx']) | (refine guarded_split ?_ ?_ <;> (intro hg; simp only [hg]; simp [-cellOK, a2, a3, a4, nw2_cells, nw2_fold, nw_fold, qy_cells, qy_fold, vd0_fold, vd0_cells, vd_cells, vd_fold, vd0_put, new_m, set_m, new_nx'])) | (apply awp_cond_t; focus (simp [-cellOK, a2, a3, a4, nw2_cells, nw2_fold, nw_fold, qy_cells, qy_fold, vd0_fold, vd0_cells, vd_cells, vd_fold, vd0_put, new_m, set_m, new_nx']; done)) | (apply awp_cond_f; focus (simp [-cellOK, a2, a3, a4, nw2_cells, nw2_fold, nw_fold, qy_cells, qy_fold, vd0_fold, vd0_cells, vd_cells, vd_fold, vd0_put, new_m, set_m, new_nx']; done)) | (refine awp_cond ?_; simp [-cellOK, a2, a3, a4, nw2_cells, nw2_fold, nw_fold, qy_cells, qy_fold, vd0_fold, vd0_cells, vd_cells, vd_fold, vd0_put, new_m, set_m, new_nx']; refine ⟨?_, ?_⟩ <;> intro hc) | fail)
  generalize hA1 : put 165 _ _ _ = A1
  have b2 : A1 2 = .raw (.int .i64 fuel) := by rw [← hA1]; simp [a2]
  have b3 : A1 3 = .pp (nw2AV n m f g).cells 0 := by rw [← hA1]; simp [a3]
  have b4 : A1 4 = .pp (qyAV q).cells 0 := by rw [← hA1]; simp [a4]
  have b8 : A1 8 = .rp ip 0 0 := by rw [← hA1]; simp
  have b10 : A1 10 = .rp jp 0 0 := by rw [← hA1]; simp
  have b12 : A1 12 = .rp ⟨12, τ2.nx 12, 7⟩ 0 0 := by rw [← hA1]; simp
  have b14 : A1 14 = .raw (.int .i64 0) := by rw [← hA1]; simp
  have b15 : A1 15 = .raw (.int .i64 0) := by rw [← hA1]; simp
  clear hA1
  have f12 : τ2.m ⟨12, τ2.nx 12, 7⟩ = none := fresh_none _ _ _
  generalize hST : St.set _ _ _ = ST
  have m12 : ST.m ⟨12, τ2.nx 12, 7⟩ = some (.buf [vdAV V false]) := by rw [← hST]; simp [set_m, new_m]
  have hES : Ext τ2 ST := by rw [← hST]; exact (by repeat (first | assumption | exact Ext.refl _ | refine ext_new' ?_ | refine Ext.setF ?_ (by first | assumption | (simp [new_nx', St.set, fresh_none]; done) | exact ext_fresh (by assumption))))
  clear hST
  have i12 : ip ≠ ⟨12, τ2.nx 12, 7⟩ := fun e => by rw [e] at hsz; cases hsz
  have j12 : jp ≠ ⟨12, τ2.nx 12, 7⟩ := fun e => by rw [e] at hsz2; cases hsz2
  refine awp_freeze ⟨12, τ2.nx 12, 7⟩ ?_
  generalize hA2 : (fun t => giveUp _ _ _) = A2
  have c2 : A2 2 = .raw (.int .i64 fuel) := by rw [← hA2]; show giveUp _ _ (A1 2) = _; rw [b2]; rfl
  have c3 : A2 3 = .pp (nw2AV n m f g).cells 0 := by rw [← hA2]; show giveUp _ _ (A1 3) = _; rw [b3]; simp [giveUp, nw2_cells]
  have c4 : A2 4 = .pp (qyAV q).cells 0 := by rw [← hA2]; show giveUp _ _ (A1 4) = _; rw [b4]; simp [giveUp, qy_cells]
  have c8 : A2 8 = .rp ip 0 0 := by rw [← hA2]; show giveUp _ _ (A1 8) = _; rw [b8]; exact giveUp_rp_ne i12
  have c10 : A2 10 = .rp jp 0 0 := by rw [← hA2]; show giveUp _ _ (A1 10) = _; rw [b10]; exact giveUp_rp_ne j12
  have c12 : A2 12 = .pp (vdAV V false).cells 0 := by rw [← hA2]; show giveUp _ _ (A1 12) = _; rw [b12, giveUp_rp_made (by simp [St.del]) m12 rfl]
  have c14 : A2 14 = .raw (.int .i64 0) := by rw [← hA2]; show giveUp _ _ (A1 14) = _; rw [b14]; rfl
  have c15 : A2 15 = .raw (.int .i64 0) := by rw [← hA2]; show giveUp _ _ (A1 15) = _; rw [b15]; rfl
  clear hA2 b2 b3 b4 b8 b10 b12 b14 b15
  have hEd := ext_del hES f12
  generalize ST.del ⟨12, τ2.nx 12, 7⟩ = ρ0 at hEd ⊢
  have hip0 := ext_none hE hip
  have hjp0 := ext_none (hE.trans hE1) hjp
  have hE0 : Ext σ ρ0 := ((hE.trans hE1).trans hE2).trans hEd
  have hR1' := (hR1.ext hE2).ext hEd
  have hR2' := hR2.ext hEd
  have hij : ip ≠ jp := fun e => by
    obtain ⟨o, h⟩ := hR1.hasO (.inl rfl)
    rw [e, hjp] at h; cases h
  have hap : Apart ip nilAV nilAV jp nilAV nilAV := by
    rintro i (h | h | h) (k | k | k)
    · exact hij (h.symm.trans k)
    all_goals first | exact absurd h (nilAV_at i) | exact absurd k (nilAV_at i)
  have hO1 : Off σ ip nilAV nilAV ρ0 := ⟨hE0, hip0, fun i o _ => ⟨nilAV_at i, nilAV_at i⟩⟩
  have hO2 : Off σ jp nilAV nilAV ρ0 := ⟨hE0, hjp0, fun i o _ => ⟨nilAV_at i, nilAV_at i⟩⟩
  have hX0 : OkB (pb0 n m f g q) := pb0_ok hn hm hp
  clear hEd hES m12 i12 j12 f12 hE2 hE1 hE hR1 hR2 hip hjp
  refine awp_loopH (fun n' B ρ => B 2 = .raw (.int .i64 fuel) ∧ B 3 = .pp (nw2AV n m f g).cells 0 ∧ B 4 = .pp (qyAV q).cells 0 ∧ B 8 = .rp ip 0 0 ∧ B 10 = .rp jp 0 0 ∧ B 12 = .pp (vdAV V false).cells 0 ∧
    ∃ (k : Nat) (X1 : PB) (ph1 : Ph) (v1 w1 : AV), B 14 = .raw (.int .i64 k) ∧ B 15 = .raw (.int .i64 k) ∧ k ≤ T ∧ n' = T - k ∧ OkB X1 ∧ PbR ip X1 ph1 v1 w1 ρ ∧ Ends X1 ph1 V (T - k) ∧ Off σ ip v1 w1 ρ ∧ PbR jp (pb0 n m f g q) (.one [] s) nilAV nilAV ρ ∧ Apart ip v1 w1 jp nilAV nilAV) T ?_ ?_
  · exact ⟨c2, c3, c4, c8, c10, c12, 0, _, _, nilAV, nilAV, c14, c15, by omega, by omega, hX0, hR1', hends, hO1, hR2', hap⟩
  clear c2 c3 c4 c8 c10 c12 c14 c15 hR1' hR2' hap hO1 hO2 hE0
  rintro n' B ρ ⟨c2, c3, c4, c8, c10, c12, k, X1, ph1, v1, w1, c14, c15, hk, rfl, hX1, hR1, hN1, hO1, hR2, hap⟩ I1 hI1
  obtain ⟨d', v2, t', w2, u', nx', r', m', hnx⟩ := hR1.ob
  have hk4 : ((k : Int) < 40000) = True := eq_true (by omega)
  by_cases hlt : k < T
  · have hd1 : ph1.done = false := by
      rw [show T - k = (T - k - 1) + 1 by omega] at hN1
      exact hN1.not
    rw [hd1] at m'
    have w1' : IntKind.i64.wrap ((k : Int) + 1) = ((k + 1 : Nat) : Int) := by rw [wrap64 (by omega) (by omega)]; omega
    (try ((first | with_reducible refine dops_go ?_ | with_reducible refine OKv_go ?_ | with_reducible refine OKr_go ?_); simp [-cellOK, c8, c14, c15, hk4])); repeat' (first | refine awp_seq ?_ | refine awp_block ?_ | (refine awp_skip ?_; try simp) | (refine awp_exit ?_; try simp) | (refine awp_ret ?_; try simp) | ((first | refine awp_reg ?_ | refine awp_drawT (fun _ => false) mixed (by decide +kernel) ?_ | refine awp_drawT isCallO mixed (by decide +kernel) ?_); simp [-cellOK, c8, c14, c15, hk4]) | (refine guarded_split ?_ ?_ <;> (intro hg; simp only [hg]; simp [-cellOK, c8, c14, c15, hk4])) | (apply awp_cond_t; focus (simp [-cellOK, c8, c14, c15, hk4]; done)) | (apply awp_cond_f; focus (simp [-cellOK, c8, c14, c15, hk4]; done)) | (refine awp_cond ?_; simp [-cellOK, c8, c14, c15, hk4]; refine ⟨?_, ?_⟩ <;> intro hc) | fail)
    refine done_calls m' ?_
    (try ((first | with_reducible refine dops_go ?_ | with_reducible refine OKv_go ?_ | with_reducible refine OKr_go ?_); simp [-cellOK, c8, c14, c15, hk4])); repeat' (first | refine awp_seq ?_ | refine awp_block ?_ | (refine awp_skip ?_; try simp) | (refine awp_exit ?_; try simp) | (refine awp_ret ?_; try simp) | ((first | refine awp_reg ?_ | refine awp_drawT (fun _ => false) mixed (by decide +kernel) ?_ | refine awp_drawT isCallO mixed (by decide +kernel) ?_); simp [-cellOK, c8, c14, c15, hk4]) | (refine guarded_split ?_ ?_ <;> (intro hg; simp only [hg]; simp [-cellOK, c8, c14, c15, hk4])) | (apply awp_cond_t; focus (simp [-cellOK, c8, c14, c15, hk4]; done)) | (apply awp_cond_f; focus (simp [-cellOK, c8, c14, c15, hk4]; done)) | (refine awp_cond ?_; simp [-cellOK, c8, c14, c15, hk4]; refine ⟨?_, ?_⟩ <;> intro hc) | fail)
    refine stepG_calls hsz hX1 hd1 hR1 (f := 1) (by decide) (by decide) fun ρ1 v3 w3 hR3 hQ => ?_
    obtain ⟨hg1, hg2⟩ := hN1.go 1
    rw [show (1 : Int).toNat = 1 from rfl] at hR3 ⊢
    rw [hg1, show min 1 (T - k) = 1 by omega]
    (try ((first | with_reducible refine dops_go ?_ | with_reducible refine OKv_go ?_ | with_reducible refine OKr_go ?_); simp [-cellOK, c8, c14, c15, w1'])); repeat' (first | refine awp_seq ?_ | refine awp_block ?_ | (refine awp_skip ?_; try simp) | (refine awp_exit ?_; try simp) | (refine awp_ret ?_; try simp) | ((first | refine awp_reg ?_ | refine awp_drawT (fun _ => false) mixed (by decide +kernel) ?_ | refine awp_drawT isCallO mixed (by decide +kernel) ?_); simp [-cellOK, c8, c14, c15, w1']) | (refine guarded_split ?_ ?_ <;> (intro hg; simp only [hg]; simp [-cellOK, c8, c14, c15, w1'])) | (apply awp_cond_t; focus (simp [-cellOK, c8, c14, c15, w1']; done)) | (apply awp_cond_f; focus (simp [-cellOK, c8, c14, c15, w1']; done)) | (refine awp_cond ?_; simp [-cellOK, c8, c14, c15, w1']; refine ⟨?_, ?_⟩ <;> intro hc) | fail)
    obtain ⟨o1, o2⟩ := hR2.other hap.symm hQ
    exact hI1 (T - (k + 1)) _ _ (by omega) ⟨by simp [c2], by simp [c3], by simp [c4], by simp [c8], by simp [c10], by simp [c12], k + 1, _, _, v3, w3, by simp, by simp, by omega, rfl, hX1.go 1 _, hR3, hg2.cast (by omega), hO1.step hQ, o1, o2.symm⟩
  · have hkT : k = T := by omega
    subst hkT
    rw [Nat.sub_self] at hN1
    have := hN1.done
    subst this
    (try ((first | with_reducible refine dops_go ?_ | with_reducible refine OKv_go ?_ | with_reducible refine OKr_go ?_); simp [-cellOK, c8, c14, c15, hk4])); repeat' (first | refine awp_seq ?_ | refine awp_block ?_ | (refine awp_skip ?_; try simp) | (refine awp_exit ?_; try simp) | (refine awp_ret ?_; try simp) | ((first | refine awp_reg ?_ | refine awp_drawT (fun _ => false) mixed (by decide +kernel) ?_ | refine awp_drawT isCallO mixed (by decide +kernel) ?_); simp [-cellOK, c8, c14, c15, hk4]) | (refine guarded_split ?_ ?_ <;> (intro hg; simp only [hg]; simp [-cellOK, c8, c14, c15, hk4])) | (apply awp_cond_t; focus (simp [-cellOK, c8, c14, c15, hk4]; done)) | (apply awp_cond_f; focus (simp [-cellOK, c8, c14, c15, hk4]; done)) | (refine awp_cond ?_; simp [-cellOK, c8, c14, c15, hk4]; refine ⟨?_, ?_⟩ <;> intro hc) | fail)
    refine done_calls m' ?_
    (try ((first | with_reducible refine dops_go ?_ | with_reducible refine OKv_go ?_ | with_reducible refine OKr_go ?_); simp [-cellOK, c8, c14, c15, hk4, Ph.done])); repeat' (first | refine awp_seq ?_ | refine awp_block ?_ | (refine awp_skip ?_; try simp) | (refine awp_exit ?_; try simp) | (refine awp_ret ?_; try simp) | ((first | refine awp_reg ?_ | refine awp_drawT (fun _ => false) mixed (by decide +kernel) ?_ | refine awp_drawT isCallO mixed (by decide +kernel) ?_); simp [-cellOK, c8, c14, c15, hk4, Ph.done]) | (refine guarded_split ?_ ?_ <;> (intro hg; simp only [hg]; simp [-cellOK, c8, c14, c15, hk4, Ph.done])) | (apply awp_cond_t; focus (simp [-cellOK, c8, c14, c15, hk4, Ph.done]; done)) | (apply awp_cond_f; focus (simp [-cellOK, c8, c14, c15, hk4, Ph.done]; done)) | (refine awp_cond ?_; simp [-cellOK, c8, c14, c15, hk4, Ph.done]; refine ⟨?_, ?_⟩ <;> intro hc) | fail)
    clear hI1 hnx m' hk4
    have hO2 : Off σ jp nilAV nilAV ρ := ⟨hO1.ext, hjp0, fun i o _ => ⟨nilAV_at i, nilAV_at i⟩⟩
    refine awp_loopH (fun n' B ρ' => B 2 = .raw (.int .i64 fuel) ∧ B 3 = .pp (nw2AV n m f g).cells 0 ∧ B 4 = .pp (qyAV q).cells 0 ∧ B 8 = .rp ip 0 0 ∧ B 10 = .rp jp 0 0 ∧ B 12 = .pp (vdAV V false).cells 0 ∧ B 14 = .raw (.int .i64 k) ∧
      ∃ (b j : Nat) (X2 : PB) (ph2 : Ph) (v4 w4 : AV), B 18 = .raw (.int .i64 b) ∧ B 19 = .raw (.int .i64 j) ∧ j ≤ b ∧ b ≤ k ∧ n' = k - b ∧ OkB X2 ∧ PbR jp X2 ph2 v4 w4 ρ' ∧ Ends X2 ph2 V (k - b) ∧ Off σ jp v4 w4 ρ' ∧ PbR ip X1 (.fin V) v1 w1 ρ' ∧ Apart ip v1 w1 jp v4 w4) k ?_ ?_
    · exact ⟨by simp [c2], by simp [c3], by simp [c4], by simp [c8], by simp [c10], by simp [c12], by simp [c14], 0, 0, _, _, nilAV, nilAV, by simp, by simp, by omega, by omega, by omega, hX0, hR2, hends, hO2, hR1, hap⟩
    clear c2 c3 c4 c8 c10 c12 c14 c15 hR1 hR2 hap hO1 hO2
    rintro n' B ρ ⟨c2, c3, c4, c8, c10, c12, c14, b, j, X2, ph2, v4, w4, c18, c19, hj, hb, rfl, hX2, hR2, hN2, hO2, hR1, hap⟩ I1 hI1
    obtain ⟨d', v2, t', w2, u', nx', r', m', hnx⟩ := hR2.ob
    have hj4 : ((j : Int) < 40000) = True := eq_true (by omega)
    by_cases hlt : b < k
    · have hd1 : ph2.done = false := by
        rw [show k - b = (k - b - 1) + 1 by omega] at hN2
        exact hN2.not
      rw [hd1] at m'
      have wj : IntKind.i64.wrap ((j : Int) + 1) = ((j + 1 : Nat) : Int) := by rw [wrap64 (by omega) (by omega)]; omega
      (try ((first | with_reducible refine dops_go ?_ | with_reducible refine OKv_go ?_ | with_reducible refine OKr_go ?_); simp [-cellOK, c2, c10, c18, c19, hj4])); repeat' (first | refine awp_seq ?_ | refine awp_block ?_ | (refine awp_skip ?_; try simp) | (refine awp_exit ?_; try simp) | (refine awp_ret ?_; try simp) | ((first | refine awp_reg ?_ | refine awp_drawT (fun _ => false) mixed (by decide +kernel) ?_ | refine awp_drawT isCallO mixed (by decide +kernel) ?_); simp [-cellOK, c2, c10, c18, c19, hj4]) | (refine guarded_split ?_ ?_ <;> (intro hg; simp only [hg]; simp [-cellOK, c2, c10, c18, c19, hj4])) | (apply awp_cond_t; focus (simp [-cellOK, c2, c10, c18, c19, hj4]; done)) | (apply awp_cond_f; focus (simp [-cellOK, c2, c10, c18, c19, hj4]; done)) | (refine awp_cond ?_; simp [-cellOK, c2, c10, c18, c19, hj4]; refine ⟨?_, ?_⟩ <;> intro hc) | fail)
      refine done_calls m' ?_
      (try ((first | with_reducible refine dops_go ?_ | with_reducible refine OKv_go ?_ | with_reducible refine OKr_go ?_); simp [-cellOK, c2, c10, c18, c19, hj4])); repeat' (first | refine awp_seq ?_ | refine awp_block ?_ | (refine awp_skip ?_; try simp) | (refine awp_exit ?_; try simp) | (refine awp_ret ?_; try simp) | ((first | refine awp_reg ?_ | refine awp_drawT (fun _ => false) mixed (by decide +kernel) ?_ | refine awp_drawT isCallO mixed (by decide +kernel) ?_); simp [-cellOK, c2, c10, c18, c19, hj4]) | (refine guarded_split ?_ ?_ <;> (intro hg; simp only [hg]; simp [-cellOK, c2, c10, c18, c19, hj4])) | (apply awp_cond_t; focus (simp [-cellOK, c2, c10, c18, c19, hj4]; done)) | (apply awp_cond_f; focus (simp [-cellOK, c2, c10, c18, c19, hj4]; done)) | (refine awp_cond ?_; simp [-cellOK, c2, c10, c18, c19, hj4]; refine ⟨?_, ?_⟩ <;> intro hc) | fail)
      obtain ⟨z, hz⟩ : ∃ z, ((fuel % 2 ^ IntKind.i64.bits).toNat &&& 63 % 2 ^ IntKind.i64.bits) = z := ⟨_, rfl⟩
      have hz2 : z ≤ 63 := by rw [← hz]; exact Nat.le_trans Nat.and_le_right (by decide)
      rw [hz, wrap64 (n := (z : Int)) (by omega) (by omega), wrap64 (n := 1 + (z : Int)) (by omega) (by omega)]
      refine stepG_calls hsz2 hX2 hd1 hR2 (f := 1 + (z : Int)) (by omega) (by omega) fun ρ1 v5 w5 hR3 hQ => ?_
      obtain ⟨hg1, hg2⟩ := hN2.go (1 + (z : Int)).toNat
      rw [hg1]
      obtain ⟨x, hx⟩ : ∃ x, min (1 + (z : Int)).toNat (k - b) = x := ⟨_, rfl⟩
      have hx1 : 1 ≤ x ∧ x ≤ k - b := by omega
      rw [hx]
      have wb : IntKind.i64.wrap ((b : Int) + (x : Int)) = ((b + x : Nat) : Int) := by rw [wrap64 (by omega) (by omega)]; omega
      (try ((first | with_reducible refine dops_go ?_ | with_reducible refine OKv_go ?_ | with_reducible refine OKr_go ?_); simp [-cellOK, c10, c18, c19, wb, wj])); repeat' (first | refine awp_seq ?_ | refine awp_block ?_ | (refine awp_skip ?_; try simp) | (refine awp_exit ?_; try simp) | (refine awp_ret ?_; try simp) | ((first | refine awp_reg ?_ | refine awp_drawT (fun _ => false) mixed (by decide +kernel) ?_ | refine awp_drawT isCallO mixed (by decide +kernel) ?_); simp [-cellOK, c10, c18, c19, wb, wj]) | (refine guarded_split ?_ ?_ <;> (intro hg; simp only [hg]; simp [-cellOK, c10, c18, c19, wb, wj])) | (apply awp_cond_t; focus (simp [-cellOK, c10, c18, c19, wb, wj]; done)) | (apply awp_cond_f; focus (simp [-cellOK, c10, c18, c19, wb, wj]; done)) | (refine awp_cond ?_; simp [-cellOK, c10, c18, c19, wb, wj]; refine ⟨?_, ?_⟩ <;> intro hc) | fail)
      obtain ⟨o1, o2⟩ := hR1.other hap hQ
      exact hI1 (k - (b + x)) _ _ (by omega) ⟨by simp [c2], by simp [c3], by simp [c4], by simp [c8], by simp [c10], by simp [c12], by simp [c14], b + x, j + 1, _, _, v5, w5, by simp, by simp, by omega, by omega, rfl, hX2.go _ _, hR3, hg2.cast (by omega), hO2.step hQ, o1, o2⟩
    · have hbT : b = k := by omega
      subst hbT
      rw [Nat.sub_self] at hN2
      have := hN2.done
      subst this
      (try ((first | with_reducible refine dops_go ?_ | with_reducible refine OKv_go ?_ | with_reducible refine OKr_go ?_); simp [-cellOK, c2, c10, c18, c19, hj4])); repeat' (first | refine awp_seq ?_ | refine awp_block ?_ | (refine awp_skip ?_; try simp) | (refine awp_exit ?_; try simp) | (refine awp_ret ?_; try simp) | ((first | refine awp_reg ?_ | refine awp_drawT (fun _ => false) mixed (by decide +kernel) ?_ | refine awp_drawT isCallO mixed (by decide +kernel) ?_); simp [-cellOK, c2, c10, c18, c19, hj4]) | (refine guarded_split ?_ ?_ <;> (intro hg; simp only [hg]; simp [-cellOK, c2, c10, c18, c19, hj4])) | (apply awp_cond_t; focus (simp [-cellOK, c2, c10, c18, c19, hj4]; done)) | (apply awp_cond_f; focus (simp [-cellOK, c2, c10, c18, c19, hj4]; done)) | (refine awp_cond ?_; simp [-cellOK, c2, c10, c18, c19, hj4]; refine ⟨?_, ?_⟩ <;> intro hc) | fail)
      refine done_calls m' ?_
      (try ((first | with_reducible refine dops_go ?_ | with_reducible refine OKv_go ?_ | with_reducible refine OKr_go ?_); simp [-cellOK, c8, c10, c14, c18, c19, hj4, Ph.done])); repeat' (first | refine awp_seq ?_ | refine awp_block ?_ | (refine awp_skip ?_; try simp) | (refine awp_exit ?_; try simp) | (refine awp_ret ?_; try simp) | ((first | refine awp_reg ?_ | refine awp_drawT (fun _ => false) mixed (by decide +kernel) ?_ | refine awp_drawT isCallO mixed (by decide +kernel) ?_); simp [-cellOK, c8, c10, c14, c18, c19, hj4, Ph.done]) | (refine guarded_split ?_ ?_ <;> (intro hg; simp only [hg]; simp [-cellOK, c8, c10, c14, c18, c19, hj4, Ph.done])) | (apply awp_cond_t; focus (simp [-cellOK, c8, c10, c14, c18, c19, hj4, Ph.done]; done)) | (apply awp_cond_f; focus (simp [-cellOK, c8, c10, c14, c18, c19, hj4, Ph.done]; done)) | (refine awp_cond ?_; simp [-cellOK, c8, c10, c14, c18, c19, hj4, Ph.done]; refine ⟨?_, ?_⟩ <;> intro hc) | fail)
      clear hI1 hnx m' hj4
      refine verdict_calls hsz hR1 fun ρ1 hE1 => ?_
      have hR2 := hR2.ext hE1
      have hEσ := hO2.ext.trans hE1
      (try ((first | with_reducible refine dops_go ?_ | with_reducible refine OKv_go ?_ | with_reducible refine OKr_go ?_); simp [-cellOK, c8, c10, c14, c18, vd0_fold, vd0_cells, vd_cells, vd_fold, vd0_put, new_m, set_m, new_nx'])); repeat' (first | refine awp_seq ?_ | refine awp_block ?_ | (refine awp_skip ?_; try simp) | (refine awp_exit ?_; try simp) | (refine awp_ret ?_; try simp) | ((first | refine awp_reg ?_ | refine awp_drawT (fun _ => false) mixed (by decide +kernel) ?_ | refine awp_drawT isCallO mixed (by decide +kernel) ?_); simp [-cellOK, c8, c10, c14, c18, vd0_fold, vd0_cells, vd_cells, vd_fold, vd0_put, new_m, set_m, new_nx']) | (refine guarded_split ?_ ?_ <;> (intro hg; simp only [hg]; simp [-cellOK, c8, c10, c14, c18, vd0_fold, vd0_cells, vd_cells, vd_fold, vd0_put, new_m, set_m, new_nx'])) | (apply awp_cond_t; focus (simp [-cellOK, c8, c10, c14, c18, vd0_fold, vd0_cells, vd_cells, vd_fold, vd0_put, new_m, set_m, new_nx']; done)) | (apply awp_cond_f; focus (simp [-cellOK, c8, c10, c14, c18, vd0_fold, vd0_cells, vd_cells, vd_fold, vd0_put, new_m, set_m, new_nx']; done)) | (refine awp_cond ?_; simp [-cellOK, c8, c10, c14, c18, vd0_fold, vd0_cells, vd_cells, vd_fold, vd0_put, new_m, set_m, new_nx']; refine ⟨?_, ?_⟩ <;> intro hc) | fail)
      refine verdict_calls hsz2 (hR2.ext (by repeat (first | assumption | exact Ext.refl _ | refine ext_new' ?_ | refine Ext.setF ?_ (by first | assumption | (simp [new_nx', St.set, fresh_none]; done) | exact ext_fresh (by assumption))))) fun ρ2 hE2 => ?_
      have m22 : ρ2.m ⟨22, ρ1.nx 22, 7⟩ = some (.buf [vdAV V false]) := hE2.1 ⟨22, ρ1.nx 22, 7⟩ _ (by simp [set_m, new_m])
      have hEσ2 : Ext σ ρ2 := Ext.trans (Ext.trans hEσ (by repeat (first | assumption | exact Ext.refl _ | refine ext_new' ?_ | refine Ext.setF ?_ (by first | assumption | (simp [new_nx', St.set, fresh_none]; done) | exact ext_fresh (by assumption))))) hE2
      clear hE2 hE1 hR1 hR2 hO2 hap hX2
      have hbnd := pbound_calls n m f g q hn hm hq (by have := (sources_ne rn q).2; omega) (by have := parts_len rn rm q; omega) (by have := (rightN_of rn).1.p8; omega)
      have hlk := hn.links
      have hsame := vdSame_calls V V false false (by omega) (by omega)
      rw [decide_eq_true rfl] at hsame
      have hp0 : (0 < b) = True := eq_true (by omega)
      have hp0' : (0 < (b : Int)) = True := eq_true (by omega)
      have hbB : ((b : Int) ≤ boundQ n m q) = True := eq_true hTb
      generalize boundQ n m q = bq at hbnd hbB
      (try ((first | with_reducible refine dops_go ?_ | with_reducible refine OKv_go ?_ | with_reducible refine OKr_go ?_); simp [-cellOK, c3, c4, c12, c14, c18, nw2_cells, nw2_fold, nw_fold, qy_cells, qy_fold, m22, vd0_fold, vd0_cells, vd_cells, vd_fold, vd0_put, new_m, set_m, new_nx', hp0, hp0', hbB])); repeat' (first | refine awp_seq ?_ | refine awp_block ?_ | (refine awp_skip ?_; try simp) | (refine awp_exit ?_; try simp) | (refine awp_ret ?_; try simp) | (refine retP_same (by simp) ?_; simp) | (refine retP_no (by simp) (by simp [noIds]) (by repeat (first | assumption | exact Ext.refl _ | refine ext_new' ?_ | refine Ext.setF ?_ (by first | assumption | (simp [new_nx', St.set, fresh_none]; done) | exact ext_fresh (by assumption)))) ?_; simp [-cellOK, c3, c4, c12, c14, c18, nw2_cells, nw2_fold, nw_fold, qy_cells, qy_fold, m22, vd0_fold, vd0_cells, vd_cells, vd_fold, vd0_put, new_m, set_m, new_nx', hp0, hp0', hbB, new_m, set_m, new_nx']) | ((first | refine awp_reg ?_ | refine awp_drawT (fun _ => false) mixed (by decide +kernel) ?_ | refine awp_drawT isCallO mixed (by decide +kernel) ?_ | refine PCalls.use (hal) ?_ | refine Or.inl ⟨_, Or.inl (hal), ?_⟩ | refine PCalls.use (hbnd) ?_ | refine Or.inl ⟨_, Or.inl (hbnd), ?_⟩ | refine PCalls.use (hsame) ?_ | refine Or.inl ⟨_, Or.inl (hsame), ?_⟩); simp [-cellOK, c3, c4, c12, c14, c18, nw2_cells, nw2_fold, nw_fold, qy_cells, qy_fold, m22, vd0_fold, vd0_cells, vd_cells, vd_fold, vd0_put, new_m, set_m, new_nx', hp0, hp0', hbB]) | (refine guarded_split ?_ ?_ <;> (intro hg; simp only [hg]; simp [-cellOK, c3, c4, c12, c14, c18, nw2_cells, nw2_fold, nw_fold, qy_cells, qy_fold, m22, vd0_fold, vd0_cells, vd_cells, vd_fold, vd0_put, new_m, set_m, new_nx', hp0, hp0', hbB])) | (apply awp_cond_t; focus (simp [-cellOK, c3, c4, c12, c14, c18, nw2_cells, nw2_fold, nw_fold, qy_cells, qy_fold, m22, vd0_fold, vd0_cells, vd_cells, vd_fold, vd0_put, new_m, set_m, new_nx', hp0, hp0', hbB]; done)) | (apply awp_cond_f; focus (simp [-cellOK, c3, c4, c12, c14, c18, nw2_cells, nw2_fold, nw_fold, qy_cells, qy_fold, m22, vd0_fold, vd0_cells, vd_cells, vd_fold, vd0_put, new_m, set_m, new_nx', hp0, hp0', hbB]; done)) | (refine awp_cond ?_; simp [-cellOK, c3, c4, c12, c14, c18, nw2_cells, nw2_fold, nw_fold, qy_cells, qy_fold, m22, vd0_fold, vd0_cells, vd_cells, vd_fold, vd0_put, new_m, set_m, new_nx', hp0, hp0', hbB]; refine ⟨?_, ?_⟩ <;> intro hc) | fail)
end Go.Proofs.Ytanimmdlgmkmkaa.Av

