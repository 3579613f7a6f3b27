/- Probe: ProbeOwn Part 11 of 15: AvZ7, AvZ8, AvZ9, AvZA, AvZB, AvZC, AvZD, AvZE, AvZF, AvZG, AvZH, AvZI, AvZJ, AvZK, AvZL, AvZM, AvZN, AvZO, AvZP, AvZQ, AvZR, AvZS, AvL20, AvQ0, AvBC, AvBG, AvBH. -/
import Derived.Test.YtanimmdlgmkmkaaPo6
import Derived.Test.YtanimmdlgmkmkaaPo7
import Derived.Test.YtanimmdlgmkmkaaPo9
import Derived.Test.YtanimmdlgmkmkaaPo10
import Derived.Sort.AssemblyPlain

/- Sorting, part 1: insertion sort of an owned list of ranges. -/
namespace Go.Proofs.Ytanimmdlgmkmkaa.Av.Zn
open Go
set_option linter.unusedSimpArgs false
set_option linter.unusedVariables false
set_option maxRecDepth 100000
set_option pp.maxSteps 300

instance : Inhabited Rg := ⟨⟨0, 0⟩⟩
def bufOf (d : Array Rg) : Ob := .buf (d.toList.map rgAV)
/-- What an order is told by. -/
structure Cmp (g : FuncId) (c : Rg → Rg → Int) : Prop where
  calls : ∀ x y, PCalls Try.prog g [rgAV x, rgAV y] (.raw (.int .i64 (c x y)))
def ltOf (c : Rg → Rg → Int) (x y : Rg) : Bool := decide (c x y < 0)

end Go.Proofs.Ytanimmdlgmkmkaa.Av.Zn


/- Sorting, part 2: heap sort. -/
namespace Go.Proofs.Ytanimmdlgmkmkaa.Av.Zn
open Go
set_option linter.unusedSimpArgs false
set_option linter.unusedVariables false
set_option maxRecDepth 100000
set_option pp.maxSteps 300

end Go.Proofs.Ytanimmdlgmkmkaa.Av.Zn


/- Sorting, part 3: heap sort, reversing. -/
namespace Go.Proofs.Ytanimmdlgmkmkaa.Av.Zn
open Go
set_option linter.unusedSimpArgs false
set_option linter.unusedVariables false
set_option maxRecDepth 100000
set_option pp.maxSteps 300

end Go.Proofs.Ytanimmdlgmkmkaa.Av.Zn


/- Sorting, part 4: reversing; partitions. -/
namespace Go.Proofs.Ytanimmdlgmkmkaa.Av.Zn
open Go
set_option linter.unusedSimpArgs false
set_option linter.unusedVariables false
set_option maxRecDepth 100000
set_option pp.maxSteps 300

end Go.Proofs.Ytanimmdlgmkmkaa.Av.Zn


/- Sorting, part 5: partition. -/
namespace Go.Proofs.Ytanimmdlgmkmkaa.Av.Zn
open Go
set_option linter.unusedSimpArgs false
set_option linter.unusedVariables false
set_option maxRecDepth 100000
set_option pp.maxSteps 150

def PR (o : Id) (d : Array Rg) (σ : St) (g : FuncId) (a : Nat) (e : Array Rg) (i j : Nat) (A : Env) (τ : St) : Prop :=
  τ.m o = some (bufOf e) ∧ τ.set o (bufOf d) = σ ∧ A 0 = .rs o 0 d.size ∧ A 1 = .raw (.int .i64 a) ∧ A 4 = .fn (.func g) [] [] ∧ A 12 = .raw (.int .i64 i) ∧ A 13 = .raw (.int .i64 j)
end Go.Proofs.Ytanimmdlgmkmkaa.Av.Zn


/- Sorting, part 6: partition of equal ones. -/
namespace Go.Proofs.Ytanimmdlgmkmkaa.Av.Zn
open Go
set_option linter.unusedSimpArgs false
set_option linter.unusedVariables false
set_option maxRecDepth 100000
set_option pp.maxSteps 150

def PQ (o : Id) (d : Array Rg) (σ : St) (g : FuncId) (a : Nat) (e : Array Rg) (i j : Nat) (A : Env) (τ : St) : Prop :=
  τ.m o = some (bufOf e) ∧ τ.set o (bufOf d) = σ ∧ A 0 = .rs o 0 d.size ∧ A 1 = .raw (.int .i64 a) ∧ A 4 = .fn (.func g) [] [] ∧ A 11 = .raw (.int .i64 i) ∧ A 12 = .raw (.int .i64 j)
end Go.Proofs.Ytanimmdlgmkmkaa.Av.Zn


/- Sorting, part 7: the partial insertion sort. -/
namespace Go.Proofs.Ytanimmdlgmkmkaa.Av.Zn
open Go
set_option linter.unusedSimpArgs false
set_option linter.unusedVariables false
set_option maxRecDepth 100000
set_option pp.maxSteps 150

def PI (o : Id) (d : Array Rg) (σ : St) (g : FuncId) (a b : Nat) (e : Array Rg) (i s : Nat) (A : Env) (τ : St) : Prop :=
  τ.m o = some (bufOf e) ∧ τ.set o (bufOf d) = σ ∧ A 0 = .rs o 0 d.size ∧ A 1 = .raw (.int .i64 a) ∧ A 2 = .raw (.int .i64 b) ∧ A 3 = .fn (.func g) [] [] ∧ A 9 = .raw (.int .i64 i) ∧ A 10 = .raw (.int .i64 ((5 : Int) - s))
def PJ (o : Id) (d : Array Rg) (σ : St) (g : FuncId) (a b : Nat) (e : Array Rg) (i : Nat) (x : Int) (A : Env) (τ : St) : Prop :=
  τ.m o = some (bufOf e) ∧ τ.set o (bufOf d) = σ ∧ A 0 = .rs o 0 d.size ∧ A 1 = .raw (.int .i64 a) ∧ A 2 = .raw (.int .i64 b) ∧ A 3 = .fn (.func g) [] [] ∧ A 9 = .raw (.int .i64 i) ∧ A 10 = .raw (.int .i64 x)
end Go.Proofs.Ytanimmdlgmkmkaa.Av.Zn


/- Sorting, part 8: the pivot. -/
namespace Go.Proofs.Ytanimmdlgmkmkaa.Av.Zn
open Go
set_option linter.unusedSimpArgs false
set_option linter.unusedVariables false
set_option maxRecDepth 100000
set_option pp.maxSteps 150

end Go.Proofs.Ytanimmdlgmkmkaa.Av.Zn


/- Sorting, part 9: choosing the pivot. -/
namespace Go.Proofs.Ytanimmdlgmkmkaa.Av.Zn
open Go
set_option linter.unusedSimpArgs false
set_option linter.unusedVariables false
set_option maxRecDepth 100000
set_option maxHeartbeats 4000000
set_option pp.maxSteps 150

def hintI : Sort.Hint → Int
  | .unknown => 0
  | .increasing => 1
  | .decreasing => 2
end Go.Proofs.Ytanimmdlgmkmkaa.Av.Zn


/- Sorting, part 10: bits.Len, the next power of two. -/
namespace Go.Proofs.Ytanimmdlgmkmkaa.Av.Zn
open Go
set_option linter.unusedSimpArgs false
set_option linter.unusedVariables false
set_option maxRecDepth 100000
set_option maxHeartbeats 4000000
set_option pp.maxSteps 150

def lenTab : ByteArray := ⟨#[0, 1, 2, 2, 3, 3, 3, 3, 4, 4, 4, 4, 4, 4, 4, 4, 5, 5, 5, 5, 5, 5, 5, 5, 5, 5, 5, 5, 5, 5, 5, 5, 6, 6, 6, 6, 6, 6, 6, 6, 6, 6, 6, 6, 6, 6, 6, 6, 6, 6, 6, 6, 6, 6, 6, 6, 6, 6, 6, 6, 6, 6, 6, 6, 7, 7, 7, 7, 7, 7, 7, 7, 7, 7, 7, 7, 7, 7, 7, 7, 7, 7, 7, 7, 7, 7, 7, 7, 7, 7, 7, 7, 7, 7, 7, 7, 7, 7, 7, 7, 7, 7, 7, 7, 7, 7, 7, 7, 7, 7, 7, 7, 7, 7, 7, 7, 7, 7, 7, 7, 7, 7, 7, 7, 7, 7, 7, 7, 8, 8, 8, 8, 8, 8, 8, 8, 8, 8, 8, 8, 8, 8, 8, 8, 8, 8, 8, 8, 8, 8, 8, 8, 8, 8, 8, 8, 8, 8, 8, 8, 8, 8, 8, 8, 8, 8, 8, 8, 8, 8, 8, 8, 8, 8, 8, 8, 8, 8, 8, 8, 8, 8, 8, 8, 8, 8, 8, 8, 8, 8, 8, 8, 8, 8, 8, 8, 8, 8, 8, 8, 8, 8, 8, 8, 8, 8, 8, 8, 8, 8, 8, 8, 8, 8, 8, 8, 8, 8, 8, 8, 8, 8, 8, 8, 8, 8, 8, 8, 8, 8, 8, 8, 8, 8, 8, 8, 8, 8, 8, 8, 8, 8, 8, 8, 8, 8, 8, 8, 8, 8, 8, 8, 8, 8, 8, 8]⟩
end Go.Proofs.Ytanimmdlgmkmkaa.Av.Zn


/- Sorting, part 11: breaking patterns. -/
namespace Go.Proofs.Ytanimmdlgmkmkaa.Av.Zn
open Go
set_option linter.unusedSimpArgs false
set_option linter.unusedVariables false
set_option maxRecDepth 100000
set_option maxHeartbeats 4000000
set_option pp.maxSteps 1500

end Go.Proofs.Ytanimmdlgmkmkaa.Av.Zn


/- Sorting, part 12: breaking patterns. -/
namespace Go.Proofs.Ytanimmdlgmkmkaa.Av.Zn
open Go
set_option linter.unusedSimpArgs false
set_option linter.unusedVariables false
set_option maxRecDepth 100000
set_option maxHeartbeats 4000000
set_option pp.maxSteps 1500

/-- After so many steps. -/
def brk (a l m i : Nat) (st : UInt64 × Array Rg) : Nat → UInt64 × Array Rg
  | 0 => st
  | k + 1 => Sort.breakStep a l m (brk a l m i st k) (i + k)

end Go.Proofs.Ytanimmdlgmkmkaa.Av.Zn


/- Sorting, part 13: pdqsort. -/
namespace Go.Proofs.Ytanimmdlgmkmkaa.Av.Zn
open Go
set_option linter.unusedSimpArgs false
set_option linter.unusedVariables false
set_option maxRecDepth 100000
set_option maxHeartbeats 8000000
set_option pp.maxSteps 600

/-- One object has turned into another; some names more are in use. -/
structure Fr (o : Id) (x : Ob) (σ τ : St) : Prop where
  m : τ.m = (σ.set o x).m
  nx : ∀ s, σ.nx s ≤ τ.nx s
theorem Fr.set (o : Id) (x : Ob) (σ : St) : Fr o x σ (σ.set o x) := ⟨rfl, fun _ => Nat.le_refl _⟩
theorem Fr.buf {o : Id} {x y : Ob} {σ τ : St} (h : Fr o x σ τ) (hy : σ.m o = some y) : τ.m o = some x := by rw [h.m, set_self, hy]; rfl
def PdqPost (lt : Rg → Rg → Bool) (o : Id) (d : Array Rg) (a b : Nat) (σ : St) (r : AV) (τ : St) : Prop :=
  r = .tup [] ∧ ∃ d', Sort.PermIn a b d d' ∧ Sort.SortedIn lt a b d' ∧ Fr o (bufOf d') σ τ

def PdI (o : Id) (n a b lim : Nat) (g : FuncId) (wb wp : Bool) (A : Env) : Prop :=
  A 0 = .rs o 0 n ∧ A 1 = .raw (.int .i64 a) ∧ A 2 = .raw (.int .i64 b) ∧ A 3 = .raw (.int .i64 lim) ∧ A 4 = .fn (.func g) [] [] ∧ A 10 = .raw (.bool wb) ∧ A 11 = .raw (.bool wp)

/-- What holds of the array in the midst of a round that is at [a', b'). -/
structure Rd (lt : Rg → Rg → Bool) (o : Id) (d : Array Rg) (a b : Nat) (σ : St) (a' b' : Nat) (e : Array Rg) (τ : St) : Prop where
  fr : Fr o (bufOf e) σ τ
  size : e.size = d.size
  below : Sort.Below lt a' b' e
  glue : ∀ R, Sort.PermIn a' b' e R → Sort.SortedIn lt a' b' R → Sort.PermIn a b d R ∧ Sort.SortedIn lt a b R
end Go.Proofs.Ytanimmdlgmkmkaa.Av.Zn


/- Iterators over a list; sorting what is collected. -/
namespace Go.Proofs.Ytanimmdlgmkmkaa.Av.Zn
open Go
set_option linter.unusedSimpArgs false
set_option linter.unusedVariables false
set_option maxRecDepth 100000
set_option maxHeartbeats 4000000
set_option pp.maxSteps 300

/-- **slices.Collect**: what is yielded, or nothing. -/
def Coll (i : Id) (z : List Rg) (σ : St) (r : AV) (τ : St) : Prop := But i σ τ ∧ ((z = [] ∧ r = .sl 0 [] true) ∨ (z ≠ [] ∧ ∃ j, r = .rs j 0 z.length ∧ j.sz = 2 ∧ τ.m j = some (.buf (z.map rgAV)) ∧ σ.m j = none))
/-- In the order c says, or any of those that are alike. -/
def SortedBy (c : Rg → Rg → Int) (z : List Rg) : Prop := z.Pairwise fun x y => ¬ c y x < 0
end Go.Proofs.Ytanimmdlgmkmkaa.Av.Zn


/- Searching by a function; merging; the zone of ranges. -/
namespace Go.Proofs.Ytanimmdlgmkmkaa.Av.Zn
open Go
set_option linter.unusedSimpArgs false
set_option linter.unusedVariables false
set_option maxRecDepth 100000
set_option maxHeartbeats 4000000
set_option pp.maxSteps 300

/-- The first that is asked for; -1: there is none. -/
def idxOf (p : Rg → Bool) (z : List Rg) : Int := if z.any p then (z.findIdx p : Nat) else -1
end Go.Proofs.Ytanimmdlgmkmkaa.Av.Zn


/- Zones: what is merged, as an iterator; zone.Of. -/
namespace Go.Proofs.Ytanimmdlgmkmkaa.Av.Zn
open Go
set_option linter.unusedSimpArgs false
set_option linter.unusedVariables false
set_option maxRecDepth 100000
set_option maxHeartbeats 4000000
set_option pp.maxSteps 300

end Go.Proofs.Ytanimmdlgmkmkaa.Av.Zn


/- Zones: zone.Of. -/
namespace Go.Proofs.Ytanimmdlgmkmkaa.Av.Zn
open Go
set_option linter.unusedSimpArgs false
set_option linter.unusedVariables false
set_option maxRecDepth 100000
set_option maxHeartbeats 4000000
set_option pp.maxSteps 300

end Go.Proofs.Ytanimmdlgmkmkaa.Av.Zn


/- Zones: And, not, Minus, All. -/
namespace Go.Proofs.Ytanimmdlgmkmkaa.Av.Zn
open Go
set_option linter.unusedSimpArgs false
set_option linter.unusedVariables false
set_option maxRecDepth 100000
set_option maxHeartbeats 4000000
set_option pp.maxSteps 300

end Go.Proofs.Ytanimmdlgmkmkaa.Av.Zn


/- Zones: Minus, All, Grow, Concat, Or. -/
namespace Go.Proofs.Ytanimmdlgmkmkaa.Av.Zn
open Go
set_option linter.unusedSimpArgs false
set_option linter.unusedVariables false
set_option maxRecDepth 100000
set_option maxHeartbeats 4000000
set_option pp.maxSteps 300

def allZ : List Rg := [⟨0, 4294967295⟩]
/-- One list behind the other. -/
def catZ : List (List Rg × Bool) → List Rg
  | [] => []
  | p :: l => p.1 ++ catZ l
def pAV (p : List Rg × Bool) : AV := zAV p.1 p.2
end Go.Proofs.Ytanimmdlgmkmkaa.Av.Zn


/- The document's zones: cuts, ends, joining. -/
namespace Go.Proofs.Ytanimmdlgmkmkaa.Av.Zn
open Go
set_option linter.unusedSimpArgs false
set_option linter.unusedVariables false
set_option maxRecDepth 100000
set_option maxHeartbeats 4000000
set_option pp.maxSteps 300

/-- Whole numbers, as a list. -/
def iAV (n : Int) : AV := .raw (.int .i64 n)
def inAV (l : List Int) (b : Bool) : AV := .sl 1 (l.map iAV) b
def cutsAll (l : List Rg) : List Int := 0 :: l.flatMap fun r => [r.lo, r.hi + 1]
def nextCut (all : List Int) (last : Int) : Int := all.foldl (fun next a => if last < a ∧ a < next then a else next) 4294967296
def cutsFrom (all : List Int) : Nat → Int → List Int
  | 0, _ => []
  | n + 1, last => if nextCut all last ≤ 4294967295 then nextCut all last :: cutsFrom all n (nextCut all last) else []
/-- How many are still to come. -/
def above (all : List Int) (last : Int) : Nat := (all.filter fun a => decide (last < a) && decide (a < 4294967296)).length
def cutsOf (l : List Rg) : List Int := cutsFrom (cutsAll l) (above (cutsAll l) (-1)) (-1)
end Go.Proofs.Ytanimmdlgmkmkaa.Av.Zn


/- The document's zones: the walks of Cuts, End, Join. -/
namespace Go.Proofs.Ytanimmdlgmkmkaa.Av.Zn
open Go
set_option linter.unusedSimpArgs false
set_option linter.unusedVariables false
set_option maxRecDepth 100000
set_option maxHeartbeats 4000000
set_option pp.maxSteps 300

end Go.Proofs.Ytanimmdlgmkmkaa.Av.Zn


/- The document's zones: the walks of End, Join, Of, both. -/
namespace Go.Proofs.Ytanimmdlgmkmkaa.Av.Zn
open Go
set_option linter.unusedSimpArgs false
set_option linter.unusedVariables false
set_option maxRecDepth 100000
set_option maxHeartbeats 4000000
set_option pp.maxSteps 300

def endOf (C : List Int) (i : Nat) : Int := match C[i + 1]? with | some x => x - 1 | none => 4294967295
def joinZ (z : List Rg) (f t : Int) : List Rg :=
  match z[z.length - 1]? with
  | some r => if r.hi + 1 = f then z.set (z.length - 1) ⟨r.lo, t⟩ else z ++ [⟨f, t⟩]
  | none => z ++ [⟨f, t⟩]
/-- Joining the cuts that are wanted, behind what is there. -/
def joins (p : Int → Bool) (C : List Int) : Nat → List Rg
  | 0 => []
  | i + 1 => match C[i]? with
    | some c => if p c then joinZ (joins p C i) c (endOf C i) else joins p C i
    | none => joins p C i
def howP (how : Int) (p q : Bool) : Bool := (how == 1 && p && q) || (how == 2 && (p || q)) || (how == 3 && p && !q)
end Go.Proofs.Ytanimmdlgmkmkaa.Av.Zn


/- The document's comparisons of lists, rules, topologies; its ranges and atoms. -/
namespace Go.Proofs.Ytanimmdlgmkmkaa.Av
open Go
set_option linter.unusedSimpArgs false
set_option linter.unusedVariables false
set_option maxRecDepth 100000
set_option maxHeartbeats 4000000
set_option pp.maxSteps 600

end Go.Proofs.Ytanimmdlgmkmkaa.Av


/- The document's verdicts: alike. -/
namespace Go.Proofs.Ytanimmdlgmkmkaa.Av
open Go
set_option linter.unusedSimpArgs false
set_option linter.unusedVariables false
set_option maxRecDepth 100000
set_option maxHeartbeats 4000000
set_option pp.maxSteps 600

end Go.Proofs.Ytanimmdlgmkmkaa.Av


/- Probes: the live question. -/
namespace Go.Proofs.Ytanimmdlgmkmkaa.Av
open Go
set_option linter.unusedSimpArgs false
set_option linter.unusedVariables false
set_option maxRecDepth 100000
set_option maxHeartbeats 4000000
set_option pp.maxSteps 600

/-- A probe that is apart from all that was there. -/
structure Off (σ : St) (ip : Id) (v w : AV) (τ : St) : Prop where
  ext : Ext σ τ
  ip : σ.m ip = none
  at_ : ∀ i o, σ.m i = some o → ¬ isAt v i ∧ ¬ isAt w i
theorem Off.step {σ τ ρ : St} {ip : Id} {v w v' w' : AV} (h : Off σ ip v w τ) (k : Kq ip v w v' w' τ ρ) : Off σ ip v' w' ρ := by
  have hk : ∀ i o, σ.m i = some o → ρ.m i = some o ∧ ¬ isAt v' i ∧ ¬ isAt w' i := fun i o e =>
    k.1 i o (fun q => by rw [q, h.ip] at e; cases e) (h.at_ i o e).1 (h.at_ i o e).2 (h.ext.1 i o e)
  exact ⟨⟨fun i o e => (hk i o e).1, fun s => Nat.le_trans (h.ext.2 s) (k.2 s)⟩, h.ip, fun i o e => (hk i o e).2⟩
def px1 : PB := (goP 2 (pb0 netN netN flN flN aq1) (.one [] 0)).1.1
def ph1 : Ph := (goP 2 (pb0 netN netN flN flN aq1) (.one [] 0)).1.2
def px2 : PB := (goP 100 px1 ph1).1.1
theorem run_p0 : askedB netN netN aq1 = true := by decide +kernel
theorem run_ps : sourcesQ netN aq1 = [0] := by decide +kernel
theorem run_pp : ∃ r rs, partsQ netN netN aq1 = r :: rs := by
  cases h : partsQ netN netN aq1 with
  | nil => exact absurd h (by decide +kernel)
  | cons r rs => exact ⟨r, rs, rfl⟩
theorem run_p1 : (goP 2 (pb0 netN netN flN flN aq1) (.one [] 0)).2 = 2 := by decide +kernel
theorem run_p2 : ph1.done = false := by decide +kernel
theorem run_p3 : (goP 100 px1 ph1).2 = 4 := by decide +kernel
theorem run_p4 : (goP 100 px1 ph1).1.2 = .fin ⟨false, 0, 20, ⟨[0, 1, 2], 2, ⟨0, 0⟩⟩⟩ := by decide +kernel
theorem pb0_ok {n m : Nw} {f g : Fl} {q : Qy} (hn : NwOK n) (hm : NwOK m) (hP : ∃ r rs, partsQ n m q = r :: rs) : OkB (pb0 n m f g q) := by
  have h1 : (partsQ n m q).length ≤ 1001 := cutP_len _ _
  have h2 : (sourcesQ n q).length < 2 ^ 60 := by
    have := hn.ports
    unfold sourcesQ
    split
    · simp
    · simp; omega
  exact ⟨hn, hm, hP, by show (partsQ n m q).length < _; omega, h2, by show (partsQ n m q).length < _; omega⟩
theorem OkB.go {X : PB} (h : OkB X) (k : Nat) (ph : Ph) : OkB (goP k X ph).1.1 := by
  induction k generalizing X ph with
  | zero => exact h
  | succ k ih =>
    rw [goP]
    split
    · exact h
    · exact ih (h.step ph) _
theorem alive13_calls : PCalls Try.prog 29 [] (.raw (.bool true)) := by
  have hn := net_calls
  have e1 : qyAV aq1 = .agg [.raw (.int .i64 0), .raw (.int .i64 0), .raw (.int .i64 2), .raw (.int .i64 0), .raw (.int .u32 5), .raw (.int .u32 30), .raw (.string ⟨#[]⟩)] := rfl
  have hnp : setPart (AV.agg [.sl 0 [] true, .sl 0 [] true, .sl 0 [] true]) 0 [intsAV netN.t.ports flN.p, linksAV netN.t.links flN.l, rulesAV netN.rules flN.r] = nwAV netN flN := rfl
  have hX0 : OkB (pb0 netN netN flN flN aq1) := pb0_ok netN_ok netN_ok run_pp
  have hX1 : OkB px1 := hX0.go 2 _
  refine pbody Try.func29 rfl (N := 71) rfl rfl (by simp) (by simp [noIds]) fun σ => ?_
  (try ((first | with_reducible refine dops_go ?_ | with_reducible refine OKv_go ?_ | with_reducible refine OKr_go ?_); simp [-cellOK, nw_cells, nw_fold, hnp, new_m, set_m, new_nx'])); repeat' (first | refine awp_seq ?_ | refine awp_block ?_ | (refine awp_skip ?_; try simp) | (refine awp_exit ?_; try simp) | (refine awp_ret ?_; try simp) | ((first | refine awp_reg ?_ | refine awp_drawT (fun _ => false) mixed (by decide +kernel) ?_ | refine awp_drawT isCallO mixed (by decide +kernel) ?_ | refine PCalls.use (hn) ?_ | refine Or.inl ⟨_, Or.inl (hn), ?_⟩); simp [-cellOK, nw_cells, nw_fold, hnp, new_m, set_m, new_nx']) | (refine guarded_split ?_ ?_ <;> (intro hg; simp only [hg]; simp [-cellOK, nw_cells, nw_fold, hnp, new_m, set_m, new_nx'])) | (apply awp_cond_t; focus (simp [-cellOK, nw_cells, nw_fold, hnp, new_m, set_m, new_nx']; done)) | (apply awp_cond_f; focus (simp [-cellOK, nw_cells, nw_fold, hnp, new_m, set_m, new_nx']; done)) | (refine awp_cond ?_; simp [-cellOK, nw_cells, nw_fold, hnp, new_m, set_m, new_nx']; refine ⟨?_, ?_⟩ <;> intro hc) | fail)
  have hES : Ext σ ((σ.new 1 3 (.buf [.agg [.sl 0 [] true, .sl 0 [] true, .sl 0 [] true]])).set ⟨1, σ.nx 1, 3⟩ (.buf [nwAV netN flN])) := (by repeat (first | assumption | exact Ext.refl _ | refine ext_new' ?_ | refine Ext.setF ?_ (by first | assumption | (simp [new_nx', St.set, fresh_none]; done) | exact ext_fresh (by assumption))))
  have f1 : σ.m ⟨1, σ.nx 1, 3⟩ = none := fresh_none _ _ _
  generalize hST : St.set _ _ _ = ST at hES ⊢
  have m1 : ST.m ⟨1, σ.nx 1, 3⟩ = some (.buf [nwAV netN flN]) := by rw [← hST]; simp [set_m, new_m]
  clear hST
  rw [← e1]
  refine pnew_calls netN netN flN flN aq1 netN_ok netN_ok ⟨by decide, by decide, by decide, by decide⟩ (fun h => by rw [run_p0] at h; cases h) (fun _ => ⟨0, [], run_ps⟩) (fun _ => run_pp) ?_
  intro s ss _ hs τ ip hsz hip hR hE
  rw [run_ps] at hs
  injection hs with q1 q2
  subst q1; subst q2
  have hO : Off ST ip nilAV nilAV τ := ⟨hE, hip, fun i o _ => ⟨nilAV_at i, nilAV_at i⟩⟩
  (try ((first | with_reducible refine dops_go ?_ | with_reducible refine OKv_go ?_ | with_reducible refine OKr_go ?_); simp [-cellOK])); repeat' (first | refine awp_seq ?_ | refine awp_block ?_ | (refine awp_skip ?_; try simp) | (refine awp_exit ?_; try simp) | (refine awp_ret ?_; try simp) | ((first | refine awp_reg ?_ | refine awp_drawT (fun _ => false) mixed (by decide +kernel) ?_ | refine awp_drawT isCallO mixed (by decide +kernel) ?_); simp [-cellOK]) | (refine guarded_split ?_ ?_ <;> (intro hg; simp only [hg]; simp [-cellOK])) | (apply awp_cond_t; focus (simp [-cellOK]; done)) | (apply awp_cond_f; focus (simp [-cellOK]; done)) | (refine awp_cond ?_; simp [-cellOK]; refine ⟨?_, ?_⟩ <;> intro hc) | fail)
  refine stepG_calls hsz hX0 rfl hR (f := 2) (by decide) (by decide) fun τ1 v1 w1 h1 k1 => ?_
  have hO1 := hO.step k1
  rw [show (2 : Int).toNat = 2 from rfl] at h1 ⊢
  rw [run_p1]
  (try ((first | with_reducible refine dops_go ?_ | with_reducible refine OKv_go ?_ | with_reducible refine OKr_go ?_); simp [-cellOK])); repeat' (first | refine awp_seq ?_ | refine awp_block ?_ | (refine awp_skip ?_; try simp) | (refine awp_exit ?_; try simp) | (refine awp_ret ?_; try simp) | ((first | refine awp_reg ?_ | refine awp_drawT (fun _ => false) mixed (by decide +kernel) ?_ | refine awp_drawT isCallO mixed (by decide +kernel) ?_); simp [-cellOK]) | (refine guarded_split ?_ ?_ <;> (intro hg; simp only [hg]; simp [-cellOK])) | (apply awp_cond_t; focus (simp [-cellOK]; done)) | (apply awp_cond_f; focus (simp [-cellOK]; done)) | (refine awp_cond ?_; simp [-cellOK]; refine ⟨?_, ?_⟩ <;> intro hc) | fail)
  refine stepG_calls hsz hX1 run_p2 h1 (f := 100) (by decide) (by decide) fun τ2 v2 w2 h2 k2 => ?_
  have hO2 := hO1.step k2
  change PbR ip (goP 100 px1 ph1).1.1 (goP 100 px1 ph1).1.2 v2 w2 τ2 at h2
  rw [show (100 : Int).toNat = 100 from rfl]
  rw [run_p3]
  rw [run_p4] at h2
  generalize (goP 100 px1 ph1).1.1 = X2 at h2
  clear h1 hR
  have hE2 := hES.trans hO2.ext
  obtain ⟨d, v3, t3, w3, u3, nx3, r3, m3, _⟩ := h2.ob
  (try ((first | with_reducible refine dops_go ?_ | with_reducible refine OKv_go ?_ | with_reducible refine OKr_go ?_); simp [-cellOK])); repeat' (first | refine awp_seq ?_ | refine awp_block ?_ | (refine awp_skip ?_; try simp) | (refine awp_exit ?_; try simp) | (refine awp_ret ?_; try simp) | ((first | refine awp_reg ?_ | refine awp_drawT (fun _ => false) mixed (by decide +kernel) ?_ | refine awp_drawT isCallO mixed (by decide +kernel) ?_); simp [-cellOK]) | (refine guarded_split ?_ ?_ <;> (intro hg; simp only [hg]; simp [-cellOK])) | (apply awp_cond_t; focus (simp [-cellOK]; done)) | (apply awp_cond_f; focus (simp [-cellOK]; done)) | (refine awp_cond ?_; simp [-cellOK]; refine ⟨?_, ?_⟩ <;> intro hc) | fail)
  refine verdict_calls hsz h2 fun τ3 hE3 => ?_
  have m3 : τ3.m ip = some (pbOb X2 d v3 t3 w3 u3 nx3 true r3) := hE3.1 _ _ m3
  have hE4 := hE2.trans hE3
  generalize hV : (⟨false, 0, 20, ⟨[0, 1, 2], 2, ⟨0, 0⟩⟩⟩ : Vd) = V
  have v1 : V.holds = false := by rw [← hV]
  have v2 : V.addr = 20 := by rw [← hV]
  have hvp : setPart vd0AV 0 (vdAV V false).cells = vdAV V false := rfl
  (try ((first | with_reducible refine dops_go ?_ | with_reducible refine OKv_go ?_ | with_reducible refine OKr_go ?_); simp [-cellOK, vd0_fold, hvp, vd0_cells, vd_cells, vd0_put, vd_fold, new_m, set_m, new_nx', v1, v2])); repeat' (first | refine awp_seq ?_ | refine awp_block ?_ | (refine awp_skip ?_; try simp) | (refine awp_exit ?_; try simp) | (refine awp_ret ?_; try simp) | ((first | refine awp_reg ?_ | refine awp_drawT (fun _ => false) mixed (by decide +kernel) ?_ | refine awp_drawT isCallO mixed (by decide +kernel) ?_); simp [-cellOK, vd0_fold, hvp, vd0_cells, vd_cells, vd0_put, vd_fold, new_m, set_m, new_nx', v1, v2]) | (refine guarded_split ?_ ?_ <;> (intro hg; simp only [hg]; simp [-cellOK, vd0_fold, hvp, vd0_cells, vd_cells, vd0_put, vd_fold, new_m, set_m, new_nx', v1, v2])) | (apply awp_cond_t; focus (simp [-cellOK, vd0_fold, hvp, vd0_cells, vd_cells, vd0_put, vd_fold, new_m, set_m, new_nx', v1, v2]; done)) | (apply awp_cond_f; focus (simp [-cellOK, vd0_fold, hvp, vd0_cells, vd_cells, vd0_put, vd_fold, new_m, set_m, new_nx', v1, v2]; done)) | (refine awp_cond ?_; simp [-cellOK, vd0_fold, hvp, vd0_cells, vd_cells, vd0_put, vd_fold, new_m, set_m, new_nx', v1, v2]; refine ⟨?_, ?_⟩ <;> intro hc) | fail)
  refine done_calls (X := X2) ((show Ext τ3 _ from (by repeat (first | assumption | exact Ext.refl _ | refine ext_new' ?_ | refine Ext.setF ?_ (by first | assumption | (simp [new_nx', St.set, fresh_none]; done) | exact ext_fresh (by assumption))))).1 _ _ m3) ?_
  (try ((first | with_reducible refine dops_go ?_ | with_reducible refine OKv_go ?_ | with_reducible refine OKr_go ?_); simp [-cellOK, vd0_fold, hvp, vd0_cells, vd_cells, vd0_put, vd_fold, new_m, set_m, new_nx', v1, v2])); repeat' (first | refine awp_seq ?_ | refine awp_block ?_ | (refine awp_skip ?_; try simp) | (refine awp_exit ?_; try simp) | (refine awp_ret ?_; try simp) | (refine retP_same (by simp) ?_; simp) | (refine retP_no (by simp) (by simp [noIds]) (by repeat (first | assumption | exact Ext.refl _ | refine ext_new' ?_ | refine Ext.setF ?_ (by first | assumption | (simp [new_nx', St.set, fresh_none]; done) | exact ext_fresh (by assumption)))) ?_; simp [-cellOK, vd0_fold, hvp, vd0_cells, vd_cells, vd0_put, vd_fold, new_m, set_m, new_nx', v1, v2, new_m, set_m, new_nx']) | ((first | refine awp_reg ?_ | refine awp_drawT (fun _ => false) mixed (by decide +kernel) ?_ | refine awp_drawT isCallO mixed (by decide +kernel) ?_); simp [-cellOK, vd0_fold, hvp, vd0_cells, vd_cells, vd0_put, vd_fold, new_m, set_m, new_nx', v1, v2]) | (refine guarded_split ?_ ?_ <;> (intro hg; simp only [hg]; simp [-cellOK, vd0_fold, hvp, vd0_cells, vd_cells, vd0_put, vd_fold, new_m, set_m, new_nx', v1, v2])) | (apply awp_cond_t; focus (simp [-cellOK, vd0_fold, hvp, vd0_cells, vd_cells, vd0_put, vd_fold, new_m, set_m, new_nx', v1, v2]; done)) | (apply awp_cond_f; focus (simp [-cellOK, vd0_fold, hvp, vd0_cells, vd_cells, vd0_put, vd_fold, new_m, set_m, new_nx', v1, v2]; done)) | (refine awp_cond ?_; simp [-cellOK, vd0_fold, hvp, vd0_cells, vd_cells, vd0_put, vd_fold, new_m, set_m, new_nx', v1, v2]; refine ⟨?_, ?_⟩ <;> intro hc) | fail)
end Go.Proofs.Ytanimmdlgmkmkaa.Av


/- Probes: the law ProbeCut walked. -/
namespace Go.Proofs.Ytanimmdlgmkmkaa.Av
open Go
set_option linter.unusedSimpArgs false
set_option linter.unusedVariables false
set_option maxRecDepth 100000
set_option maxHeartbeats 4000000
set_option pp.maxSteps 600

/-- What a probe holds. -/
def obj (ip : Id) (v w : AV) (i : Id) : Prop := i = ip ∨ isAt v i ∨ isAt w i
theorem OwnB.hasO {σ : St} {v : AV} {es : List AV} (h : OwnB σ v es) {i : Id} (hi : isAt v i) : ∃ o, σ.m i = some o := by
  rcases h with ⟨_, rfl⟩ | ⟨j, rfl, hj, hm⟩
  · exact absurd hi (nilAV_at i)
  · obtain ⟨l, e⟩ := hi
    injection e with e; subst e; exact ⟨_, hm⟩
theorem PbR.hasO {ip : Id} {X : PB} {ph : Ph} {v w : AV} {σ : St} (h : PbR ip X ph v w σ) {i : Id} (hi : obj ip v w i) : ∃ o, σ.m i = some o := by
  rcases hi with rfl | hi
  · obtain ⟨d, v1, t, w1, u, nx, r, m, _⟩ := h.ob; exact ⟨_, m⟩
  · cases ph with
    | one p d =>
      obtain ⟨rfl, hB, _⟩ := h
      rcases hi with hi | hi
      · exact hB.hasO hi
      · exact absurd hi (nilAV_at i)
    | two p d =>
      obtain ⟨hB, hdis, k5, s, ss, r, rs, x, hS, hP, hw, hv, m⟩ := h
      rcases hi with hi | hi
      · exact hv.hasO hi
      · exact hB.hasO hi
    | fin V =>
      obtain ⟨rfl, hB, _⟩ := h
      rcases hi with hi | hi
      · exact hB.hasO hi
      · exact absurd hi (nilAV_at i)
theorem PbR.up {ip : Id} {X : PB} {ph : Ph} {v w : AV} {σ τ : St} (h : PbR ip X ph v w σ) (k : ∀ i o, obj ip v w i → σ.m i = some o → τ.m i = some o) : PbR ip X ph v w τ := by
  have kv : ∀ {es}, OwnB σ v es → OwnB τ v es := fun h => h.up fun i o hi e => k i o (.inr (.inl hi)) e
  have kw : ∀ {es}, OwnB σ w es → OwnB τ w es := fun h => h.up fun i o hi e => k i o (.inr (.inr hi)) e
  cases ph with
  | one p d =>
    obtain ⟨e, hB, s, ss, r, rs, x, hS, hP, hw, m⟩ := h
    exact ⟨e, kv hB, s, ss, r, rs, x, hS, hP, hw, k ip _ (.inl rfl) m⟩
  | two p d =>
    obtain ⟨hB, hdis, k5, s, ss, r, rs, x, hS, hP, hw, hv, m⟩ := h
    exact ⟨kw hB, hdis, k5, s, ss, r, rs, x, hS, hP, hw, kv hv, k ip _ (.inl rfl) m⟩
  | fin V =>
    obtain ⟨e, hB, hl, d, v', t, w', u, nx, m⟩ := h
    exact ⟨e, kv hB, hl, d, v', t, w', u, nx, k ip _ (.inl rfl) m⟩
theorem ext_none {σ τ : St} (h : Ext σ τ) {i : Id} (k : τ.m i = none) : σ.m i = none := by
  cases e : σ.m i with
  | none => rfl
  | some o => rw [h.1 i o e] at k; cases k
theorem ext_del {σ τ : St} (h : Ext σ τ) {i : Id} (k : σ.m i = none) : Ext σ (τ.del i) := ⟨fun j o e => by
    have q : j ≠ i := fun q => by rw [q, k] at e; cases e
    rw [del_other q]; exact h.1 j o e, fun s => h.2 s⟩
/-- Two probes that share nothing. -/
def Apart (ip : Id) (v w : AV) (jp : Id) (a b : AV) : Prop := ∀ i, obj ip v w i → ¬ obj jp a b i
theorem Apart.symm {ip jp : Id} {v w a b : AV} (h : Apart ip v w jp a b) : Apart jp a b ip v w := fun i h1 h2 => h i h2 h1
theorem PbR.other {ip jp : Id} {X : PB} {ph : Ph} {v w a b a' b' : AV} {σ τ : St} (h : PbR ip X ph v w σ) (hd : Apart ip v w jp a b) (k : Kq jp a b a' b' σ τ) : PbR ip X ph v w τ ∧ Apart ip v w jp a' b' := by
  have hk : ∀ i o, obj ip v w i → σ.m i = some o → τ.m i = some o ∧ ¬ isAt a' i ∧ ¬ isAt b' i := fun i o hi e =>
    k.1 i o (fun q => hd i hi (.inl q)) (fun q => hd i hi (.inr (.inl q))) (fun q => hd i hi (.inr (.inr q))) e
  refine ⟨h.up fun i o hi e => (hk i o hi e).1, fun i hi hj => ?_⟩
  obtain ⟨o, e⟩ := h.hasO hi
  obtain ⟨_, h1, h2⟩ := hk i o hi e
  rcases hj with hj | hj | hj
  · exact hd i hi (.inl hj)
  · exact h1 hj
  · exact h2 hj
theorem PbR.ext {ip : Id} {X : PB} {ph : Ph} {v w : AV} {σ τ : St} (h : PbR ip X ph v w σ) (k : Ext σ τ) : PbR ip X ph v w τ := h.up fun i o _ e => k.1 i o e
end Go.Proofs.Ytanimmdlgmkmkaa.Av


/- Probes: the law ProbeOwn walked. -/
namespace Go.Proofs.Ytanimmdlgmkmkaa.Av
open Go
set_option linter.unusedSimpArgs false
set_option linter.unusedVariables false
set_option maxRecDepth 100000
set_option maxHeartbeats 4000000
set_option pp.maxSteps 600

/-- A step of any fuel that is not below zero, whatever comes of it. -/
theorem stepA_calls {ip : Id} (hsz : ip.sz = 34) {X : PB} (hX : OkB X) {ph : Ph} {v w : AV} {σ : St} (h : PbR ip X ph v w σ) {V : Vd} {T : Nat} (hN : Ends X ph V T) {f : Int} (hf : f < 2 ^ 63) {K : AV → St → Prop}
    (hK : ∀ (a e : Int) τ X' ph' v' w' T', (T' = 0 ∨ T' ≤ T) → (1 ≤ f → T' = 0 ∨ T' + 1 ≤ T) → OkB X' → PbR ip X' ph' v' w' τ → Ends X' ph' V T' → Kq ip v w v' w' σ τ → K (.tup [.raw (.int .i64 a), .raw (.int .i64 e)]) τ) :
    ACalls Try.prog 26 [.rp ip 0 0, .raw (.int .i64 f)] σ K := by
  have hid : Kq ip v w v w σ σ := ⟨fun i o _ n1 n2 e => ⟨e, n1, n2⟩, fun _ => Nat.le_refl _⟩
  by_cases h0 : f < 1
  · exact stepE_calls h (.inl h0) (hK _ _ _ _ _ _ _ T (.inr (Nat.le_refl _)) (fun h => by omega) hX h hN hid)
  · cases hd : ph.done with
    | true =>
      have hT : T = 0 := by
        cases hN with
        | fin => rfl
        | step h1 _ => rw [hd] at h1; cases h1
      exact stepE_calls h (.inr hd) (hK _ _ _ _ _ _ _ T (.inl hT) (fun _ => .inl hT) hX h hN hid)
    | false =>
      refine stepG_calls hsz hX hd h (by omega) hf fun τ v' w' h' hq => ?_
      obtain ⟨h1, h2⟩ := hN.go f.toNat
      exact hK _ _ _ _ _ _ _ (T - f.toNat) (by omega) (fun _ => by omega) (hX.go _ _) h' h2 hq
theorem asked_ne {n m : Nw} {q : Qy} (hq : RgOK q.r) (h : askedB n m q = true) : (∃ s ss, sourcesQ n q = s :: ss) ∧ ∃ r rs, partsQ n m q = r :: rs := by
  obtain ⟨h1, _⟩ := asked_iff.1 h
  constructor
  · have := h1.a
    unfold sourcesQ
    split
    · exact ⟨_, _, rfl⟩
    · cases hp : n.t.ports.length with
      | zero => omega
      | succ k => exact ⟨_, _, by rw [List.range_succ_eq_map, List.map_cons]⟩
  · have h2 := h1.le
    unfold partsQ
    generalize (if q.kind = 5 then m else n) = M
    unfold cutP
    rw [if_neg (by omega)]
    obtain ⟨p, hp, _⟩ := part_has (cutsL_cuts (heldL (rgsOf [n, M]))) (r := q.r) (x := q.r.lo) hq.lo0 hq.lo1 ⟨Int.le_refl _, h2⟩
    cases hc : cutC (cutsL (heldL (rgsOf [n, M]))) q.r with
    | nil => rw [hc] at hp; cases hp
    | cons r rs => exact ⟨r, rs, rfl⟩
def qy2AV (q r : Qy) : AV := .agg ((qyAV q).cells ++ (qyAV r).cells)
theorem qy2_cells (q r : Qy) : (qy2AV q r).cells = [.raw (.int .i64 q.kind), .raw (.int .i64 q.a), .raw (.int .i64 q.b), .raw (.int .i64 q.w), .raw (.int .u32 q.r.lo), .raw (.int .u32 q.r.hi), .raw (.string q.other),
    .raw (.int .i64 r.kind), .raw (.int .i64 r.a), .raw (.int .i64 r.b), .raw (.int .i64 r.w), .raw (.int .u32 r.r.lo), .raw (.int .u32 r.r.hi), .raw (.string r.other)] := rfl
theorem run_ask {n m : Nw} {q : Qy} : (runQ n m q).2 = if askedB n m q = true then 0 else 121 := by
  cases h : askedB n m q with
  | true => rw [run_pb h]; rfl
  | false => rw [run_no h]; rfl

/-- Two probes under way, each for itself. -/
def Two (σ : St) (ip jp : Id) (V W : Vd) (T U : Nat) (ρ : St) : Prop := ∃ X1 ph1 v1 w1 X2 ph2 v2 w2, OkB X1 ∧ PbR ip X1 ph1 v1 w1 ρ ∧ Ends X1 ph1 V T ∧ OkB X2 ∧ PbR jp X2 ph2 v2 w2 ρ ∧ Ends X2 ph2 W U ∧ Off σ ip v1 w1 ρ ∧ Off σ jp v2 w2 ρ ∧ Apart ip v1 w1 jp v2 w2
theorem Two.symm {σ : St} {ip jp : Id} {V W : Vd} {T U : Nat} {ρ : St} (h : Two σ ip jp V W T U ρ) : Two σ jp ip W V U T ρ := by
  obtain ⟨X1, ph1, v1, w1, X2, ph2, v2, w2, h1, h2, h3, h4, h5, h6, h7, h8, h9⟩ := h
  exact ⟨X2, ph2, v2, w2, X1, ph1, v1, w1, h4, h5, h6, h1, h2, h3, h8, h7, h9.symm⟩
theorem Two.ext {σ : St} {ip jp : Id} {V W : Vd} {T U : Nat} {ρ τ : St} (h : Two σ ip jp V W T U ρ) (k : Ext ρ τ) : Two σ ip jp V W T U τ := by
  obtain ⟨X1, ph1, v1, w1, X2, ph2, v2, w2, h1, h2, h3, h4, h5, h6, h7, h8, h9⟩ := h
  exact ⟨X1, ph1, v1, w1, X2, ph2, v2, w2, h1, h2.ext k, h3, h4, h5.ext k, h6, ⟨h7.ext.trans k, h7.ip, h7.at_⟩, ⟨h8.ext.trans k, h8.ip, h8.at_⟩, h9⟩
theorem Two.base {σ : St} {ip jp : Id} {V W : Vd} {T U : Nat} {ρ : St} (h : Two σ ip jp V W T U ρ) : Ext σ ρ := by
  obtain ⟨X1, ph1, v1, w1, X2, ph2, v2, w2, h1, h2, h3, h4, h5, h6, h7, h8, h9⟩ := h
  exact h7.ext
theorem Two.step {σ : St} {ip jp : Id} (hsz : ip.sz = 34) {V W : Vd} {T U : Nat} {ρ : St} (h : Two σ ip jp V W T U ρ) {f : Int} (hf : f < 2 ^ 63) {K : AV → St → Prop}
    (hK : ∀ (a e : Int) τ T', (T' = 0 ∨ T' ≤ T) → (1 ≤ f → T' = 0 ∨ T' + 1 ≤ T) → Two σ ip jp V W T' U τ → K (.tup [.raw (.int .i64 a), .raw (.int .i64 e)]) τ) :
    ACalls Try.prog 26 [.rp ip 0 0, .raw (.int .i64 f)] ρ K := by
  obtain ⟨X1, ph1, v1, w1, X2, ph2, v2, w2, h1, h2, h3, h4, h5, h6, h7, h8, h9⟩ := h
  refine stepA_calls hsz h1 h2 h3 hf fun a e τ X' ph' v' w' T' k1 k2 k3 k4 k5 k6 => hK a e τ T' k1 k2 ?_
  obtain ⟨o1, o2⟩ := h5.other h9.symm k6
  have h7' := h7.step k6
  exact ⟨X', ph', v', w', X2, ph2, v2, w2, k3, k4, k5, h4, o1, h6, h7', ⟨h7'.ext, h8.ip, h8.at_⟩, o2.symm⟩
theorem Two.done {σ : St} {ip jp : Id} {V W : Vd} {T U : Nat} {ρ : St} (h : Two σ ip jp V W T U ρ) {K : AV → St → Prop} (hK : K (.raw (.bool (decide (T = 0)))) ρ) : ACalls Try.prog 30 [.rp ip 0 0] ρ K := by
  obtain ⟨X1, ph1, v1, w1, X2, ph2, v2, w2, h1, h2, h3, h4, h5, h6, h7, h8, h9⟩ := h
  obtain ⟨d', v3, t', w3, u', nx', r', m', hnx⟩ := h2.ob
  refine done_calls m' ?_
  have e : ph1.done = decide (T = 0) := by
    cases h3 with
    | fin => rfl
    | step a b => rw [a]; rfl
  rw [e]; exact hK
theorem Two.verdict {σ : St} {ip jp : Id} (hsz : ip.sz = 34) {V W : Vd} {U : Nat} {ρ : St} (h : Two σ ip jp V W 0 U ρ) {K : AV → St → Prop} (hK : ∀ τ, Ext ρ τ → K (.tup [vdAV V false, .raw (.bool true)]) τ) : ACalls Try.prog 27 [.rp ip 0 0] ρ K := by
  obtain ⟨X1, ph1, v1, w1, X2, ph2, v2, w2, h1, h2, h3, h4, h5, h6, h7, h8, h9⟩ := h
  have := h3.done
  subst this
  exact verdict_calls hsz h2 hK
theorem probeOwn_calls (n m : Nw) (f g : Fl) (q r : Qy) (tl : List Int) (hn : NwOK n) (hm : NwOK m) (hq : RgOK q.r) (hr : RgOK r.r) (htl : tl.length < 2 ^ 44) :
    PCalls Try.prog 8 [nw2AV n m f g, qy2AV q r, intsAV tl false] (.raw (.bool true)) := by
  have hal := alive13_calls
  have hfit1 := fits12_calls n m f g q hn.w hm.w
  have hfit2 := fits12_calls n m f g r hn.w hm.w
  have hrun1 := run_calls n m f g q hn hm hq
  have hrun2 := run_calls m n g f r hm hn hr
  rw [run_ask] at hrun1 hrun2
  have hvl1 := run_len n m q
  have hvl2 := run_len m n r
  refine pbody Try.func8 rfl (N := 177) rfl rfl (by simp) (by simp [noIds]) fun σ => ?_
  repeat (refine awp_seq ?_)
  refine awp_reg ?_
  simp [-cellOK, nw2_cells, qy2_cells]
  generalize hA0 : put 177 _ _ _ = A0
  have d2 : A0 2 = intsAV tl false := by rw [← hA0]; simp [new_nx']
  have d3 : A0 3 = .rp ⟨3, σ.nx 3, 6⟩ 0 0 := by rw [← hA0]; simp [new_nx']
  have d4 : A0 4 = .rp ⟨4, σ.nx 4, 14⟩ 0 0 := by rw [← hA0]; simp [new_nx']
  clear hA0
  refine awp_freeze ⟨3, σ.nx 3, 6⟩ ?_
  refine awp_freeze ⟨4, σ.nx 4, 14⟩ ?_
  generalize hτ : St.del _ _ = τ
  generalize hA : (fun t => giveUp _ _ _) = A
  have a2 : A 2 = intsAV tl false := by rw [← hA, ← hτ]; simp [giveUp, St.new, St.del, d2, intsAV]
  have a3 : A 3 = .pp (nw2AV n m f g).cells 0 := by rw [← hA, ← hτ]; simp [giveUp, St.new, St.del, nw2_cells, d3]
  have a4 : A 4 = .pp (qy2AV q r).cells 0 := by rw [← hA, ← hτ]; simp [giveUp, St.new, St.del, qy2_cells, d4]
  have hE : Ext σ τ := by
    rw [← hτ]
    refine ⟨fun i o h => ?_, fun s => ?_⟩
    · have q1 : i ≠ ⟨3, σ.nx 3, 6⟩ := fun e => by rw [e, fresh_none] at h; cases h
      have q2 : i ≠ ⟨4, σ.nx 4, 14⟩ := fun e => by rw [e, fresh_none] at h; cases h
      simp [St.del, St.new, q1, q2, h]
    · simp only [St.del, St.new]
      repeat' split
      all_goals omega
  clear hτ hA d2 d3 d4
  have hf1 : ∀ b, fits12 n m q = b → ∃ b', fits12 n m q = b' := fun b h => ⟨_, h⟩
  cases ha1 : askedB n m q with
  | false =>
    rw [ha1, if_neg (by decide)] at hrun1
    generalize (runQ n m q).1 = V at hrun1
    generalize (runQ m n r).1 = W at hrun2
    cases ha2 : askedB m n r with
    | false =>
      rw [ha2, if_neg (by decide)] at hrun2
      (try ((first | with_reducible refine dops_go ?_ | with_reducible refine OKv_go ?_ | with_reducible refine OKr_go ?_); simp [-cellOK, a2, a3, a4, nw2_cells, nw2_fold, nw_fold, qy2_cells, qy_cells, qy_fold])); repeat' (first | refine awp_seq ?_ | refine awp_block ?_ | (refine awp_skip ?_; try simp) | (refine awp_exit ?_; try simp) | (refine awp_ret ?_; try simp) | ((first | refine awp_reg ?_ | refine awp_drawT (fun _ => false) mixed (by decide +kernel) ?_ | refine awp_drawT isCallO mixed (by decide +kernel) ?_ | refine PCalls.use (hfit1) ?_ | refine Or.inl ⟨_, Or.inl (hfit1), ?_⟩ | refine PCalls.use (hfit2) ?_ | refine Or.inl ⟨_, Or.inl (hfit2), ?_⟩); simp [-cellOK, a2, a3, a4, nw2_cells, nw2_fold, nw_fold, qy2_cells, qy_cells, qy_fold]) | (refine guarded_split ?_ ?_ <;> (intro hg; simp only [hg]; simp [-cellOK, a2, a3, a4, nw2_cells, nw2_fold, nw_fold, qy2_cells, qy_cells, qy_fold])) | (apply awp_cond_t; focus (simp [-cellOK, a2, a3, a4, nw2_cells, nw2_fold, nw_fold, qy2_cells, qy_cells, qy_fold]; done)) | (apply awp_cond_f; focus (simp [-cellOK, a2, a3, a4, nw2_cells, nw2_fold, nw_fold, qy2_cells, qy_cells, qy_fold]; done)) | (refine awp_cond ?_; simp [-cellOK, a2, a3, a4, nw2_cells, nw2_fold, nw_fold, qy2_cells, qy_cells, qy_fold]; refine ⟨?_, ?_⟩ <;> intro hc) | fail)
      refine pnew_calls n m f g q hn hm hq (fun _ τ1 hE1 => ?_) (fun h => by rw [ha1] at h; cases h) (fun h => by rw [ha1] at h; cases h) (fun _ _ h => by rw [ha1] at h; cases h)
      (try ((first | with_reducible refine dops_go ?_ | with_reducible refine OKv_go ?_ | with_reducible refine OKr_go ?_); simp [-cellOK, a2, a3, a4, nw2_cells, nw2_fold, nw_fold, qy2_cells, qy_cells, qy_fold])); repeat' (first | refine awp_seq ?_ | refine awp_block ?_ | (refine awp_skip ?_; try simp) | (refine awp_exit ?_; try simp) | (refine awp_ret ?_; try simp) | ((first | refine awp_reg ?_ | refine awp_drawT (fun _ => false) mixed (by decide +kernel) ?_ | refine awp_drawT isCallO mixed (by decide +kernel) ?_); simp [-cellOK, a2, a3, a4, nw2_cells, nw2_fold, nw_fold, qy2_cells, qy_cells, qy_fold]) | (refine guarded_split ?_ ?_ <;> (intro hg; simp only [hg]; simp [-cellOK, a2, a3, a4, nw2_cells, nw2_fold, nw_fold, qy2_cells, qy_cells, qy_fold])) | (apply awp_cond_t; focus (simp [-cellOK, a2, a3, a4, nw2_cells, nw2_fold, nw_fold, qy2_cells, qy_cells, qy_fold]; done)) | (apply awp_cond_f; focus (simp [-cellOK, a2, a3, a4, nw2_cells, nw2_fold, nw_fold, qy2_cells, qy_cells, qy_fold]; done)) | (refine awp_cond ?_; simp [-cellOK, a2, a3, a4, nw2_cells, nw2_fold, nw_fold, qy2_cells, qy_cells, qy_fold]; refine ⟨?_, ?_⟩ <;> intro hc) | fail)
      refine pnew_calls m n g f r hm hn hr (fun _ τ2 hE2 => ?_) (fun h => by rw [ha2] at h; cases h) (fun h => by rw [ha2] at h; cases h) (fun _ _ h => by rw [ha2] at h; cases h)
      have hEτ := (hE.trans hE1).trans hE2
      cases fits12 n m q <;> cases fits12 n m r
      all_goals
        (try ((first | with_reducible refine dops_go ?_ | with_reducible refine OKv_go ?_ | with_reducible refine OKr_go ?_); simp [-cellOK, a2, a3, a4, nw2_cells, nw2_fold, nw_fold, qy2_cells, qy_cells, qy_fold, vd0_fold, vd0_cells, vd_cells, vd_fold, vd0_put, new_m, set_m, new_nx'])); repeat' (first | refine awp_seq ?_ | refine awp_block ?_ | (refine awp_skip ?_; try simp) | (refine awp_exit ?_; try simp) | (refine awp_ret ?_; try simp) | (refine retP_same (by simp) ?_; simp) | (refine retP_no (by simp) (by simp [noIds]) (by repeat (first | assumption | exact Ext.refl _ | refine ext_new' ?_ | refine Ext.setF ?_ (by first | assumption | (simp [new_nx', St.set, fresh_none]; done) | exact ext_fresh (by assumption)))) ?_; simp [-cellOK, a2, a3, a4, nw2_cells, nw2_fold, nw_fold, qy2_cells, qy_cells, qy_fold, vd0_fold, vd0_cells, vd_cells, vd_fold, vd0_put, new_m, set_m, new_nx', new_m, set_m, new_nx']) | ((first | refine awp_reg ?_ | refine awp_drawT (fun _ => false) mixed (by decide +kernel) ?_ | refine awp_drawT isCallO mixed (by decide +kernel) ?_ | refine PCalls.use (hrun1) ?_ | refine Or.inl ⟨_, Or.inl (hrun1), ?_⟩ | refine PCalls.use (hrun2) ?_ | refine Or.inl ⟨_, Or.inl (hrun2), ?_⟩ | refine PCalls.use (hal) ?_ | refine Or.inl ⟨_, Or.inl (hal), ?_⟩); simp [-cellOK, a2, a3, a4, nw2_cells, nw2_fold, nw_fold, qy2_cells, qy_cells, qy_fold, vd0_fold, vd0_cells, vd_cells, vd_fold, vd0_put, new_m, set_m, new_nx']) | (refine guarded_split ?_ ?_ <;> (intro hg; simp only [hg]; simp [-cellOK, a2, a3, a4, nw2_cells, nw2_fold, nw_fold, qy2_cells, qy_cells, qy_fold, vd0_fold, vd0_cells, vd_cells, vd_fold, vd0_put, new_m, set_m, new_nx'])) | (apply awp_cond_t; focus (simp [-cellOK, a2, a3, a4, nw2_cells, nw2_fold, nw_fold, qy2_cells, qy_cells, qy_fold, vd0_fold, vd0_cells, vd_cells, vd_fold, vd0_put, new_m, set_m, new_nx']; done)) | (apply awp_cond_f; focus (simp [-cellOK, a2, a3, a4, nw2_cells, nw2_fold, nw_fold, qy2_cells, qy_cells, qy_fold, vd0_fold, vd0_cells, vd_cells, vd_fold, vd0_put, new_m, set_m, new_nx']; done)) | (refine awp_cond ?_; simp [-cellOK, a2, a3, a4, nw2_cells, nw2_fold, nw_fold, qy2_cells, qy_cells, qy_fold, vd0_fold, vd0_cells, vd_cells, vd_fold, vd0_put, new_m, set_m, new_nx']; refine ⟨?_, ?_⟩ <;> intro hc) | fail)
    | true =>
      rw [ha2, if_pos rfl] at hrun2
      obtain ⟨hs2, hp2⟩ := asked_ne hr ha2
      (try ((first | with_reducible refine dops_go ?_ | with_reducible refine OKv_go ?_ | with_reducible refine OKr_go ?_); simp [-cellOK, a2, a3, a4, nw2_cells, nw2_fold, nw_fold, qy2_cells, qy_cells, qy_fold])); repeat' (first | refine awp_seq ?_ | refine awp_block ?_ | (refine awp_skip ?_; try simp) | (refine awp_exit ?_; try simp) | (refine awp_ret ?_; try simp) | ((first | refine awp_reg ?_ | refine awp_drawT (fun _ => false) mixed (by decide +kernel) ?_ | refine awp_drawT isCallO mixed (by decide +kernel) ?_ | refine PCalls.use (hfit1) ?_ | refine Or.inl ⟨_, Or.inl (hfit1), ?_⟩ | refine PCalls.use (hfit2) ?_ | refine Or.inl ⟨_, Or.inl (hfit2), ?_⟩); simp [-cellOK, a2, a3, a4, nw2_cells, nw2_fold, nw_fold, qy2_cells, qy_cells, qy_fold]) | (refine guarded_split ?_ ?_ <;> (intro hg; simp only [hg]; simp [-cellOK, a2, a3, a4, nw2_cells, nw2_fold, nw_fold, qy2_cells, qy_cells, qy_fold])) | (apply awp_cond_t; focus (simp [-cellOK, a2, a3, a4, nw2_cells, nw2_fold, nw_fold, qy2_cells, qy_cells, qy_fold]; done)) | (apply awp_cond_f; focus (simp [-cellOK, a2, a3, a4, nw2_cells, nw2_fold, nw_fold, qy2_cells, qy_cells, qy_fold]; done)) | (refine awp_cond ?_; simp [-cellOK, a2, a3, a4, nw2_cells, nw2_fold, nw_fold, qy2_cells, qy_cells, qy_fold]; refine ⟨?_, ?_⟩ <;> intro hc) | fail)
      refine pnew_calls n m f g q hn hm hq (fun _ τ1 hE1 => ?_) (fun h => by rw [ha1] at h; cases h) (fun h => by rw [ha1] at h; cases h) (fun _ _ h => by rw [ha1] at h; cases h)
      (try ((first | with_reducible refine dops_go ?_ | with_reducible refine OKv_go ?_ | with_reducible refine OKr_go ?_); simp [-cellOK, a2, a3, a4, nw2_cells, nw2_fold, nw_fold, qy2_cells, qy_cells, qy_fold])); repeat' (first | refine awp_seq ?_ | refine awp_block ?_ | (refine awp_skip ?_; try simp) | (refine awp_exit ?_; try simp) | (refine awp_ret ?_; try simp) | ((first | refine awp_reg ?_ | refine awp_drawT (fun _ => false) mixed (by decide +kernel) ?_ | refine awp_drawT isCallO mixed (by decide +kernel) ?_); simp [-cellOK, a2, a3, a4, nw2_cells, nw2_fold, nw_fold, qy2_cells, qy_cells, qy_fold]) | (refine guarded_split ?_ ?_ <;> (intro hg; simp only [hg]; simp [-cellOK, a2, a3, a4, nw2_cells, nw2_fold, nw_fold, qy2_cells, qy_cells, qy_fold])) | (apply awp_cond_t; focus (simp [-cellOK, a2, a3, a4, nw2_cells, nw2_fold, nw_fold, qy2_cells, qy_cells, qy_fold]; done)) | (apply awp_cond_f; focus (simp [-cellOK, a2, a3, a4, nw2_cells, nw2_fold, nw_fold, qy2_cells, qy_cells, qy_fold]; done)) | (refine awp_cond ?_; simp [-cellOK, a2, a3, a4, nw2_cells, nw2_fold, nw_fold, qy2_cells, qy_cells, qy_fold]; refine ⟨?_, ?_⟩ <;> intro hc) | fail)
      refine pnew_calls m n g f r hm hn hr (fun h => by rw [ha2] at h; cases h) (fun _ => hs2) (fun _ => hp2) (fun s1 ss1 _ hs1 τ2 jp hsz2 hjp hR2 hE2 => ?_)
      have hEτ := (hE.trans hE1).trans hE2
      cases fits12 n m q <;> cases fits12 n m r
      all_goals
        (try ((first | with_reducible refine dops_go ?_ | with_reducible refine OKv_go ?_ | with_reducible refine OKr_go ?_); simp [-cellOK, a2, a3, a4, nw2_cells, nw2_fold, nw_fold, qy2_cells, qy_cells, qy_fold, vd0_fold, vd0_cells, vd_cells, vd_fold, vd0_put, new_m, set_m, new_nx'])); repeat' (first | refine awp_seq ?_ | refine awp_block ?_ | (refine awp_skip ?_; try simp) | (refine awp_exit ?_; try simp) | (refine awp_ret ?_; try simp) | (refine retP_same (by simp) ?_; simp) | (refine retP_no (by simp) (by simp [noIds]) (by repeat (first | assumption | exact Ext.refl _ | refine ext_new' ?_ | refine Ext.setF ?_ (by first | assumption | (simp [new_nx', St.set, fresh_none]; done) | exact ext_fresh (by assumption)))) ?_; simp [-cellOK, a2, a3, a4, nw2_cells, nw2_fold, nw_fold, qy2_cells, qy_cells, qy_fold, vd0_fold, vd0_cells, vd_cells, vd_fold, vd0_put, new_m, set_m, new_nx', new_m, set_m, new_nx']) | ((first | refine awp_reg ?_ | refine awp_drawT (fun _ => false) mixed (by decide +kernel) ?_ | refine awp_drawT isCallO mixed (by decide +kernel) ?_ | refine PCalls.use (hrun1) ?_ | refine Or.inl ⟨_, Or.inl (hrun1), ?_⟩ | refine PCalls.use (hrun2) ?_ | refine Or.inl ⟨_, Or.inl (hrun2), ?_⟩ | refine PCalls.use (hal) ?_ | refine Or.inl ⟨_, Or.inl (hal), ?_⟩); simp [-cellOK, a2, a3, a4, nw2_cells, nw2_fold, nw_fold, qy2_cells, qy_cells, qy_fold, vd0_fold, vd0_cells, vd_cells, vd_fold, vd0_put, new_m, set_m, new_nx']) | (refine guarded_split ?_ ?_ <;> (intro hg; simp only [hg]; simp [-cellOK, a2, a3, a4, nw2_cells, nw2_fold, nw_fold, qy2_cells, qy_cells, qy_fold, vd0_fold, vd0_cells, vd_cells, vd_fold, vd0_put, new_m, set_m, new_nx'])) | (apply awp_cond_t; focus (simp [-cellOK, a2, a3, a4, nw2_cells, nw2_fold, nw_fold, qy2_cells, qy_cells, qy_fold, vd0_fold, vd0_cells, vd_cells, vd_fold, vd0_put, new_m, set_m, new_nx']; done)) | (apply awp_cond_f; focus (simp [-cellOK, a2, a3, a4, nw2_cells, nw2_fold, nw_fold, qy2_cells, qy_cells, qy_fold, vd0_fold, vd0_cells, vd_cells, vd_fold, vd0_put, new_m, set_m, new_nx']; done)) | (refine awp_cond ?_; simp [-cellOK, a2, a3, a4, nw2_cells, nw2_fold, nw_fold, qy2_cells, qy_cells, qy_fold, vd0_fold, vd0_cells, vd_cells, vd_fold, vd0_put, new_m, set_m, new_nx']; refine ⟨?_, ?_⟩ <;> intro hc) | fail)
  | true =>
    rw [ha1, if_pos rfl] at hrun1
    obtain ⟨hs1, hp1⟩ := asked_ne hq ha1
    cases ha2 : askedB m n r with
    | false =>
      rw [ha2, if_neg (by decide)] at hrun2
      generalize (runQ n m q).1 = V at hrun1
      generalize (runQ m n r).1 = W at hrun2
      (try ((first | with_reducible refine dops_go ?_ | with_reducible refine OKv_go ?_ | with_reducible refine OKr_go ?_); simp [-cellOK, a2, a3, a4, nw2_cells, nw2_fold, nw_fold, qy2_cells, qy_cells, qy_fold])); repeat' (first | refine awp_seq ?_ | refine awp_block ?_ | (refine awp_skip ?_; try simp) | (refine awp_exit ?_; try simp) | (refine awp_ret ?_; try simp) | ((first | refine awp_reg ?_ | refine awp_drawT (fun _ => false) mixed (by decide +kernel) ?_ | refine awp_drawT isCallO mixed (by decide +kernel) ?_ | refine PCalls.use (hfit1) ?_ | refine Or.inl ⟨_, Or.inl (hfit1), ?_⟩ | refine PCalls.use (hfit2) ?_ | refine Or.inl ⟨_, Or.inl (hfit2), ?_⟩); simp [-cellOK, a2, a3, a4, nw2_cells, nw2_fold, nw_fold, qy2_cells, qy_cells, qy_fold]) | (refine guarded_split ?_ ?_ <;> (intro hg; simp only [hg]; simp [-cellOK, a2, a3, a4, nw2_cells, nw2_fold, nw_fold, qy2_cells, qy_cells, qy_fold])) | (apply awp_cond_t; focus (simp [-cellOK, a2, a3, a4, nw2_cells, nw2_fold, nw_fold, qy2_cells, qy_cells, qy_fold]; done)) | (apply awp_cond_f; focus (simp [-cellOK, a2, a3, a4, nw2_cells, nw2_fold, nw_fold, qy2_cells, qy_cells, qy_fold]; done)) | (refine awp_cond ?_; simp [-cellOK, a2, a3, a4, nw2_cells, nw2_fold, nw_fold, qy2_cells, qy_cells, qy_fold]; refine ⟨?_, ?_⟩ <;> intro hc) | fail)
      refine pnew_calls n m f g q hn hm hq (fun h => by rw [ha1] at h; cases h) (fun _ => hs1) (fun _ => hp1) (fun s1 ss1 _ hs1 τ1 ip hsz hip hR1 hE1 => ?_)
      (try ((first | with_reducible refine dops_go ?_ | with_reducible refine OKv_go ?_ | with_reducible refine OKr_go ?_); simp [-cellOK, a2, a3, a4, nw2_cells, nw2_fold, nw_fold, qy2_cells, qy_cells, qy_fold])); repeat' (first | refine awp_seq ?_ | refine awp_block ?_ | (refine awp_skip ?_; try simp) | (refine awp_exit ?_; try simp) | (refine awp_ret ?_; try simp) | ((first | refine awp_reg ?_ | refine awp_drawT (fun _ => false) mixed (by decide +kernel) ?_ | refine awp_drawT isCallO mixed (by decide +kernel) ?_); simp [-cellOK, a2, a3, a4, nw2_cells, nw2_fold, nw_fold, qy2_cells, qy_cells, qy_fold]) | (refine guarded_split ?_ ?_ <;> (intro hg; simp only [hg]; simp [-cellOK, a2, a3, a4, nw2_cells, nw2_fold, nw_fold, qy2_cells, qy_cells, qy_fold])) | (apply awp_cond_t; focus (simp [-cellOK, a2, a3, a4, nw2_cells, nw2_fold, nw_fold, qy2_cells, qy_cells, qy_fold]; done)) | (apply awp_cond_f; focus (simp [-cellOK, a2, a3, a4, nw2_cells, nw2_fold, nw_fold, qy2_cells, qy_cells, qy_fold]; done)) | (refine awp_cond ?_; simp [-cellOK, a2, a3, a4, nw2_cells, nw2_fold, nw_fold, qy2_cells, qy_cells, qy_fold]; refine ⟨?_, ?_⟩ <;> intro hc) | fail)
      refine pnew_calls m n g f r hm hn hr (fun _ τ2 hE2 => ?_) (fun h => by rw [ha2] at h; cases h) (fun h => by rw [ha2] at h; cases h) (fun _ _ h => by rw [ha2] at h; cases h)
      have hEτ := (hE.trans hE1).trans hE2
      cases fits12 n m q <;> cases fits12 n m r
      all_goals
        (try ((first | with_reducible refine dops_go ?_ | with_reducible refine OKv_go ?_ | with_reducible refine OKr_go ?_); simp [-cellOK, a2, a3, a4, nw2_cells, nw2_fold, nw_fold, qy2_cells, qy_cells, qy_fold, vd0_fold, vd0_cells, vd_cells, vd_fold, vd0_put, new_m, set_m, new_nx'])); repeat' (first | refine awp_seq ?_ | refine awp_block ?_ | (refine awp_skip ?_; try simp) | (refine awp_exit ?_; try simp) | (refine awp_ret ?_; try simp) | (refine retP_same (by simp) ?_; simp) | (refine retP_no (by simp) (by simp [noIds]) (by repeat (first | assumption | exact Ext.refl _ | refine ext_new' ?_ | refine Ext.setF ?_ (by first | assumption | (simp [new_nx', St.set, fresh_none]; done) | exact ext_fresh (by assumption)))) ?_; simp [-cellOK, a2, a3, a4, nw2_cells, nw2_fold, nw_fold, qy2_cells, qy_cells, qy_fold, vd0_fold, vd0_cells, vd_cells, vd_fold, vd0_put, new_m, set_m, new_nx', new_m, set_m, new_nx']) | ((first | refine awp_reg ?_ | refine awp_drawT (fun _ => false) mixed (by decide +kernel) ?_ | refine awp_drawT isCallO mixed (by decide +kernel) ?_ | refine PCalls.use (hrun1) ?_ | refine Or.inl ⟨_, Or.inl (hrun1), ?_⟩ | refine PCalls.use (hrun2) ?_ | refine Or.inl ⟨_, Or.inl (hrun2), ?_⟩ | refine PCalls.use (hal) ?_ | refine Or.inl ⟨_, Or.inl (hal), ?_⟩); simp [-cellOK, a2, a3, a4, nw2_cells, nw2_fold, nw_fold, qy2_cells, qy_cells, qy_fold, vd0_fold, vd0_cells, vd_cells, vd_fold, vd0_put, new_m, set_m, new_nx']) | (refine guarded_split ?_ ?_ <;> (intro hg; simp only [hg]; simp [-cellOK, a2, a3, a4, nw2_cells, nw2_fold, nw_fold, qy2_cells, qy_cells, qy_fold, vd0_fold, vd0_cells, vd_cells, vd_fold, vd0_put, new_m, set_m, new_nx'])) | (apply awp_cond_t; focus (simp [-cellOK, a2, a3, a4, nw2_cells, nw2_fold, nw_fold, qy2_cells, qy_cells, qy_fold, vd0_fold, vd0_cells, vd_cells, vd_fold, vd0_put, new_m, set_m, new_nx']; done)) | (apply awp_cond_f; focus (simp [-cellOK, a2, a3, a4, nw2_cells, nw2_fold, nw_fold, qy2_cells, qy_cells, qy_fold, vd0_fold, vd0_cells, vd_cells, vd_fold, vd0_put, new_m, set_m, new_nx']; done)) | (refine awp_cond ?_; simp [-cellOK, a2, a3, a4, nw2_cells, nw2_fold, nw_fold, qy2_cells, qy_cells, qy_fold, vd0_fold, vd0_cells, vd_cells, vd_fold, vd0_put, new_m, set_m, new_nx']; refine ⟨?_, ?_⟩ <;> intro hc) | fail)
    | true =>
      rw [ha2, if_pos rfl] at hrun2
      obtain ⟨hs2, hp2⟩ := asked_ne hr ha2
      obtain ⟨b1, hb1⟩ : ∃ b, fits12 n m q = b := ⟨_, rfl⟩
      obtain ⟨b2, hb2⟩ : ∃ b, fits12 n m r = b := ⟨_, rfl⟩
      rw [hb1] at hfit1
      rw [hb2] at hfit2
      by_cases hb : b1 = false ∨ b2 = false
      · generalize (runQ n m q).1 = V at hrun1
        generalize (runQ m n r).1 = W at hrun2
        (try ((first | with_reducible refine dops_go ?_ | with_reducible refine OKv_go ?_ | with_reducible refine OKr_go ?_); simp [-cellOK, a2, a3, a4, nw2_cells, nw2_fold, nw_fold, qy2_cells, qy_cells, qy_fold])); repeat' (first | refine awp_seq ?_ | refine awp_block ?_ | (refine awp_skip ?_; try simp) | (refine awp_exit ?_; try simp) | (refine awp_ret ?_; try simp) | ((first | refine awp_reg ?_ | refine awp_drawT (fun _ => false) mixed (by decide +kernel) ?_ | refine awp_drawT isCallO mixed (by decide +kernel) ?_ | refine PCalls.use (hfit1) ?_ | refine Or.inl ⟨_, Or.inl (hfit1), ?_⟩ | refine PCalls.use (hfit2) ?_ | refine Or.inl ⟨_, Or.inl (hfit2), ?_⟩); simp [-cellOK, a2, a3, a4, nw2_cells, nw2_fold, nw_fold, qy2_cells, qy_cells, qy_fold]) | (refine guarded_split ?_ ?_ <;> (intro hg; simp only [hg]; simp [-cellOK, a2, a3, a4, nw2_cells, nw2_fold, nw_fold, qy2_cells, qy_cells, qy_fold])) | (apply awp_cond_t; focus (simp [-cellOK, a2, a3, a4, nw2_cells, nw2_fold, nw_fold, qy2_cells, qy_cells, qy_fold]; done)) | (apply awp_cond_f; focus (simp [-cellOK, a2, a3, a4, nw2_cells, nw2_fold, nw_fold, qy2_cells, qy_cells, qy_fold]; done)) | (refine awp_cond ?_; simp [-cellOK, a2, a3, a4, nw2_cells, nw2_fold, nw_fold, qy2_cells, qy_cells, qy_fold]; refine ⟨?_, ?_⟩ <;> intro hc) | fail)
        refine pnew_calls n m f g q hn hm hq (fun h => by rw [ha1] at h; cases h) (fun _ => hs1) (fun _ => hp1) (fun s1 ss1 _ hs1 τ1 ip hsz hip hR1 hE1 => ?_)
        (try ((first | with_reducible refine dops_go ?_ | with_reducible refine OKv_go ?_ | with_reducible refine OKr_go ?_); simp [-cellOK, a2, a3, a4, nw2_cells, nw2_fold, nw_fold, qy2_cells, qy_cells, qy_fold])); repeat' (first | refine awp_seq ?_ | refine awp_block ?_ | (refine awp_skip ?_; try simp) | (refine awp_exit ?_; try simp) | (refine awp_ret ?_; try simp) | ((first | refine awp_reg ?_ | refine awp_drawT (fun _ => false) mixed (by decide +kernel) ?_ | refine awp_drawT isCallO mixed (by decide +kernel) ?_); simp [-cellOK, a2, a3, a4, nw2_cells, nw2_fold, nw_fold, qy2_cells, qy_cells, qy_fold]) | (refine guarded_split ?_ ?_ <;> (intro hg; simp only [hg]; simp [-cellOK, a2, a3, a4, nw2_cells, nw2_fold, nw_fold, qy2_cells, qy_cells, qy_fold])) | (apply awp_cond_t; focus (simp [-cellOK, a2, a3, a4, nw2_cells, nw2_fold, nw_fold, qy2_cells, qy_cells, qy_fold]; done)) | (apply awp_cond_f; focus (simp [-cellOK, a2, a3, a4, nw2_cells, nw2_fold, nw_fold, qy2_cells, qy_cells, qy_fold]; done)) | (refine awp_cond ?_; simp [-cellOK, a2, a3, a4, nw2_cells, nw2_fold, nw_fold, qy2_cells, qy_cells, qy_fold]; refine ⟨?_, ?_⟩ <;> intro hc) | fail)
        refine pnew_calls m n g f r hm hn hr (fun h => by rw [ha2] at h; cases h) (fun _ => hs2) (fun _ => hp2) (fun s1 ss1 _ hs1 τ2 jp hsz2 hjp hR2 hE2 => ?_)
        have hEτ := (hE.trans hE1).trans hE2
        cases b1 <;> cases b2
        rotate_right
        · exact absurd hb (by decide)
        all_goals
          (try ((first | with_reducible refine dops_go ?_ | with_reducible refine OKv_go ?_ | with_reducible refine OKr_go ?_); simp [-cellOK, a2, a3, a4, nw2_cells, nw2_fold, nw_fold, qy2_cells, qy_cells, qy_fold, vd0_fold, vd0_cells, vd_cells, vd_fold, vd0_put, new_m, set_m, new_nx'])); repeat' (first | refine awp_seq ?_ | refine awp_block ?_ | (refine awp_skip ?_; try simp) | (refine awp_exit ?_; try simp) | (refine awp_ret ?_; try simp) | (refine retP_same (by simp) ?_; simp) | (refine retP_no (by simp) (by simp [noIds]) (by repeat (first | assumption | exact Ext.refl _ | refine ext_new' ?_ | refine Ext.setF ?_ (by first | assumption | (simp [new_nx', St.set, fresh_none]; done) | exact ext_fresh (by assumption)))) ?_; simp [-cellOK, a2, a3, a4, nw2_cells, nw2_fold, nw_fold, qy2_cells, qy_cells, qy_fold, vd0_fold, vd0_cells, vd_cells, vd_fold, vd0_put, new_m, set_m, new_nx', new_m, set_m, new_nx']) | ((first | refine awp_reg ?_ | refine awp_drawT (fun _ => false) mixed (by decide +kernel) ?_ | refine awp_drawT isCallO mixed (by decide +kernel) ?_ | refine PCalls.use (hrun1) ?_ | refine Or.inl ⟨_, Or.inl (hrun1), ?_⟩ | refine PCalls.use (hrun2) ?_ | refine Or.inl ⟨_, Or.inl (hrun2), ?_⟩ | refine PCalls.use (hal) ?_ | refine Or.inl ⟨_, Or.inl (hal), ?_⟩); simp [-cellOK, a2, a3, a4, nw2_cells, nw2_fold, nw_fold, qy2_cells, qy_cells, qy_fold, vd0_fold, vd0_cells, vd_cells, vd_fold, vd0_put, new_m, set_m, new_nx']) | (refine guarded_split ?_ ?_ <;> (intro hg; simp only [hg]; simp [-cellOK, a2, a3, a4, nw2_cells, nw2_fold, nw_fold, qy2_cells, qy_cells, qy_fold, vd0_fold, vd0_cells, vd_cells, vd_fold, vd0_put, new_m, set_m, new_nx'])) | (apply awp_cond_t; focus (simp [-cellOK, a2, a3, a4, nw2_cells, nw2_fold, nw_fold, qy2_cells, qy_cells, qy_fold, vd0_fold, vd0_cells, vd_cells, vd_fold, vd0_put, new_m, set_m, new_nx']; done)) | (apply awp_cond_f; focus (simp [-cellOK, a2, a3, a4, nw2_cells, nw2_fold, nw_fold, qy2_cells, qy_cells, qy_fold, vd0_fold, vd0_cells, vd_cells, vd_fold, vd0_put, new_m, set_m, new_nx']; done)) | (refine awp_cond ?_; simp [-cellOK, a2, a3, a4, nw2_cells, nw2_fold, nw_fold, qy2_cells, qy_cells, qy_fold, vd0_fold, vd0_cells, vd_cells, vd_fold, vd0_put, new_m, set_m, new_nx']; refine ⟨?_, ?_⟩ <;> intro hc) | fail)
      have hbb : b1 = true ∧ b2 = true := by cases b1 <;> cases b2 <;> simp at hb ⊢
      obtain ⟨rfl, rfl⟩ := hbb
      obtain ⟨rn, rm⟩ := fits12_right' hb1
      obtain ⟨s, ss, T, hs, hp, hends, _, _, hT⟩ := run_ends f g rn rm hq ha1
      obtain ⟨s2, ss2, U, hss2, hp2', hends2, _, _, hU⟩ := run_ends g f rm rn hr ha2
      generalize (runQ n m q).1 = V at hends hrun1 hvl1
      generalize (runQ m n r).1 = W at hends2 hrun2 hvl2
      (try ((first | with_reducible refine dops_go ?_ | with_reducible refine OKv_go ?_ | with_reducible refine OKr_go ?_); simp [-cellOK, a2, a3, a4, nw2_cells, nw2_fold, nw_fold, qy2_cells, qy_cells, qy_fold])); repeat' (first | refine awp_seq ?_ | refine awp_block ?_ | (refine awp_skip ?_; try simp) | (refine awp_exit ?_; try simp) | (refine awp_ret ?_; try simp) | ((first | refine awp_reg ?_ | refine awp_drawT (fun _ => false) mixed (by decide +kernel) ?_ | refine awp_drawT isCallO mixed (by decide +kernel) ?_ | refine PCalls.use (hfit1) ?_ | refine Or.inl ⟨_, Or.inl (hfit1), ?_⟩ | refine PCalls.use (hfit2) ?_ | refine Or.inl ⟨_, Or.inl (hfit2), ?_⟩); simp [-cellOK, a2, a3, a4, nw2_cells, nw2_fold, nw_fold, qy2_cells, qy_cells, qy_fold]) | (refine guarded_split ?_ ?_ <;> (intro hg; simp only [hg]; simp [-cellOK, a2, a3, a4, nw2_cells, nw2_fold, nw_fold, qy2_cells, qy_cells, qy_fold])) | (apply awp_cond_t; focus (simp [-cellOK, a2, a3, a4, nw2_cells, nw2_fold, nw_fold, qy2_cells, qy_cells, qy_fold]; done)) | (apply awp_cond_f; focus (simp [-cellOK, a2, a3, a4, nw2_cells, nw2_fold, nw_fold, qy2_cells, qy_cells, qy_fold]; done)) | (refine awp_cond ?_; simp [-cellOK, a2, a3, a4, nw2_cells, nw2_fold, nw_fold, qy2_cells, qy_cells, qy_fold]; refine ⟨?_, ?_⟩ <;> intro hc) | fail)
      refine pnew_calls n m f g q hn hm hq (fun h => by rw [ha1] at h; cases h) (fun _ => hs1) (fun _ => hp1) (fun s1 ss1 _ hs1 τ1 ip hsz hip hR1 hE1 => ?_)
      rw [hs] at hs1
      injection hs1 with e1 e2
      subst e1; subst e2
      (try ((first | with_reducible refine dops_go ?_ | with_reducible refine OKv_go ?_ | with_reducible refine OKr_go ?_); simp [-cellOK, a2, a3, a4, nw2_cells, nw2_fold, nw_fold, qy2_cells, qy_cells, qy_fold])); repeat' (first | refine awp_seq ?_ | refine awp_block ?_ | (refine awp_skip ?_; try simp) | (refine awp_exit ?_; try simp) | (refine awp_ret ?_; try simp) | ((first | refine awp_reg ?_ | refine awp_drawT (fun _ => false) mixed (by decide +kernel) ?_ | refine awp_drawT isCallO mixed (by decide +kernel) ?_); simp [-cellOK, a2, a3, a4, nw2_cells, nw2_fold, nw_fold, qy2_cells, qy_cells, qy_fold]) | (refine guarded_split ?_ ?_ <;> (intro hg; simp only [hg]; simp [-cellOK, a2, a3, a4, nw2_cells, nw2_fold, nw_fold, qy2_cells, qy_cells, qy_fold])) | (apply awp_cond_t; focus (simp [-cellOK, a2, a3, a4, nw2_cells, nw2_fold, nw_fold, qy2_cells, qy_cells, qy_fold]; done)) | (apply awp_cond_f; focus (simp [-cellOK, a2, a3, a4, nw2_cells, nw2_fold, nw_fold, qy2_cells, qy_cells, qy_fold]; done)) | (refine awp_cond ?_; simp [-cellOK, a2, a3, a4, nw2_cells, nw2_fold, nw_fold, qy2_cells, qy_cells, qy_fold]; refine ⟨?_, ?_⟩ <;> intro hc) | fail)
      refine pnew_calls m n g f r hm hn hr (fun h => by rw [ha2] at h; cases h) (fun _ => hs2) (fun _ => hp2) (fun s1 ss1 _ hs1 τ2 jp hsz2 hjp hR2 hE2 => ?_)
      rw [hss2] at hs1
      injection hs1 with e1 e2
      subst e1; subst e2
      (try ((first | with_reducible refine dops_go ?_ | with_reducible refine OKv_go ?_ | with_reducible refine OKr_go ?_); simp [-cellOK, a2, a3, a4, nw2_cells, nw2_fold, nw_fold, qy2_cells, qy_cells, qy_fold, vd0_fold, vd0_cells, vd_cells, vd_fold, vd0_put, new_m, set_m, new_nx'])); repeat' (first | refine awp_seq ?_ | refine awp_block ?_ | (refine awp_skip ?_; try simp) | (refine awp_exit ?_; try simp) | (refine awp_ret ?_; try simp) | ((first | refine awp_reg ?_ | refine awp_drawT (fun _ => false) mixed (by decide +kernel) ?_ | refine awp_drawT isCallO mixed (by decide +kernel) ?_ | refine PCalls.use (hrun1) ?_ | refine Or.inl ⟨_, Or.inl (hrun1), ?_⟩ | refine PCalls.use (hrun2) ?_ | refine Or.inl ⟨_, Or.inl (hrun2), ?_⟩); simp [-cellOK, a2, a3, a4, nw2_cells, nw2_fold, nw_fold, qy2_cells, qy_cells, qy_fold, vd0_fold, vd0_cells, vd_cells, vd_fold, vd0_put, new_m, set_m, new_nx']) | (refine guarded_split ?_ ?_ <;> (intro hg; simp only [hg]; simp [-cellOK, a2, a3, a4, nw2_cells, nw2_fold, nw_fold, qy2_cells, qy_cells, qy_fold, vd0_fold, vd0_cells, vd_cells, vd_fold, vd0_put, new_m, set_m, new_nx'])) | (apply awp_cond_t; focus (simp [-cellOK, a2, a3, a4, nw2_cells, nw2_fold, nw_fold, qy2_cells, qy_cells, qy_fold, vd0_fold, vd0_cells, vd_cells, vd_fold, vd0_put, new_m, set_m, new_nx']; done)) | (apply awp_cond_f; focus (simp [-cellOK, a2, a3, a4, nw2_cells, nw2_fold, nw_fold, qy2_cells, qy_cells, qy_fold, vd0_fold, vd0_cells, vd_cells, vd_fold, vd0_put, new_m, set_m, new_nx']; done)) | (refine awp_cond ?_; simp [-cellOK, a2, a3, a4, nw2_cells, nw2_fold, nw_fold, qy2_cells, qy_cells, qy_fold, vd0_fold, vd0_cells, vd_cells, vd_fold, vd0_put, new_m, set_m, new_nx']; refine ⟨?_, ?_⟩ <;> intro hc) | fail)
      generalize hA1 : put 177 _ _ _ = A1
      have b2 : A1 2 = intsAV tl false := by rw [← hA1]; simp [a2]
      have b9 : A1 9 = .rp ip 0 0 := by rw [← hA1]; simp
      have b11 : A1 11 = .rp jp 0 0 := by rw [← hA1]; simp
      have b13 : A1 13 = .rp ⟨13, τ2.nx 13, 7⟩ 0 0 := by rw [← hA1]; simp
      have b15 : A1 15 = .rp ⟨15, τ2.nx 15, 7⟩ 0 0 := by rw [← hA1]; simp
      have b17 : A1 17 = .raw (.int .i64 0) := by rw [← hA1]; simp
      clear hA1
      have f13 : τ2.m ⟨13, τ2.nx 13, 7⟩ = none := fresh_none _ _ _
      have f15 : τ2.m ⟨15, τ2.nx 15, 7⟩ = none := fresh_none _ _ _
      generalize hST : St.set _ _ _ = ST
      have m13 : ST.m ⟨13, τ2.nx 13, 7⟩ = some (.buf [vdAV V false]) := by rw [← hST]; simp [set_m, new_m, new_nx']
      have m15 : ST.m ⟨15, τ2.nx 15, 7⟩ = some (.buf [vdAV W false]) := by rw [← hST]; simp [set_m, new_m, new_nx']
      have hES : Ext τ2 ST := by rw [← hST]; exact (by repeat (first | assumption | exact Ext.refl _ | refine ext_new' ?_ | refine Ext.setF ?_ (by first | assumption | (simp [new_nx', St.set, fresh_none]; done) | exact ext_fresh (by assumption))))
      clear hST
      have i13 : ip ≠ ⟨13, τ2.nx 13, 7⟩ := fun e => by rw [e] at hsz; cases hsz
      have j13 : jp ≠ ⟨13, τ2.nx 13, 7⟩ := fun e => by rw [e] at hsz2; cases hsz2
      have i15 : ip ≠ ⟨15, τ2.nx 15, 7⟩ := fun e => by rw [e] at hsz; cases hsz
      have j15 : jp ≠ ⟨15, τ2.nx 15, 7⟩ := fun e => by rw [e] at hsz2; cases hsz2
      have n15 : (⟨15, τ2.nx 15, 7⟩ : Id) ≠ ⟨13, τ2.nx 13, 7⟩ := by simp
      refine awp_freeze ⟨13, τ2.nx 13, 7⟩ ?_
      generalize hA2 : (fun t => giveUp _ _ _) = A2
      have c2 : A2 2 = intsAV tl false := by rw [← hA2]; show giveUp _ _ (A1 2) = _; rw [b2]; simp [giveUp, intsAV]
      have c9 : A2 9 = .rp ip 0 0 := by rw [← hA2]; show giveUp _ _ (A1 9) = _; rw [b9]; exact giveUp_rp_ne i13
      have c11 : A2 11 = .rp jp 0 0 := by rw [← hA2]; show giveUp _ _ (A1 11) = _; rw [b11]; exact giveUp_rp_ne j13
      have c13 : A2 13 = .pp (vdAV V false).cells 0 := by rw [← hA2]; show giveUp _ _ (A1 13) = _; rw [b13, giveUp_rp_made (by simp [St.del]) m13 rfl]
      have c15 : A2 15 = .rp ⟨15, τ2.nx 15, 7⟩ 0 0 := by rw [← hA2]; show giveUp _ _ (A1 15) = _; rw [b15]; exact giveUp_rp_ne n15
      have c17 : A2 17 = .raw (.int .i64 0) := by rw [← hA2]; show giveUp _ _ (A1 17) = _; rw [b17]; rfl
      clear hA2 b2 b9 b11 b13 b15 b17
      have hEd := ext_del hES f13
      have m15 : (ST.del ⟨13, τ2.nx 13, 7⟩).m ⟨15, τ2.nx 15, 7⟩ = _ := (del_other n15).trans m15
      generalize ST.del ⟨13, τ2.nx 13, 7⟩ = ST at hEd m15 ⊢
      refine awp_freeze ⟨15, τ2.nx 15, 7⟩ ?_
      generalize hA2 : (fun t => giveUp _ _ _) = A3
      have b2 : A3 2 = intsAV tl false := by rw [← hA2]; show giveUp _ _ (A2 2) = _; rw [c2]; simp [giveUp, intsAV]
      have b9 : A3 9 = .rp ip 0 0 := by rw [← hA2]; show giveUp _ _ (A2 9) = _; rw [c9]; exact giveUp_rp_ne i15
      have b11 : A3 11 = .rp jp 0 0 := by rw [← hA2]; show giveUp _ _ (A2 11) = _; rw [c11]; exact giveUp_rp_ne j15
      have b13 : A3 13 = .pp (vdAV V false).cells 0 := by rw [← hA2]; show giveUp _ _ (A2 13) = _; rw [c13]; simp [giveUp, vd_cells, intsAV]
      have b15 : A3 15 = .pp (vdAV W false).cells 0 := by rw [← hA2]; show giveUp _ _ (A2 15) = _; rw [c15, giveUp_rp_made (by simp [St.del]) m15 rfl]
      have b17 : A3 17 = .raw (.int .i64 0) := by rw [← hA2]; show giveUp _ _ (A2 17) = _; rw [c17]; rfl
      clear hA2 c2 c9 c11 c13 c15 c17
      have hEd := ext_del hEd f15
      generalize ST.del ⟨15, τ2.nx 15, 7⟩ = ρ0 at hEd ⊢
      have hE0 : Ext σ ρ0 := ((hE.trans hE1).trans hE2).trans hEd
      have hij : ip ≠ jp := fun e => by
        obtain ⟨o, h⟩ := hR1.hasO (.inl rfl)
        rw [e, hjp] at h; cases h
      have hap : Apart ip nilAV nilAV jp nilAV nilAV := by
        rintro i (h | h | h) (k | k | k)
        · exact hij (h.symm.trans k)
        all_goals first | exact absurd h (nilAV_at i) | exact absurd k (nilAV_at i)
      have hTw : Two σ ip jp V W T U ρ0 := ⟨_, _, nilAV, nilAV, _, _, nilAV, nilAV, pb0_ok hn hm hp, (hR1.ext hE2).ext hEd, hends, pb0_ok hm hn hp2', hR2.ext hEd, hends2,
        ⟨hE0, ext_none hE hip, fun i o _ => ⟨nilAV_at i, nilAV_at i⟩⟩, ⟨hE0, ext_none (hE.trans hE1) hjp, fun i o _ => ⟨nilAV_at i, nilAV_at i⟩⟩, hap⟩
      clear hEd hES m13 m15 i13 j13 i15 j15 f13 f15 hE2 hE1 hE hR1 hR2 hip hjp hap hij hE0 hends hends2
      refine awp_loopH (fun n' B ρ => B 2 = intsAV tl false ∧ B 9 = .rp ip 0 0 ∧ B 11 = .rp jp 0 0 ∧ B 13 = .pp (vdAV V false).cells 0 ∧ B 15 = .pp (vdAV W false).cells 0 ∧
        ∃ i T1 U1 : Nat, B 17 = .raw (.int .i64 i) ∧ i ≤ 200 ∧ n' = 200 - i ∧ T1 ≤ 23184 ∧ U1 ≤ 23184 ∧ Two σ ip jp V W T1 U1 ρ) 200 ?_ ?_
      · exact ⟨b2, b9, b11, b13, b15, 0, T, U, b17, by omega, by omega, hT, hU, hTw⟩
      clear b2 b9 b11 b13 b15 b17 hTw hT hU
      rintro n' B ρ ⟨b2, b9, b11, b13, b15, i, T1, U1, b17, hi, rfl, hT, hU, hTw⟩ I1 hI1
      by_cases hlt : i < tl.length ∧ i < 200
      · obtain ⟨hlt, hi2⟩ := hlt
        have hi2' : ((i : Int) < 200) = True := eq_true (by omega)
        have hx : tl[i]? = some tl[i] := List.getElem?_eq_getElem hlt
        obtain ⟨d, hd⟩ : ∃ d, tl[i] = d := ⟨_, rfl⟩
        have wi : IntKind.i64.wrap ((i : Int) + 1) = ((i + 1 : Nat) : Int) := by rw [wrap64 (by omega) (by omega)]; omega
        obtain ⟨z, hz⟩ : ∃ z, ((d % 2 ^ IntKind.i64.bits).toNat &&& ((63 : Int) % 2 ^ IntKind.i64.bits).toNat) = z := ⟨_, rfl⟩
        have hz2 : z ≤ 63 := by rw [← hz]; exact Nat.le_trans Nat.and_le_right (by decide)
        have wz : IntKind.i64.wrap (z : Int) = z := wrap64 (by omega) (by omega)
        (try ((first | with_reducible refine dops_go ?_ | with_reducible refine OKv_go ?_ | with_reducible refine OKr_go ?_); simp [-cellOK, b2, b9, b11, b17, intsAV, iAV, hlt, hi2, hi2', hx, hd])); repeat' (first | refine awp_seq ?_ | refine awp_block ?_ | (refine awp_skip ?_; try simp) | (refine awp_exit ?_; try simp) | (refine awp_ret ?_; try simp) | ((first | refine awp_reg ?_ | refine awp_drawT (fun _ => false) mixed (by decide +kernel) ?_ | refine awp_drawT isCallO mixed (by decide +kernel) ?_); simp [-cellOK, b2, b9, b11, b17, intsAV, iAV, hlt, hi2, hi2', hx, hd]) | (refine guarded_split ?_ ?_ <;> (intro hg; simp only [hg]; simp [-cellOK, b2, b9, b11, b17, intsAV, iAV, hlt, hi2, hi2', hx, hd])) | (apply awp_cond_t; focus (simp [-cellOK, b2, b9, b11, b17, intsAV, iAV, hlt, hi2, hi2', hx, hd]; done)) | (apply awp_cond_f; focus (simp [-cellOK, b2, b9, b11, b17, intsAV, iAV, hlt, hi2, hi2', hx, hd]; done)) | (refine awp_cond ?_; simp [-cellOK, b2, b9, b11, b17, intsAV, iAV, hlt, hi2, hi2', hx, hd]; refine ⟨?_, ?_⟩ <;> intro hc) | fail)
        focus
          rw [hz, wz]
          refine hTw.step hsz (by omega) fun a e τ T' k1 k2 k3 => ?_
        rotate_left
        focus
          rw [hz, wz]
          refine hTw.symm.step hsz2 (by omega) fun a e τ T' k1 k2 k3 => ?_
          have k3 := k3.symm
        all_goals
          (try ((first | with_reducible refine dops_go ?_ | with_reducible refine OKv_go ?_ | with_reducible refine OKr_go ?_); simp [-cellOK, b17, wi])); repeat' (first | refine awp_seq ?_ | refine awp_block ?_ | (refine awp_skip ?_; try simp) | (refine awp_exit ?_; try simp) | (refine awp_ret ?_; try simp) | ((first | refine awp_reg ?_ | refine awp_drawT (fun _ => false) mixed (by decide +kernel) ?_ | refine awp_drawT isCallO mixed (by decide +kernel) ?_); simp [-cellOK, b17, wi]) | (refine guarded_split ?_ ?_ <;> (intro hg; simp only [hg]; simp [-cellOK, b17, wi])) | (apply awp_cond_t; focus (simp [-cellOK, b17, wi]; done)) | (apply awp_cond_f; focus (simp [-cellOK, b17, wi]; done)) | (refine awp_cond ?_; simp [-cellOK, b17, wi]; refine ⟨?_, ?_⟩ <;> intro hc) | fail)
          exact hI1 (200 - (i + 1)) _ _ (by omega) ⟨by simp [b2, intsAV], by simp [b9], by simp [b11], by simp [b13], by simp [b15], i + 1, _, _, by simp, by omega, rfl, by omega, by omega, k3⟩
      · by_cases h1 : i < tl.length
        focus
          have hi2 : ¬ i < 200 := fun h => hlt ⟨h1, h⟩
          have hi2' : ((i : Int) < 200) = False := eq_false (by omega)
          (try ((first | with_reducible refine dops_go ?_ | with_reducible refine OKv_go ?_ | with_reducible refine OKr_go ?_); simp [-cellOK, b2, b9, b11, b17, intsAV, iAV, h1, hi2, hi2'])); repeat' (first | refine awp_seq ?_ | refine awp_block ?_ | (refine awp_skip ?_; try simp) | (refine awp_exit ?_; try simp) | (refine awp_ret ?_; try simp) | ((first | refine awp_reg ?_ | refine awp_drawT (fun _ => false) mixed (by decide +kernel) ?_ | refine awp_drawT isCallO mixed (by decide +kernel) ?_); simp [-cellOK, b2, b9, b11, b17, intsAV, iAV, h1, hi2, hi2']) | (refine guarded_split ?_ ?_ <;> (intro hg; simp only [hg]; simp [-cellOK, b2, b9, b11, b17, intsAV, iAV, h1, hi2, hi2'])) | (apply awp_cond_t; focus (simp [-cellOK, b2, b9, b11, b17, intsAV, iAV, h1, hi2, hi2']; done)) | (apply awp_cond_f; focus (simp [-cellOK, b2, b9, b11, b17, intsAV, iAV, h1, hi2, hi2']; done)) | (refine awp_cond ?_; simp [-cellOK, b2, b9, b11, b17, intsAV, iAV, h1, hi2, hi2']; refine ⟨?_, ?_⟩ <;> intro hc) | fail)
        rotate_left
        focus
          (try ((first | with_reducible refine dops_go ?_ | with_reducible refine OKv_go ?_ | with_reducible refine OKr_go ?_); simp [-cellOK, b2, b9, b11, b17, intsAV, iAV, h1])); repeat' (first | refine awp_seq ?_ | refine awp_block ?_ | (refine awp_skip ?_; try simp) | (refine awp_exit ?_; try simp) | (refine awp_ret ?_; try simp) | ((first | refine awp_reg ?_ | refine awp_drawT (fun _ => false) mixed (by decide +kernel) ?_ | refine awp_drawT isCallO mixed (by decide +kernel) ?_); simp [-cellOK, b2, b9, b11, b17, intsAV, iAV, h1]) | (refine guarded_split ?_ ?_ <;> (intro hg; simp only [hg]; simp [-cellOK, b2, b9, b11, b17, intsAV, iAV, h1])) | (apply awp_cond_t; focus (simp [-cellOK, b2, b9, b11, b17, intsAV, iAV, h1]; done)) | (apply awp_cond_f; focus (simp [-cellOK, b2, b9, b11, b17, intsAV, iAV, h1]; done)) | (refine awp_cond ?_; simp [-cellOK, b2, b9, b11, b17, intsAV, iAV, h1]; refine ⟨?_, ?_⟩ <;> intro hc) | fail)
        all_goals
          clear hI1 hlt
          refine awp_loopH (fun n' B ρ => B 9 = .rp ip 0 0 ∧ B 11 = .rp jp 0 0 ∧ B 13 = .pp (vdAV V false).cells 0 ∧ B 15 = .pp (vdAV W false).cells 0 ∧
            ∃ i T1 U1 : Nat, B 18 = .raw (.int .i64 i) ∧ i ≤ 23184 ∧ n' = 23184 - i ∧ (T1 = 0 ∨ T1 + i ≤ 23184) ∧ (U1 = 0 ∨ U1 + i ≤ 23184) ∧ Two σ ip jp V W T1 U1 ρ) 23184 ?_ ?_
          · exact ⟨by simp [b9], by simp [b11], by simp [b13], by simp [b15], 0, T1, U1, by simp, by omega, by omega, by omega, by omega, hTw⟩
          clear b2 b9 b11 b13 b15 b17 hTw hT hU hi
          rintro n' B ρ ⟨b9, b11, b13, b15, i, T1, U1, b18, hi, rfl, hT, hU, hTw⟩ I1 hI1
          have hi4 : ((i : Int) < 40000) = True := eq_true (by omega)
          have wi : IntKind.i64.wrap ((i : Int) + 1) = ((i + 1 : Nat) : Int) := by rw [wrap64 (by omega) (by omega)]; omega
          by_cases hT0 : T1 = 0
          · subst hT0
            by_cases hU0 : U1 = 0
            · subst hU0
              (try ((first | with_reducible refine dops_go ?_ | with_reducible refine OKv_go ?_ | with_reducible refine OKr_go ?_); simp [-cellOK, b9, b11, b18, hi4])); repeat' (first | refine awp_seq ?_ | refine awp_block ?_ | (refine awp_skip ?_; try simp) | (refine awp_exit ?_; try simp) | (refine awp_ret ?_; try simp) | ((first | refine awp_reg ?_ | refine awp_drawT (fun _ => false) mixed (by decide +kernel) ?_ | refine awp_drawT isCallO mixed (by decide +kernel) ?_); simp [-cellOK, b9, b11, b18, hi4]) | (refine guarded_split ?_ ?_ <;> (intro hg; simp only [hg]; simp [-cellOK, b9, b11, b18, hi4])) | (apply awp_cond_t; focus (simp [-cellOK, b9, b11, b18, hi4]; done)) | (apply awp_cond_f; focus (simp [-cellOK, b9, b11, b18, hi4]; done)) | (refine awp_cond ?_; simp [-cellOK, b9, b11, b18, hi4]; refine ⟨?_, ?_⟩ <;> intro hc) | fail)
              refine hTw.done ?_
              (try ((first | with_reducible refine dops_go ?_ | with_reducible refine OKv_go ?_ | with_reducible refine OKr_go ?_); simp [-cellOK, b9, b11, b18, hi4])); repeat' (first | refine awp_seq ?_ | refine awp_block ?_ | (refine awp_skip ?_; try simp) | (refine awp_exit ?_; try simp) | (refine awp_ret ?_; try simp) | ((first | refine awp_reg ?_ | refine awp_drawT (fun _ => false) mixed (by decide +kernel) ?_ | refine awp_drawT isCallO mixed (by decide +kernel) ?_); simp [-cellOK, b9, b11, b18, hi4]) | (refine guarded_split ?_ ?_ <;> (intro hg; simp only [hg]; simp [-cellOK, b9, b11, b18, hi4])) | (apply awp_cond_t; focus (simp [-cellOK, b9, b11, b18, hi4]; done)) | (apply awp_cond_f; focus (simp [-cellOK, b9, b11, b18, hi4]; done)) | (refine awp_cond ?_; simp [-cellOK, b9, b11, b18, hi4]; refine ⟨?_, ?_⟩ <;> intro hc) | fail)
              refine hTw.symm.done ?_
              (try ((first | with_reducible refine dops_go ?_ | with_reducible refine OKv_go ?_ | with_reducible refine OKr_go ?_); simp [-cellOK, b9, b11, b18, hi4])); repeat' (first | refine awp_seq ?_ | refine awp_block ?_ | (refine awp_skip ?_; try simp) | (refine awp_exit ?_; try simp) | (refine awp_ret ?_; try simp) | ((first | refine awp_reg ?_ | refine awp_drawT (fun _ => false) mixed (by decide +kernel) ?_ | refine awp_drawT isCallO mixed (by decide +kernel) ?_); simp [-cellOK, b9, b11, b18, hi4]) | (refine guarded_split ?_ ?_ <;> (intro hg; simp only [hg]; simp [-cellOK, b9, b11, b18, hi4])) | (apply awp_cond_t; focus (simp [-cellOK, b9, b11, b18, hi4]; done)) | (apply awp_cond_f; focus (simp [-cellOK, b9, b11, b18, hi4]; done)) | (refine awp_cond ?_; simp [-cellOK, b9, b11, b18, hi4]; refine ⟨?_, ?_⟩ <;> intro hc) | fail)
              refine hTw.verdict hsz fun ρ1 hE1 => ?_
              have hTw1 := hTw.ext hE1
              (try ((first | with_reducible refine dops_go ?_ | with_reducible refine OKv_go ?_ | with_reducible refine OKr_go ?_); simp [-cellOK, b9, b11, vd0_fold, vd0_cells, vd_cells, vd_fold, vd0_put, new_m, set_m, new_nx'])); repeat' (first | refine awp_seq ?_ | refine awp_block ?_ | (refine awp_skip ?_; try simp) | (refine awp_exit ?_; try simp) | (refine awp_ret ?_; try simp) | ((first | refine awp_reg ?_ | refine awp_drawT (fun _ => false) mixed (by decide +kernel) ?_ | refine awp_drawT isCallO mixed (by decide +kernel) ?_); simp [-cellOK, b9, b11, vd0_fold, vd0_cells, vd_cells, vd_fold, vd0_put, new_m, set_m, new_nx']) | (refine guarded_split ?_ ?_ <;> (intro hg; simp only [hg]; simp [-cellOK, b9, b11, vd0_fold, vd0_cells, vd_cells, vd_fold, vd0_put, new_m, set_m, new_nx'])) | (apply awp_cond_t; focus (simp [-cellOK, b9, b11, vd0_fold, vd0_cells, vd_cells, vd_fold, vd0_put, new_m, set_m, new_nx']; done)) | (apply awp_cond_f; focus (simp [-cellOK, b9, b11, vd0_fold, vd0_cells, vd_cells, vd_fold, vd0_put, new_m, set_m, new_nx']; done)) | (refine awp_cond ?_; simp [-cellOK, b9, b11, vd0_fold, vd0_cells, vd_cells, vd_fold, vd0_put, new_m, set_m, new_nx']; refine ⟨?_, ?_⟩ <;> intro hc) | fail)
              refine (hTw1.ext (by repeat (first | assumption | exact Ext.refl _ | refine ext_new' ?_ | refine Ext.setF ?_ (by first | assumption | (simp [new_nx', St.set, fresh_none]; done) | exact ext_fresh (by assumption))))).symm.verdict hsz2 fun ρ2 hE2 => ?_
              have m19 : ρ2.m ⟨19, ρ1.nx 19, 7⟩ = some (.buf [vdAV V false]) := hE2.1 ⟨19, ρ1.nx 19, 7⟩ _ (by simp [set_m, new_m])
              have hEσ2 : Ext σ ρ2 := Ext.trans (Ext.trans hTw1.base (by repeat (first | assumption | exact Ext.refl _ | refine ext_new' ?_ | refine Ext.setF ?_ (by first | assumption | (simp [new_nx', St.set, fresh_none]; done) | exact ext_fresh (by assumption))))) hE2
              clear hE2 hE1 hTw hTw1 hI1
              have hlk := hn.links
              have hlk2 := hm.links
              have hsame1 := vdSame_calls V V false false (by omega) (by omega)
              have hsame2 := vdSame_calls W W false false (by omega) (by omega)
              rw [decide_eq_true rfl] at hsame1 hsame2
              (try ((first | with_reducible refine dops_go ?_ | with_reducible refine OKv_go ?_ | with_reducible refine OKr_go ?_); simp [-cellOK, b13, b15, m19, vd0_fold, vd0_cells, vd_cells, vd_fold, vd0_put, new_m, set_m, new_nx'])); repeat' (first | refine awp_seq ?_ | refine awp_block ?_ | (refine awp_skip ?_; try simp) | (refine awp_exit ?_; try simp) | (refine awp_ret ?_; try simp) | (refine retP_same (by simp) ?_; simp) | (refine retP_no (by simp) (by simp [noIds]) (by repeat (first | assumption | exact Ext.refl _ | refine ext_new' ?_ | refine Ext.setF ?_ (by first | assumption | (simp [new_nx', St.set, fresh_none]; done) | exact ext_fresh (by assumption)))) ?_; simp [-cellOK, b13, b15, m19, vd0_fold, vd0_cells, vd_cells, vd_fold, vd0_put, new_m, set_m, new_nx', new_m, set_m, new_nx']) | ((first | refine awp_reg ?_ | refine awp_drawT (fun _ => false) mixed (by decide +kernel) ?_ | refine awp_drawT isCallO mixed (by decide +kernel) ?_ | refine PCalls.use (hal) ?_ | refine Or.inl ⟨_, Or.inl (hal), ?_⟩ | refine PCalls.use (hsame1) ?_ | refine Or.inl ⟨_, Or.inl (hsame1), ?_⟩ | refine PCalls.use (hsame2) ?_ | refine Or.inl ⟨_, Or.inl (hsame2), ?_⟩); simp [-cellOK, b13, b15, m19, vd0_fold, vd0_cells, vd_cells, vd_fold, vd0_put, new_m, set_m, new_nx']) | (refine guarded_split ?_ ?_ <;> (intro hg; simp only [hg]; simp [-cellOK, b13, b15, m19, vd0_fold, vd0_cells, vd_cells, vd_fold, vd0_put, new_m, set_m, new_nx'])) | (apply awp_cond_t; focus (simp [-cellOK, b13, b15, m19, vd0_fold, vd0_cells, vd_cells, vd_fold, vd0_put, new_m, set_m, new_nx']; done)) | (apply awp_cond_f; focus (simp [-cellOK, b13, b15, m19, vd0_fold, vd0_cells, vd_cells, vd_fold, vd0_put, new_m, set_m, new_nx']; done)) | (refine awp_cond ?_; simp [-cellOK, b13, b15, m19, vd0_fold, vd0_cells, vd_cells, vd_fold, vd0_put, new_m, set_m, new_nx']; refine ⟨?_, ?_⟩ <;> intro hc) | fail)
            · (try ((first | with_reducible refine dops_go ?_ | with_reducible refine OKv_go ?_ | with_reducible refine OKr_go ?_); simp [-cellOK, b9, b11, b18, hi4])); repeat' (first | refine awp_seq ?_ | refine awp_block ?_ | (refine awp_skip ?_; try simp) | (refine awp_exit ?_; try simp) | (refine awp_ret ?_; try simp) | ((first | refine awp_reg ?_ | refine awp_drawT (fun _ => false) mixed (by decide +kernel) ?_ | refine awp_drawT isCallO mixed (by decide +kernel) ?_); simp [-cellOK, b9, b11, b18, hi4]) | (refine guarded_split ?_ ?_ <;> (intro hg; simp only [hg]; simp [-cellOK, b9, b11, b18, hi4])) | (apply awp_cond_t; focus (simp [-cellOK, b9, b11, b18, hi4]; done)) | (apply awp_cond_f; focus (simp [-cellOK, b9, b11, b18, hi4]; done)) | (refine awp_cond ?_; simp [-cellOK, b9, b11, b18, hi4]; refine ⟨?_, ?_⟩ <;> intro hc) | fail)
              refine hTw.done ?_
              (try ((first | with_reducible refine dops_go ?_ | with_reducible refine OKv_go ?_ | with_reducible refine OKr_go ?_); simp [-cellOK, b9, b11, b18, hi4])); repeat' (first | refine awp_seq ?_ | refine awp_block ?_ | (refine awp_skip ?_; try simp) | (refine awp_exit ?_; try simp) | (refine awp_ret ?_; try simp) | ((first | refine awp_reg ?_ | refine awp_drawT (fun _ => false) mixed (by decide +kernel) ?_ | refine awp_drawT isCallO mixed (by decide +kernel) ?_); simp [-cellOK, b9, b11, b18, hi4]) | (refine guarded_split ?_ ?_ <;> (intro hg; simp only [hg]; simp [-cellOK, b9, b11, b18, hi4])) | (apply awp_cond_t; focus (simp [-cellOK, b9, b11, b18, hi4]; done)) | (apply awp_cond_f; focus (simp [-cellOK, b9, b11, b18, hi4]; done)) | (refine awp_cond ?_; simp [-cellOK, b9, b11, b18, hi4]; refine ⟨?_, ?_⟩ <;> intro hc) | fail)
              refine hTw.symm.done ?_
              (try ((first | with_reducible refine dops_go ?_ | with_reducible refine OKv_go ?_ | with_reducible refine OKr_go ?_); simp [-cellOK, b9, b11, b18, hi4, hU0])); repeat' (first | refine awp_seq ?_ | refine awp_block ?_ | (refine awp_skip ?_; try simp) | (refine awp_exit ?_; try simp) | (refine awp_ret ?_; try simp) | ((first | refine awp_reg ?_ | refine awp_drawT (fun _ => false) mixed (by decide +kernel) ?_ | refine awp_drawT isCallO mixed (by decide +kernel) ?_); simp [-cellOK, b9, b11, b18, hi4, hU0]) | (refine guarded_split ?_ ?_ <;> (intro hg; simp only [hg]; simp [-cellOK, b9, b11, b18, hi4, hU0])) | (apply awp_cond_t; focus (simp [-cellOK, b9, b11, b18, hi4, hU0]; done)) | (apply awp_cond_f; focus (simp [-cellOK, b9, b11, b18, hi4, hU0]; done)) | (refine awp_cond ?_; simp [-cellOK, b9, b11, b18, hi4, hU0]; refine ⟨?_, ?_⟩ <;> intro hc) | fail)
              refine hTw.step hsz (f := 9) (by decide) fun a e τ T' k1 k2 k3 => ?_
              have k2 := k2 (by decide)
              (try ((first | with_reducible refine dops_go ?_ | with_reducible refine OKv_go ?_ | with_reducible refine OKr_go ?_); simp [-cellOK, b9, b11, b18])); repeat' (first | refine awp_seq ?_ | refine awp_block ?_ | (refine awp_skip ?_; try simp) | (refine awp_exit ?_; try simp) | (refine awp_ret ?_; try simp) | ((first | refine awp_reg ?_ | refine awp_drawT (fun _ => false) mixed (by decide +kernel) ?_ | refine awp_drawT isCallO mixed (by decide +kernel) ?_); simp [-cellOK, b9, b11, b18]) | (refine guarded_split ?_ ?_ <;> (intro hg; simp only [hg]; simp [-cellOK, b9, b11, b18])) | (apply awp_cond_t; focus (simp [-cellOK, b9, b11, b18]; done)) | (apply awp_cond_f; focus (simp [-cellOK, b9, b11, b18]; done)) | (refine awp_cond ?_; simp [-cellOK, b9, b11, b18]; refine ⟨?_, ?_⟩ <;> intro hc) | fail)
              refine k3.symm.step hsz2 (f := 5) (by decide) fun a' e' τ' U' l1 l2 l3 => ?_
              have l2 := l2 (by decide)
              (try ((first | with_reducible refine dops_go ?_ | with_reducible refine OKv_go ?_ | with_reducible refine OKr_go ?_); simp [-cellOK, b9, b11, b18, wi])); repeat' (first | refine awp_seq ?_ | refine awp_block ?_ | (refine awp_skip ?_; try simp) | (refine awp_exit ?_; try simp) | (refine awp_ret ?_; try simp) | ((first | refine awp_reg ?_ | refine awp_drawT (fun _ => false) mixed (by decide +kernel) ?_ | refine awp_drawT isCallO mixed (by decide +kernel) ?_); simp [-cellOK, b9, b11, b18, wi]) | (refine guarded_split ?_ ?_ <;> (intro hg; simp only [hg]; simp [-cellOK, b9, b11, b18, wi])) | (apply awp_cond_t; focus (simp [-cellOK, b9, b11, b18, wi]; done)) | (apply awp_cond_f; focus (simp [-cellOK, b9, b11, b18, wi]; done)) | (refine awp_cond ?_; simp [-cellOK, b9, b11, b18, wi]; refine ⟨?_, ?_⟩ <;> intro hc) | fail)
              exact hI1 (23184 - (i + 1)) _ _ (by omega) ⟨by simp [b9], by simp [b11], by simp [b13], by simp [b15], i + 1, T', U', by simp, by omega, rfl, by omega, by omega, l3.symm⟩
          · (try ((first | with_reducible refine dops_go ?_ | with_reducible refine OKv_go ?_ | with_reducible refine OKr_go ?_); simp [-cellOK, b9, b11, b18, hi4])); repeat' (first | refine awp_seq ?_ | refine awp_block ?_ | (refine awp_skip ?_; try simp) | (refine awp_exit ?_; try simp) | (refine awp_ret ?_; try simp) | ((first | refine awp_reg ?_ | refine awp_drawT (fun _ => false) mixed (by decide +kernel) ?_ | refine awp_drawT isCallO mixed (by decide +kernel) ?_); simp [-cellOK, b9, b11, b18, hi4]) | (refine guarded_split ?_ ?_ <;> (intro hg; simp only [hg]; simp [-cellOK, b9, b11, b18, hi4])) | (apply awp_cond_t; focus (simp [-cellOK, b9, b11, b18, hi4]; done)) | (apply awp_cond_f; focus (simp [-cellOK, b9, b11, b18, hi4]; done)) | (refine awp_cond ?_; simp [-cellOK, b9, b11, b18, hi4]; refine ⟨?_, ?_⟩ <;> intro hc) | fail)
            refine hTw.done ?_
            (try ((first | with_reducible refine dops_go ?_ | with_reducible refine OKv_go ?_ | with_reducible refine OKr_go ?_); simp [-cellOK, b9, b11, b18, hi4, hT0])); repeat' (first | refine awp_seq ?_ | refine awp_block ?_ | (refine awp_skip ?_; try simp) | (refine awp_exit ?_; try simp) | (refine awp_ret ?_; try simp) | ((first | refine awp_reg ?_ | refine awp_drawT (fun _ => false) mixed (by decide +kernel) ?_ | refine awp_drawT isCallO mixed (by decide +kernel) ?_); simp [-cellOK, b9, b11, b18, hi4, hT0]) | (refine guarded_split ?_ ?_ <;> (intro hg; simp only [hg]; simp [-cellOK, b9, b11, b18, hi4, hT0])) | (apply awp_cond_t; focus (simp [-cellOK, b9, b11, b18, hi4, hT0]; done)) | (apply awp_cond_f; focus (simp [-cellOK, b9, b11, b18, hi4, hT0]; done)) | (refine awp_cond ?_; simp [-cellOK, b9, b11, b18, hi4, hT0]; refine ⟨?_, ?_⟩ <;> intro hc) | fail)
            refine hTw.step hsz (f := 9) (by decide) fun a e τ T' k1 k2 k3 => ?_
            have k2 := k2 (by decide)
            (try ((first | with_reducible refine dops_go ?_ | with_reducible refine OKv_go ?_ | with_reducible refine OKr_go ?_); simp [-cellOK, b9, b11, b18])); repeat' (first | refine awp_seq ?_ | refine awp_block ?_ | (refine awp_skip ?_; try simp) | (refine awp_exit ?_; try simp) | (refine awp_ret ?_; try simp) | ((first | refine awp_reg ?_ | refine awp_drawT (fun _ => false) mixed (by decide +kernel) ?_ | refine awp_drawT isCallO mixed (by decide +kernel) ?_); simp [-cellOK, b9, b11, b18]) | (refine guarded_split ?_ ?_ <;> (intro hg; simp only [hg]; simp [-cellOK, b9, b11, b18])) | (apply awp_cond_t; focus (simp [-cellOK, b9, b11, b18]; done)) | (apply awp_cond_f; focus (simp [-cellOK, b9, b11, b18]; done)) | (refine awp_cond ?_; simp [-cellOK, b9, b11, b18]; refine ⟨?_, ?_⟩ <;> intro hc) | fail)
            refine k3.symm.step hsz2 (f := 5) (by decide) fun a' e' τ' U' l1 l2 l3 => ?_
            have l2 := l2 (by decide)
            (try ((first | with_reducible refine dops_go ?_ | with_reducible refine OKv_go ?_ | with_reducible refine OKr_go ?_); simp [-cellOK, b9, b11, b18, wi])); repeat' (first | refine awp_seq ?_ | refine awp_block ?_ | (refine awp_skip ?_; try simp) | (refine awp_exit ?_; try simp) | (refine awp_ret ?_; try simp) | ((first | refine awp_reg ?_ | refine awp_drawT (fun _ => false) mixed (by decide +kernel) ?_ | refine awp_drawT isCallO mixed (by decide +kernel) ?_); simp [-cellOK, b9, b11, b18, wi]) | (refine guarded_split ?_ ?_ <;> (intro hg; simp only [hg]; simp [-cellOK, b9, b11, b18, wi])) | (apply awp_cond_t; focus (simp [-cellOK, b9, b11, b18, wi]; done)) | (apply awp_cond_f; focus (simp [-cellOK, b9, b11, b18, wi]; done)) | (refine awp_cond ?_; simp [-cellOK, b9, b11, b18, wi]; refine ⟨?_, ?_⟩ <;> intro hc) | fail)
            exact hI1 (23184 - (i + 1)) _ _ (by omega) ⟨by simp [b9], by simp [b11], by simp [b13], by simp [b15], i + 1, T', U', by simp, by omega, rfl, by omega, by omega, l3.symm⟩
end Go.Proofs.Ytanimmdlgmkmkaa.Av

