/- Rules: the laws RuleTexts, RuleMatches. Part 12 of 22: AvZ7, AvZ8, AvZ9, AvZA, AvZB, AvZC, AvZD, AvZE, AvZF. -/
import Derived.Test.YtckabcbfbpejkaaGreatDoorRy9
import Derived.Sort.AssemblyPlain
namespace Go.Proofs.YtckabcbfbpejkaaGreatDoor.Av.Zn
open Go
set_option linter.unusedSimpArgs false
set_option linter.unusedVariables false
set_option maxRecDepth 100000
set_option pp.maxSteps 300
instance : Inhabited Rg := ⟨⟨0, 0⟩⟩
def zdb (d : Array Rg) : Ob := .buf (d.toList.map zg4)
@[simp] theorem zsf {σ : St} {i : Id} {o o' : Ob} : (σ.set i o).set i o' = σ.set i o' := by
  apply St.ext'
  · funext j
    by_cases h : j = i
    · subst h; cases hm : σ.m j <;> simp [hm]
    · rw [zQ h, zQ h, zQ h]
  · rfl
structure Cmp (g : FuncId) (c : Rg → Rg → Int) : Prop where
  calls : ∀ x y, PCalls Tryz.prog g [zg4 x, zg4 y] (.raw (.int .i64 (c x y)))
def ltOf (c : Rg → Rg → Int) (x y : Rg) : Bool := decide (c x y < 0)
end Go.Proofs.YtckabcbfbpejkaaGreatDoor.Av.Zn
namespace Go.Proofs.YtckabcbfbpejkaaGreatDoor.Av.Zn
open Go
set_option linter.unusedSimpArgs false
set_option linter.unusedVariables false
set_option maxRecDepth 100000
set_option pp.maxSteps 300
end Go.Proofs.YtckabcbfbpejkaaGreatDoor.Av.Zn
namespace Go.Proofs.YtckabcbfbpejkaaGreatDoor.Av.Zn
open Go
set_option linter.unusedSimpArgs false
set_option linter.unusedVariables false
set_option maxRecDepth 100000
set_option pp.maxSteps 300
end Go.Proofs.YtckabcbfbpejkaaGreatDoor.Av.Zn
namespace Go.Proofs.YtckabcbfbpejkaaGreatDoor.Av.Zn
open Go
set_option linter.unusedSimpArgs false
set_option linter.unusedVariables false
set_option maxRecDepth 100000
set_option pp.maxSteps 300
end Go.Proofs.YtckabcbfbpejkaaGreatDoor.Av.Zn
namespace Go.Proofs.YtckabcbfbpejkaaGreatDoor.Av.Zn
open Go
set_option linter.unusedSimpArgs false
set_option linter.unusedVariables false
set_option maxRecDepth 100000
set_option pp.maxSteps 150
def PR (o : Id) (d : Array Rg) (σ : St) (g : FuncId) (a : Nat) (e : Array Rg) (i j : Nat) (A : zn) (τ : St) : Prop :=
  τ.m o = some (zdb e) ∧ τ.set o (zdb d) = σ ∧ A 0 = .rs o 0 d.size ∧ A 1 = .raw (.int .i64 a) ∧ A 4 = .fn (.func g) [] [] ∧ A 12 = .raw (.int .i64 i) ∧ A 13 = .raw (.int .i64 j)
end Go.Proofs.YtckabcbfbpejkaaGreatDoor.Av.Zn
namespace Go.Proofs.YtckabcbfbpejkaaGreatDoor.Av.Zn
open Go
set_option linter.unusedSimpArgs false
set_option linter.unusedVariables false
set_option maxRecDepth 100000
set_option pp.maxSteps 150
def PQ (o : Id) (d : Array Rg) (σ : St) (g : FuncId) (a : Nat) (e : Array Rg) (i j : Nat) (A : zn) (τ : St) : Prop :=
  τ.m o = some (zdb e) ∧ τ.set o (zdb d) = σ ∧ A 0 = .rs o 0 d.size ∧ A 1 = .raw (.int .i64 a) ∧ A 4 = .fn (.func g) [] [] ∧ A 11 = .raw (.int .i64 i) ∧ A 12 = .raw (.int .i64 j)
end Go.Proofs.YtckabcbfbpejkaaGreatDoor.Av.Zn
namespace Go.Proofs.YtckabcbfbpejkaaGreatDoor.Av.Zn
open Go
set_option linter.unusedSimpArgs false
set_option linter.unusedVariables false
set_option maxRecDepth 100000
set_option pp.maxSteps 150
def PI (o : Id) (d : Array Rg) (σ : St) (g : FuncId) (a b : Nat) (e : Array Rg) (i s : Nat) (A : zn) (τ : St) : Prop :=
  τ.m o = some (zdb e) ∧ τ.set o (zdb d) = σ ∧ A 0 = .rs o 0 d.size ∧ A 1 = .raw (.int .i64 a) ∧ A 2 = .raw (.int .i64 b) ∧ A 3 = .fn (.func g) [] [] ∧ A 9 = .raw (.int .i64 i) ∧ A 10 = .raw (.int .i64 ((5 : Int) - s))
def PJ (o : Id) (d : Array Rg) (σ : St) (g : FuncId) (a b : Nat) (e : Array Rg) (i : Nat) (x : Int) (A : zn) (τ : St) : Prop :=
  τ.m o = some (zdb e) ∧ τ.set o (zdb d) = σ ∧ A 0 = .rs o 0 d.size ∧ A 1 = .raw (.int .i64 a) ∧ A 2 = .raw (.int .i64 b) ∧ A 3 = .fn (.func g) [] [] ∧ A 9 = .raw (.int .i64 i) ∧ A 10 = .raw (.int .i64 x)
end Go.Proofs.YtckabcbfbpejkaaGreatDoor.Av.Zn
namespace Go.Proofs.YtckabcbfbpejkaaGreatDoor.Av.Zn
open Go
set_option linter.unusedSimpArgs false
set_option linter.unusedVariables false
set_option maxRecDepth 100000
set_option pp.maxSteps 150
end Go.Proofs.YtckabcbfbpejkaaGreatDoor.Av.Zn
namespace Go.Proofs.YtckabcbfbpejkaaGreatDoor.Av.Zn
open Go
set_option linter.unusedSimpArgs false
set_option linter.unusedVariables false
set_option maxRecDepth 100000
set_option maxHeartbeats 4000000
set_option pp.maxSteps 150
def zuz : Sort.Hint → Int
  | .unknown => 0
  | .increasing => 1
  | .decreasing => 2
end Go.Proofs.YtckabcbfbpejkaaGreatDoor.Av.Zn
