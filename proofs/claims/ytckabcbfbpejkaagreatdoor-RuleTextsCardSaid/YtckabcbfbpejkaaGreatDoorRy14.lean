/- Rules: the laws RuleTexts, RuleMatches. Part 14 of 22: AvZG, AvZH, AvZI, AvZJ, AvZK, AvZL, AvZM, AvZN, AvZO, AvZP, AvZQ, AvZR, AvZS, AvL20. -/
import Derived.Test.YtckabcbfbpejkaaGreatDoorRy8
import Derived.Test.YtckabcbfbpejkaaGreatDoorRy9
import Derived.Test.YtckabcbfbpejkaaGreatDoorRy11
import Derived.Test.YtckabcbfbpejkaaGreatDoorRy12
namespace Go.Proofs.YtckabcbfbpejkaaGreatDoor.Av.Zn
open Go
set_option linter.unusedSimpArgs false
set_option linter.unusedVariables false
set_option maxRecDepth 100000
set_option maxHeartbeats 4000000
set_option pp.maxSteps 150
end Go.Proofs.YtckabcbfbpejkaaGreatDoor.Av.Zn
namespace Go.Proofs.YtckabcbfbpejkaaGreatDoor.Av.Zn
open Go
set_option linter.unusedSimpArgs false
set_option linter.unusedVariables false
set_option maxRecDepth 100000
set_option maxHeartbeats 4000000
set_option pp.maxSteps 1500
end Go.Proofs.YtckabcbfbpejkaaGreatDoor.Av.Zn
namespace Go.Proofs.YtckabcbfbpejkaaGreatDoor.Av.Zn
open Go
set_option linter.unusedSimpArgs false
set_option linter.unusedVariables false
set_option maxRecDepth 100000
set_option maxHeartbeats 4000000
set_option pp.maxSteps 1500
def brk (a l m i : Nat) (st : UInt64 × Array Rg) : Nat → UInt64 × Array Rg
  | 0 => st
  | k + 1 => Sort.breakStep a l m (brk a l m i st k) (i + k)
end Go.Proofs.YtckabcbfbpejkaaGreatDoor.Av.Zn
namespace Go.Proofs.YtckabcbfbpejkaaGreatDoor.Av.Zn
open Go
set_option linter.unusedSimpArgs false
set_option linter.unusedVariables false
set_option maxRecDepth 100000
set_option maxHeartbeats 8000000
set_option pp.maxSteps 600
structure Fr (o : Id) (x : Ob) (σ τ : St) : Prop where
  m : τ.m = (σ.set o x).m
  nx : ∀ s, σ.nx s ≤ τ.nx s
theorem Fr.set (o : Id) (x : Ob) (σ : St) : Fr o x σ (σ.set o x) := ⟨rfl, fun _ => Nat.le_refl _⟩
theorem Fr.buf {o : Id} {x y : Ob} {σ τ : St} (h : Fr o x σ τ) (hy : σ.m o = some y) : τ.m o = some x := by rw [h.m, zno, hy]; rfl
def zsh (lt : Rg → Rg → Bool) (o : Id) (d : Array Rg) (a b : Nat) (σ : St) (r : AV) (τ : St) : Prop :=
  r = .tup [] ∧ ∃ d', Sort.PermIn a b d d' ∧ Sort.SortedIn lt a b d' ∧ Fr o (zdb d') σ τ
def PdI (o : Id) (n a b lim : Nat) (g : FuncId) (wb wp : Bool) (A : zn) : Prop :=
  A 0 = .rs o 0 n ∧ A 1 = .raw (.int .i64 a) ∧ A 2 = .raw (.int .i64 b) ∧ A 3 = .raw (.int .i64 lim) ∧ A 4 = .fn (.func g) [] [] ∧ A 10 = .raw (.bool wb) ∧ A 11 = .raw (.bool wp)
structure Rd (lt : Rg → Rg → Bool) (o : Id) (d : Array Rg) (a b : Nat) (σ : St) (a' b' : Nat) (e : Array Rg) (τ : St) : Prop where
  fr : Fr o (zdb e) σ τ
  size : e.size = d.size
  below : Sort.Below lt a' b' e
  glue : ∀ R, Sort.PermIn a' b' e R → Sort.SortedIn lt a' b' R → Sort.PermIn a b d R ∧ Sort.SortedIn lt a b R
end Go.Proofs.YtckabcbfbpejkaaGreatDoor.Av.Zn
namespace Go.Proofs.YtckabcbfbpejkaaGreatDoor.Av.Zn
open Go
set_option linter.unusedSimpArgs false
set_option linter.unusedVariables false
set_option maxRecDepth 100000
set_option maxHeartbeats 4000000
set_option pp.maxSteps 300
def Coll (i : Id) (z : List Rg) (σ : St) (r : AV) (τ : St) : Prop := But i σ τ ∧ ((z = [] ∧ r = .sl 0 [] true) ∨ (z ≠ [] ∧ ∃ j, r = .rs j 0 z.length ∧ j.sz = 2 ∧ τ.m j = some (.buf (z.map zg4)) ∧ σ.m j = none))
def zrN (c : Rg → Rg → Int) (z : List Rg) : Prop := z.Pairwise fun x y => ¬ c y x < 0
end Go.Proofs.YtckabcbfbpejkaaGreatDoor.Av.Zn
namespace Go.Proofs.YtckabcbfbpejkaaGreatDoor.Av.Zn
open Go
set_option linter.unusedSimpArgs false
set_option linter.unusedVariables false
set_option maxRecDepth 100000
set_option maxHeartbeats 4000000
set_option pp.maxSteps 300
def idxOf (p : Rg → Bool) (z : List Rg) : Int := if z.any p then (z.findIdx p : Nat) else -1
end Go.Proofs.YtckabcbfbpejkaaGreatDoor.Av.Zn
namespace Go.Proofs.YtckabcbfbpejkaaGreatDoor.Av.Zn
open Go
set_option linter.unusedSimpArgs false
set_option linter.unusedVariables false
set_option maxRecDepth 100000
set_option maxHeartbeats 4000000
set_option pp.maxSteps 300
end Go.Proofs.YtckabcbfbpejkaaGreatDoor.Av.Zn
namespace Go.Proofs.YtckabcbfbpejkaaGreatDoor.Av.Zn
open Go
set_option linter.unusedSimpArgs false
set_option linter.unusedVariables false
set_option maxRecDepth 100000
set_option maxHeartbeats 4000000
set_option pp.maxSteps 300
end Go.Proofs.YtckabcbfbpejkaaGreatDoor.Av.Zn
namespace Go.Proofs.YtckabcbfbpejkaaGreatDoor.Av.Zn
open Go
set_option linter.unusedSimpArgs false
set_option linter.unusedVariables false
set_option maxRecDepth 100000
set_option maxHeartbeats 4000000
set_option pp.maxSteps 300
end Go.Proofs.YtckabcbfbpejkaaGreatDoor.Av.Zn
namespace Go.Proofs.YtckabcbfbpejkaaGreatDoor.Av.Zn
open Go
set_option linter.unusedSimpArgs false
set_option linter.unusedVariables false
set_option maxRecDepth 100000
set_option maxHeartbeats 4000000
set_option pp.maxSteps 300
def allZ : List Rg := [⟨0, 4294967295⟩]
def zrO : List (List Rg × Bool) → List Rg
  | [] => []
  | p :: l => p.1 ++ zrO l
def pAV (p : List Rg × Bool) : AV := zAV p.1 p.2
end Go.Proofs.YtckabcbfbpejkaaGreatDoor.Av.Zn
namespace Go.Proofs.YtckabcbfbpejkaaGreatDoor.Av.Zn
open Go
set_option linter.unusedSimpArgs false
set_option linter.unusedVariables false
set_option maxRecDepth 100000
set_option maxHeartbeats 4000000
set_option pp.maxSteps 300
def iAV (n : Int) : AV := .raw (.int .i64 n)
def inAV (l : List Int) (b : Bool) : AV := .sl 1 (l.map iAV) b
def zlj (l : List Rg) : List Int := 0 :: l.flatMap fun r => [r.lo, r.hi + 1]
def ziu (all : List Int) (last : Int) : Int := all.foldl (fun next a => if last < a ∧ a < next then a else next) 4294967296
def zkh (all : List Int) : Nat → Int → List Int
  | 0, _ => []
  | n + 1, last => if ziu all last ≤ 4294967295 then ziu all last :: zkh all n (ziu all last) else []
def zqy (all : List Int) (last : Int) : Nat := (all.filter fun a => decide (last < a) && decide (a < 4294967296)).length
def zs0 (l : List Rg) : List Int := zkh (zlj l) (zqy (zlj l) (-1)) (-1)
end Go.Proofs.YtckabcbfbpejkaaGreatDoor.Av.Zn
namespace Go.Proofs.YtckabcbfbpejkaaGreatDoor.Av.Zn
open Go
set_option linter.unusedSimpArgs false
set_option linter.unusedVariables false
set_option maxRecDepth 100000
set_option maxHeartbeats 4000000
set_option pp.maxSteps 300
end Go.Proofs.YtckabcbfbpejkaaGreatDoor.Av.Zn
namespace Go.Proofs.YtckabcbfbpejkaaGreatDoor.Av.Zn
open Go
set_option linter.unusedSimpArgs false
set_option linter.unusedVariables false
set_option maxRecDepth 100000
set_option maxHeartbeats 4000000
set_option pp.maxSteps 300
def zqz (C : List Int) (i : Nat) : Int := match C[i + 1]? with | some x => x - 1 | none => 4294967295
def zqA (z : List Rg) (f t : Int) : List Rg :=
  match z[z.length - 1]? with
  | some r => if r.hi + 1 = f then z.set (z.length - 1) ⟨r.lo, t⟩ else z ++ [⟨f, t⟩]
  | none => z ++ [⟨f, t⟩]
def zl1 (p : Int → Bool) (C : List Int) : Nat → List Rg
  | 0 => []
  | i + 1 => match C[i]? with
    | some c => if p c then zqA (zl1 p C i) c (zqz C i) else zl1 p C i
    | none => zl1 p C i
def howP (how : Int) (p q : Bool) : Bool := (how == 1 && p && q) || (how == 2 && (p || q)) || (how == 3 && p && !q)
end Go.Proofs.YtckabcbfbpejkaaGreatDoor.Av.Zn
namespace Go.Proofs.YtckabcbfbpejkaaGreatDoor.Av
open Go
set_option linter.unusedSimpArgs false
set_option linter.unusedVariables false
set_option maxRecDepth 100000
set_option maxHeartbeats 4000000
set_option pp.maxSteps 600
theorem znV (a b : Ru) : zaq Tryz.prog 4 27 (zc a) (zc b) = some (decide (a = b)) := by
  have : decide (a = b) = (decide (a.id = b.id) && (decide (a.dev = b.dev) && (decide (a.prio = b.prio) && (decide (a.kind = b.kind) && (decide (a.r.lo = b.r.lo) && decide (a.r.hi = b.r.hi) && decide (a.port = b.port)))))) := by
    rcases a with ⟨a1, a2, a3, a4, ⟨a5, a6⟩, a7⟩; rcases b with ⟨b1, b2, b3, b4, ⟨b5, b6⟩, b7⟩
    rw [Bool.eq_iff_iff]; simp [and_assoc]
  rw [this]
  simp [zaq, zcp, zc, zbb, zeC]
theorem zeM (a b : Ru) : zaB Tryz.prog .neq 27 (zc a) (zc b) = some (.raw (.bool (!decide (a = b)))) := by
  have e1 : ∀ x y : Ru, zaB Tryz.prog .neq 27 (zc x) (zc y) = if Tryz.prog.eqGuardType Tryz.prog.depth 27 = false then (zaq Tryz.prog 4 27 (zc x) (zc y)).bind fun b => (zbc .neq b).map .raw else none := fun x y => rfl
  rw [e1, if_pos znS, znV]
  rfl
theorem ziv (x y : List Ru) (fx fy : Bool) (hl : x.length < 2 ^ 60) (hl2 : y.length < 2 ^ 60) : PCalls Tryz.prog 16 [za x fx, za y fy] (.raw (.bool (decide (x = y)))) := by
  refine zD Tryz.func16 rfl (N := 26) rfl rfl (by simp) (by simp [noIds]) fun σ => ?_
  by_cases hlen : x.length = y.length
  · have hli : (x.length : Int) = (y.length : Int) := by omega
    have FF := fI za.eq_1 (fI @hlen @hli); refine goB ?_; clear FF
    refine z1 (fun n A τ => τ = σ ∧ A 0 = za x fx ∧ A 1 = za y fy ∧ ∃ i : Nat, A 5 = .raw (.int .i64 i) ∧ i ≤ y.length ∧ n = y.length - i ∧ x.take i = y.take i) y.length ?_ ?_
    · exact ⟨rfl, by simp [za], by simp [za], 0, by simp, by omega, by omega, by simp⟩
    rintro n A τ ⟨rfl, a0, a1, i, a5, hi, rfl, htk⟩ I1 hI1
    by_cases hlt : i < y.length
    · have hlx : i < x.length := by omega
      have hx : x[i]? = some x[i] := List.getElem?_eq_getElem hlx
      have hy : y[i]? = some y[i] := List.getElem?_eq_getElem hlt
      have w1 : IntKind.i64.wrap ((i : Int) + 1) = ((i + 1 : Nat) : Int) := by rw [zA (by omega) (by omega)]; omega
      by_cases he : x[i] = y[i]
      · skip
        (try ((first | with_reducible refine zy ?_ | with_reducible refine zG ?_ | with_reducible refine zH ?_); simp [za, a0, a1, a5, hlt, hlx, hlen, hx, hy, zg, zp, zeM, zas, -zaB, he, w1])); repeat' (first | ((first | refine zt ?_ | refine zw ?_ | refine dN (by decide +kernel) ?_ | (refine zh ?_ ?_ <;> (intro hg; simp only [hg])) | fail) <;> simp [za, a0, a1, a5, hlt, hlx, hlen, hx, hy, zg, zp, zeM, zas, -zaB, he, w1]) | refine zv ?_ | refine zr ?_ | (refine zO ?_; simp only [zP]; try simp) | ((first | refine zI (by simp) ?_ | refine zF (by simp) (by simp) (by simp (maxDischargeDepth := 30) [za, a0, a1, a5, hlt, hlx, hlen, hx, hy, zg, zp, zeM, zas, -zaB, he, w1]) ?_ | fail); simp) | (refine zm (fun hc => ?_) (fun hc => ?_) <;> try simp at hc) | fail)
        all_goals exact hI1 (y.length - (i + 1)) _ _ (by omega) ⟨rfl, by simp [a0, za], by simp [a1, za], i + 1, by simp [w1], by omega, rfl, zn8 htk hx (by rw [hy, he])⟩
      · skip
        (try ((first | with_reducible refine zy ?_ | with_reducible refine zG ?_ | with_reducible refine zH ?_); simp [za, a0, a1, a5, hlt, hlx, hlen, hx, hy, zg, zp, zeM, zas, -zaB, he, w1])); repeat' (first | ((first | refine zt ?_ | refine zw ?_ | refine dN (by decide +kernel) ?_ | (refine zh ?_ ?_ <;> (intro hg; simp only [hg])) | fail) <;> simp [za, a0, a1, a5, hlt, hlx, hlen, hx, hy, zg, zp, zeM, zas, -zaB, he, w1]) | refine zv ?_ | refine zr ?_ | (refine zO ?_; simp only [zP]; try simp) | ((first | refine zI (by simp) ?_ | refine zF (by simp) (by simp) (by simp (maxDischargeDepth := 30) [za, a0, a1, a5, hlt, hlx, hlen, hx, hy, zg, zp, zeM, zas, -zaB, he, w1]) ?_ | fail); simp) | (refine zm (fun hc => ?_) (fun hc => ?_) <;> try simp at hc) | fail)
        all_goals (rintro rfl; exact he rfl)
    · have : i = y.length := by omega
      subst this
      have hxy : x = y := by
        rw [List.take_length, ← hlen, List.take_length] at htk; exact htk
      have FF := fI za.eq_1 (fI @a0 (fI @a1 (fI @a5 @hlen))); refine goB ?_; clear FF
      all_goals first | exact hxy | simp [hxy]
  · have hli : ¬ ((x.length : Int) = (y.length : Int)) := by omega
    have FF := fI za.eq_1 (fI @hlen @hli); refine goB ?_; clear FF
    all_goals (rintro rfl; exact hlen rfl)
end Go.Proofs.YtckabcbfbpejkaaGreatDoor.Av
