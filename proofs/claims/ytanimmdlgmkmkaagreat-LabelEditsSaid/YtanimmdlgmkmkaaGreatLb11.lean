/- Labels: LabelBack, LabelEdits. Part 11 of 17: AvZ7, AvZ8, AvZ9, AvZA, AvZB, AvZC, AvZD, AvZE, AvZF, AvZG, AvZH, AvZI, AvZJ, AvZK, AvZL, AvZM, AvZN, AvZO, AvZP, AvZQ, AvZR, AvZS, AvL20, AvP4, AvL21, AvL22, AvL23. -/
import Derived.Test.YtanimmdlgmkmkaaGreatLb6
import Derived.Test.YtanimmdlgmkmkaaGreatLb7
import Derived.Test.YtanimmdlgmkmkaaGreatLb8
import Derived.Test.YtanimmdlgmkmkaaGreatLb9
import Derived.Sort.AssemblyPlain
namespace Go.Proofs.YtanimmdlgmkmkaaGreat.Av.Zn
open Go
set_option linter.unusedSimpArgs false
set_option linter.unusedVariables false
set_option maxRecDepth 100000
set_option pp.maxSteps 300
instance : Inhabited Rg := ⟨⟨0, 0⟩⟩
def zec (d : Array Rg) : Ob := .buf (d.toList.map zau)
@[simp] theorem zt7 {σ : St} {i : Id} {o o' : Ob} : (σ.set i o).set i o' = σ.set i o' := by
  apply St.ext'
  · funext j
    by_cases h : j = i
    · subst h; cases hm : σ.m j <;> simp [hm]
    · rw [zag h, zag h, zag h]
  · rfl
structure Cmp (g : FuncId) (c : Rg → Rg → Int) : Prop where
  calls : ∀ x y, PCalls Tryz.prog g [zau x, zau y] (.raw (.int .i64 (c x y)))
def ltOf (c : Rg → Rg → Int) (x y : Rg) : Bool := decide (c x y < 0)
end Go.Proofs.YtanimmdlgmkmkaaGreat.Av.Zn
namespace Go.Proofs.YtanimmdlgmkmkaaGreat.Av.Zn
open Go
set_option linter.unusedSimpArgs false
set_option linter.unusedVariables false
set_option maxRecDepth 100000
set_option pp.maxSteps 300
end Go.Proofs.YtanimmdlgmkmkaaGreat.Av.Zn
namespace Go.Proofs.YtanimmdlgmkmkaaGreat.Av.Zn
open Go
set_option linter.unusedSimpArgs false
set_option linter.unusedVariables false
set_option maxRecDepth 100000
set_option pp.maxSteps 300
end Go.Proofs.YtanimmdlgmkmkaaGreat.Av.Zn
namespace Go.Proofs.YtanimmdlgmkmkaaGreat.Av.Zn
open Go
set_option linter.unusedSimpArgs false
set_option linter.unusedVariables false
set_option maxRecDepth 100000
set_option pp.maxSteps 300
end Go.Proofs.YtanimmdlgmkmkaaGreat.Av.Zn
namespace Go.Proofs.YtanimmdlgmkmkaaGreat.Av.Zn
open Go
set_option linter.unusedSimpArgs false
set_option linter.unusedVariables false
set_option maxRecDepth 100000
set_option pp.maxSteps 150
def PR (o : Id) (d : Array Rg) (σ : St) (g : FuncId) (a : Nat) (e : Array Rg) (i j : Nat) (A : zN) (τ : St) : Prop :=
  τ.m o = some (zec e) ∧ τ.set o (zec d) = σ ∧ A 0 = .rs o 0 d.size ∧ A 1 = .raw (.int .i64 a) ∧ A 4 = .fn (.func g) [] [] ∧ A 12 = .raw (.int .i64 i) ∧ A 13 = .raw (.int .i64 j)
end Go.Proofs.YtanimmdlgmkmkaaGreat.Av.Zn
namespace Go.Proofs.YtanimmdlgmkmkaaGreat.Av.Zn
open Go
set_option linter.unusedSimpArgs false
set_option linter.unusedVariables false
set_option maxRecDepth 100000
set_option pp.maxSteps 150
def PQ (o : Id) (d : Array Rg) (σ : St) (g : FuncId) (a : Nat) (e : Array Rg) (i j : Nat) (A : zN) (τ : St) : Prop :=
  τ.m o = some (zec e) ∧ τ.set o (zec d) = σ ∧ A 0 = .rs o 0 d.size ∧ A 1 = .raw (.int .i64 a) ∧ A 4 = .fn (.func g) [] [] ∧ A 11 = .raw (.int .i64 i) ∧ A 12 = .raw (.int .i64 j)
end Go.Proofs.YtanimmdlgmkmkaaGreat.Av.Zn
namespace Go.Proofs.YtanimmdlgmkmkaaGreat.Av.Zn
open Go
set_option linter.unusedSimpArgs false
set_option linter.unusedVariables false
set_option maxRecDepth 100000
set_option pp.maxSteps 150
def PI (o : Id) (d : Array Rg) (σ : St) (g : FuncId) (a b : Nat) (e : Array Rg) (i s : Nat) (A : zN) (τ : St) : Prop :=
  τ.m o = some (zec e) ∧ τ.set o (zec d) = σ ∧ A 0 = .rs o 0 d.size ∧ A 1 = .raw (.int .i64 a) ∧ A 2 = .raw (.int .i64 b) ∧ A 3 = .fn (.func g) [] [] ∧ A 9 = .raw (.int .i64 i) ∧ A 10 = .raw (.int .i64 ((5 : Int) - s))
def PJ (o : Id) (d : Array Rg) (σ : St) (g : FuncId) (a b : Nat) (e : Array Rg) (i : Nat) (x : Int) (A : zN) (τ : St) : Prop :=
  τ.m o = some (zec e) ∧ τ.set o (zec d) = σ ∧ A 0 = .rs o 0 d.size ∧ A 1 = .raw (.int .i64 a) ∧ A 2 = .raw (.int .i64 b) ∧ A 3 = .fn (.func g) [] [] ∧ A 9 = .raw (.int .i64 i) ∧ A 10 = .raw (.int .i64 x)
end Go.Proofs.YtanimmdlgmkmkaaGreat.Av.Zn
namespace Go.Proofs.YtanimmdlgmkmkaaGreat.Av.Zn
open Go
set_option linter.unusedSimpArgs false
set_option linter.unusedVariables false
set_option maxRecDepth 100000
set_option pp.maxSteps 150
end Go.Proofs.YtanimmdlgmkmkaaGreat.Av.Zn
namespace Go.Proofs.YtanimmdlgmkmkaaGreat.Av.Zn
open Go
set_option linter.unusedSimpArgs false
set_option linter.unusedVariables false
set_option maxRecDepth 100000
set_option maxHeartbeats 4000000
set_option pp.maxSteps 150
def zxQ : Sort.Hint → Int
  | .unknown => 0
  | .increasing => 1
  | .decreasing => 2
end Go.Proofs.YtanimmdlgmkmkaaGreat.Av.Zn
namespace Go.Proofs.YtanimmdlgmkmkaaGreat.Av.Zn
open Go
set_option linter.unusedSimpArgs false
set_option linter.unusedVariables false
set_option maxRecDepth 100000
set_option maxHeartbeats 4000000
set_option pp.maxSteps 150
def zwg : ByteArray := ⟨#[0, 1, 2, 2, 3, 3, 3, 3, 4, 4, 4, 4, 4, 4, 4, 4, 5, 5, 5, 5, 5, 5, 5, 5, 5, 5, 5, 5, 5, 5, 5, 5, 6, 6, 6, 6, 6, 6, 6, 6, 6, 6, 6, 6, 6, 6, 6, 6, 6, 6, 6, 6, 6, 6, 6, 6, 6, 6, 6, 6, 6, 6, 6, 6, 7, 7, 7, 7, 7, 7, 7, 7, 7, 7, 7, 7, 7, 7, 7, 7, 7, 7, 7, 7, 7, 7, 7, 7, 7, 7, 7, 7, 7, 7, 7, 7, 7, 7, 7, 7, 7, 7, 7, 7, 7, 7, 7, 7, 7, 7, 7, 7, 7, 7, 7, 7, 7, 7, 7, 7, 7, 7, 7, 7, 7, 7, 7, 7, 8, 8, 8, 8, 8, 8, 8, 8, 8, 8, 8, 8, 8, 8, 8, 8, 8, 8, 8, 8, 8, 8, 8, 8, 8, 8, 8, 8, 8, 8, 8, 8, 8, 8, 8, 8, 8, 8, 8, 8, 8, 8, 8, 8, 8, 8, 8, 8, 8, 8, 8, 8, 8, 8, 8, 8, 8, 8, 8, 8, 8, 8, 8, 8, 8, 8, 8, 8, 8, 8, 8, 8, 8, 8, 8, 8, 8, 8, 8, 8, 8, 8, 8, 8, 8, 8, 8, 8, 8, 8, 8, 8, 8, 8, 8, 8, 8, 8, 8, 8, 8, 8, 8, 8, 8, 8, 8, 8, 8, 8, 8, 8, 8, 8, 8, 8, 8, 8, 8, 8, 8, 8, 8, 8, 8, 8, 8, 8]⟩
end Go.Proofs.YtanimmdlgmkmkaaGreat.Av.Zn
namespace Go.Proofs.YtanimmdlgmkmkaaGreat.Av.Zn
open Go
set_option linter.unusedSimpArgs false
set_option linter.unusedVariables false
set_option maxRecDepth 100000
set_option maxHeartbeats 4000000
set_option pp.maxSteps 1500
end Go.Proofs.YtanimmdlgmkmkaaGreat.Av.Zn
namespace Go.Proofs.YtanimmdlgmkmkaaGreat.Av.Zn
open Go
set_option linter.unusedSimpArgs false
set_option linter.unusedVariables false
set_option maxRecDepth 100000
set_option maxHeartbeats 4000000
set_option pp.maxSteps 1500
def brk (a l m i : Nat) (st : UInt64 × Array Rg) : Nat → UInt64 × Array Rg
  | 0 => st
  | k + 1 => Sort.breakStep a l m (brk a l m i st k) (i + k)
end Go.Proofs.YtanimmdlgmkmkaaGreat.Av.Zn
namespace Go.Proofs.YtanimmdlgmkmkaaGreat.Av.Zn
open Go
set_option linter.unusedSimpArgs false
set_option linter.unusedVariables false
set_option maxRecDepth 100000
set_option maxHeartbeats 8000000
set_option pp.maxSteps 600
structure Fr (o : Id) (x : Ob) (σ τ : St) : Prop where
  m : τ.m = (σ.set o x).m
  nx : ∀ s, σ.nx s ≤ τ.nx s
theorem Fr.set (o : Id) (x : Ob) (σ : St) : Fr o x σ (σ.set o x) := ⟨rfl, fun _ => Nat.le_refl _⟩
theorem Fr.buf {o : Id} {x y : Ob} {σ τ : St} (h : Fr o x σ τ) (hy : σ.m o = some y) : τ.m o = some x := by rw [h.m, zdn, hy]; rfl
theorem Fr.trans {o : Id} {x y : Ob} {σ τ ρ : St} (h : Fr o x σ τ) (k : Fr o y τ ρ) : Fr o y σ ρ := by
  refine ⟨?_, fun s => Nat.le_trans (h.nx s) (k.nx s)⟩
  rw [k.m]
  funext i
  by_cases e : i = o
  · subst e
    rw [zdn, zdn, h.m, zdn]
    cases σ.m i <;> rfl
  · rw [zag e, h.m, zag e, zag e]
def zt8 (lt : Rg → Rg → Bool) (o : Id) (d : Array Rg) (a b : Nat) (σ : St) (r : AV) (τ : St) : Prop :=
  r = .tup [] ∧ ∃ d', Sort.PermIn a b d d' ∧ Sort.SortedIn lt a b d' ∧ Fr o (zec d') σ τ
def PdI (o : Id) (n a b lim : Nat) (g : FuncId) (wb wp : Bool) (A : zN) : Prop :=
  A 0 = .rs o 0 n ∧ A 1 = .raw (.int .i64 a) ∧ A 2 = .raw (.int .i64 b) ∧ A 3 = .raw (.int .i64 lim) ∧ A 4 = .fn (.func g) [] [] ∧ A 10 = .raw (.bool wb) ∧ A 11 = .raw (.bool wp)
structure Rd (lt : Rg → Rg → Bool) (o : Id) (d : Array Rg) (a b : Nat) (σ : St) (a' b' : Nat) (e : Array Rg) (τ : St) : Prop where
  fr : Fr o (zec e) σ τ
  size : e.size = d.size
  below : Sort.Below lt a' b' e
  glue : ∀ R, Sort.PermIn a' b' e R → Sort.SortedIn lt a' b' R → Sort.PermIn a b d R ∧ Sort.SortedIn lt a b R
end Go.Proofs.YtanimmdlgmkmkaaGreat.Av.Zn
namespace Go.Proofs.YtanimmdlgmkmkaaGreat.Av.Zn
open Go
set_option linter.unusedSimpArgs false
set_option linter.unusedVariables false
set_option maxRecDepth 100000
set_option maxHeartbeats 4000000
set_option pp.maxSteps 300
def Coll (i : Id) (z : List Rg) (σ : St) (r : AV) (τ : St) : Prop := But i σ τ ∧ ((z = [] ∧ r = .sl 0 [] true) ∨ (z ≠ [] ∧ ∃ j, r = .rs j 0 z.length ∧ j.sz = 2 ∧ τ.m j = some (.buf (z.map zau)) ∧ σ.m j = none))
def ztt (c : Rg → Rg → Int) (z : List Rg) : Prop := z.Pairwise fun x y => ¬ c y x < 0
end Go.Proofs.YtanimmdlgmkmkaaGreat.Av.Zn
namespace Go.Proofs.YtanimmdlgmkmkaaGreat.Av.Zn
open Go
set_option linter.unusedSimpArgs false
set_option linter.unusedVariables false
set_option maxRecDepth 100000
set_option maxHeartbeats 4000000
set_option pp.maxSteps 300
def idxOf (p : Rg → Bool) (z : List Rg) : Int := if z.any p then (z.findIdx p : Nat) else -1
end Go.Proofs.YtanimmdlgmkmkaaGreat.Av.Zn
namespace Go.Proofs.YtanimmdlgmkmkaaGreat.Av.Zn
open Go
set_option linter.unusedSimpArgs false
set_option linter.unusedVariables false
set_option maxRecDepth 100000
set_option maxHeartbeats 4000000
set_option pp.maxSteps 300
end Go.Proofs.YtanimmdlgmkmkaaGreat.Av.Zn
namespace Go.Proofs.YtanimmdlgmkmkaaGreat.Av.Zn
open Go
set_option linter.unusedSimpArgs false
set_option linter.unusedVariables false
set_option maxRecDepth 100000
set_option maxHeartbeats 4000000
set_option pp.maxSteps 300
end Go.Proofs.YtanimmdlgmkmkaaGreat.Av.Zn
namespace Go.Proofs.YtanimmdlgmkmkaaGreat.Av.Zn
open Go
set_option linter.unusedSimpArgs false
set_option linter.unusedVariables false
set_option maxRecDepth 100000
set_option maxHeartbeats 4000000
set_option pp.maxSteps 300
end Go.Proofs.YtanimmdlgmkmkaaGreat.Av.Zn
namespace Go.Proofs.YtanimmdlgmkmkaaGreat.Av.Zn
open Go
set_option linter.unusedSimpArgs false
set_option linter.unusedVariables false
set_option maxRecDepth 100000
set_option maxHeartbeats 4000000
set_option pp.maxSteps 300
def allZ : List Rg := [⟨0, 4294967295⟩]
def ztu : List (List Rg × Bool) → List Rg
  | [] => []
  | p :: l => p.1 ++ ztu l
def pAV (p : List Rg × Bool) : AV := zAV p.1 p.2
theorem zna {n : Nat} {l : List AV} {f : Bool} (h : ∀ a ∈ l, noIds a) : noIds (.sl n l f) := by
  simp only [noIds, AV.ids]
  induction l with
  | nil => simp [z9]
  | cons a l ih => simp only [z9]; exact ⟨h a (by simp), ih fun b hb => h b (by simp [hb])⟩
end Go.Proofs.YtanimmdlgmkmkaaGreat.Av.Zn
namespace Go.Proofs.YtanimmdlgmkmkaaGreat.Av.Zn
open Go
set_option linter.unusedSimpArgs false
set_option linter.unusedVariables false
set_option maxRecDepth 100000
set_option maxHeartbeats 4000000
set_option pp.maxSteps 300
def iAV (n : Int) : AV := .raw (.int .i64 n)
def inAV (l : List Int) (b : Bool) : AV := .sl 1 (l.map iAV) b
theorem znb (z : List Int) (b : Bool) : noIds (inAV z b) := zna fun a ha => by
  obtain ⟨x, _, rfl⟩ := List.mem_map.1 ha
  simp [noIds, iAV]
def cutsAll (l : List Rg) : List Int := 0 :: l.flatMap fun r => [r.lo, r.hi + 1]
def nextCut (all : List Int) (last : Int) : Int := all.foldl (fun next a => if last < a ∧ a < next then a else next) 4294967296
def cutsFrom (all : List Int) : Nat → Int → List Int
  | 0, _ => []
  | n + 1, last => if nextCut all last ≤ 4294967295 then nextCut all last :: cutsFrom all n (nextCut all last) else []
theorem zlD {l : List Rg} {i : Nat} {r : Rg} (h : l[i]? = some r) : cutsAll (l.take (i + 1)) = cutsAll (l.take i) ++ [r.lo, r.hi + 1] := by
  unfold cutsAll
  rw [List.take_add_one, h]; simp
theorem zfw (l : List Rg) : (cutsAll l).length = 1 + 2 * l.length := by
  unfold cutsAll
  induction l with
  | nil => rfl
  | cons r l ih => simp at ih ⊢; omega
def zbA (all : List Int) (last : Int) : Nat := (all.filter fun a => decide (last < a) && decide (a < 4294967296)).length
theorem ze7 (all : List Int) (last : Int) : ∀ (l : List Int) (x : Int), (∀ a ∈ l, a ∈ all) → (x = 4294967296 ∨ (x ∈ all ∧ last < x ∧ x < 4294967296)) → x ≤ 4294967296 →
    let y := l.foldl (fun next a => if last < a ∧ a < next then a else next) x
    (y = 4294967296 ∨ (y ∈ all ∧ last < y ∧ y < 4294967296)) ∧ y ≤ x ∧ ∀ a ∈ l, last < a → y ≤ a
  | [], x, _, h, hx => ⟨h, Int.le_refl _, fun a h => by cases h⟩
  | b :: l, x, hl, h, hx => by
    simp only [List.foldl_cons]
    by_cases hb : last < b ∧ b < x
    · rw [if_pos hb]
      obtain ⟨h1, h2, h3⟩ := ze7 all last l b (fun a ha => hl a (by simp [ha])) (.inr ⟨hl b (by simp), hb.1, by omega⟩) (by omega)
      refine ⟨h1, by omega, fun a ha h => ?_⟩
      rcases List.mem_cons.1 ha with rfl | ha
      · exact h2
      · exact h3 a ha h
    · rw [if_neg hb]
      obtain ⟨h1, h2, h3⟩ := ze7 all last l x (fun a ha => hl a (by simp [ha])) h hx
      refine ⟨h1, h2, fun a ha h => ?_⟩
      rcases List.mem_cons.1 ha with rfl | ha
      · omega
      · exact h3 a ha h
theorem zi7 (all : List Int) (last : Int) : (nextCut all last = 4294967296 ∨ (nextCut all last ∈ all ∧ last < nextCut all last ∧ nextCut all last < 4294967296)) ∧ nextCut all last ≤ 4294967296 ∧ ∀ a ∈ all, last < a → nextCut all last ≤ a :=
  ze7 all last all 4294967296 (fun _ h => h) (.inl rfl) (Int.le_refl _)
theorem zd3 {all : List Int} {last : Int} (h : nextCut all last ≤ 4294967295) : zbA all (nextCut all last) < zbA all last := by
  obtain ⟨h1, h2, h3⟩ := zi7 all last
  have h1 := h1.resolve_left (by omega)
  unfold zbA
  generalize nextCut all last = x at *
  have hsub : ∀ l : List Int, (l.filter fun a => decide (x < a) && decide (a < 4294967296)).length ≤ (l.filter fun a => decide (last < a) && decide (a < 4294967296)).length := by
    intro l
    induction l with
    | nil => simp
    | cons a l ih =>
      simp only [List.filter_cons]
      by_cases ha : x < a ∧ a < 4294967296
      · have : last < a := by omega
        simp [ha.1, ha.2, this, ih]
      · have hn : (decide (x < a) && decide (a < 4294967296)) = false := by
          simp only [Bool.and_eq_false_iff, decide_eq_false_iff_not]; omega
        rw [hn]
        simp only [Bool.false_eq_true, if_false]
        split
        · simp; omega
        · exact ih
  obtain ⟨s, t, rfl⟩ := List.append_of_mem h1.1
  rw [List.filter_append, List.filter_append, List.length_append, List.length_append]
  have e1 := hsub s
  have e2 := hsub t
  simp only [List.filter_cons]
  have hn : (decide (x < x) && decide (x < 4294967296)) = false := by simp
  have hy : (decide (last < x) && decide (x < 4294967296)) = true := by simp [h1.2.1, h1.2.2]
  rw [hn, hy]
  simp
  omega
theorem zgC (all : List Int) : ∀ (n m : Nat) (last : Int), zbA all last ≤ n → zbA all last ≤ m → cutsFrom all n last = cutsFrom all m last
  | 0, 0, _, _, _ => rfl
  | 0, m + 1, last, h, _ => by
    unfold cutsFrom
    split
    · rename_i hc; have := zd3 hc; omega
    · rfl
  | n + 1, 0, last, _, h => by
    unfold cutsFrom
    split
    · rename_i hc; have := zd3 hc; omega
    · rfl
  | n + 1, m + 1, last, h1, h2 => by
    unfold cutsFrom
    split
    · rename_i hc
      have := zd3 hc
      rw [zgC all n m _ (by omega) (by omega)]
    · rfl
def cutsOf (l : List Rg) : List Int := cutsFrom (cutsAll l) (zbA (cutsAll l) (-1)) (-1)
theorem zoW (all : List Int) (last : Int) : zbA all last ≤ all.length := List.length_filter_le _ _
theorem zg9 (all : List Int) : ∀ (n : Nat) (last : Int), (cutsFrom all n last).length ≤ n
  | 0, _ => by simp [cutsFrom]
  | n + 1, last => by
    unfold cutsFrom
    split
    · have := zg9 all n (nextCut all last); simp; omega
    · simp
theorem zlE {all : List Int} {last : Int} {i : Nat} {a : Int} (h : all[i]? = some a) : nextCut (all.take (i + 1)) last = if last < a ∧ a < nextCut (all.take i) last then a else nextCut (all.take i) last := by
  unfold nextCut
  rw [List.take_add_one, h, List.foldl_append]
  rfl
end Go.Proofs.YtanimmdlgmkmkaaGreat.Av.Zn
namespace Go.Proofs.YtanimmdlgmkmkaaGreat.Av.Zn
open Go
set_option linter.unusedSimpArgs false
set_option linter.unusedVariables false
set_option maxRecDepth 100000
set_option maxHeartbeats 4000000
set_option pp.maxSteps 300
theorem zkw {all : List Int} {last : Int} (h : nextCut all last ≤ 4294967295) : cutsFrom all (zbA all last) last = nextCut all last :: cutsFrom all (zbA all (nextCut all last)) (nextCut all last) := by
  have hlt := zd3 h
  obtain ⟨n, hn⟩ : ∃ n, zbA all last = n + 1 := ⟨zbA all last - 1, by omega⟩
  rw [hn, cutsFrom, if_pos h, zgC all n (zbA all (nextCut all last)) _ (by omega) (Nat.le_refl _)]
theorem zkx {all : List Int} {last : Int} (h : ¬ nextCut all last ≤ 4294967295) : cutsFrom all (zbA all last) last = [] := by
  cases zbA all last with
  | zero => rfl
  | succ n => rw [cutsFrom, if_neg h]
theorem cuts_calls (l : List Rg) (f : Bool) (hz : InZ l) (hl : l.length < 2 ^ 30) : PCalls Tryz.prog 113 [zAV l f] (inAV (cutsOf l) false) := by
  refine zJ Tryz.func113 rfl (N := 67) rfl rfl (by simp) (znb _ _) fun σ => ?_
  (try ((first | with_reducible refine zh ?_ | with_reducible refine zm ?_ | with_reducible refine zo ?_); simp)); repeat' (first | ((first | refine zd ?_ | refine zg ?_ | refine dN (by decide +kernel) ?_ | (refine za ?_ ?_ <;> (intro hg; simp only [hg])) | fail) <;> simp) | refine zf ?_ | refine zc ?_ | (refine zp ?_; simp only [zq]; try simp) | ((first | refine zl (by simp) ?_ | refine zx (by simp) (by simp) (by simp (maxDischargeDepth := 30)) ?_ | fail); simp) | (refine zb (fun hc => ?_) (fun hc => ?_) <;> try simp at hc) | fail)
  refine zc3 (fun A τ => OwnL σ τ 1 (A 3) ((cutsAll l).map iAV) ∧ Ext σ τ) ?_ ?_
  · intro R1 hR1
    refine zZ (fun n A τ => ∃ (i : Nat) (v : AV), A 0 = zAV l f ∧ A 4 = .raw (.int .i64 i) ∧ A 3 = v ∧ OwnL σ τ 1 v ((cutsAll (l.take i)).map iAV) ∧ Ext σ τ ∧ i ≤ l.length ∧ n = l.length - i) l.length ?_ ?_
    · exact ⟨0, .rs ⟨10, σ.nx 10, 1⟩ 0 1, by simp, by simp, by simp, OwnL.of rfl (by simp [cutsAll, iAV]) (zk _ _ _) (by simp [cutsAll]), Ext.new _ _ _ _, by omega, by omega⟩
    rintro n A τ ⟨i, v, a0, a4, a3, hO, hE, hi, rfl⟩ I1 hI1
    by_cases hlt : i < l.length
    · have hx : l[i]? = some l[i] := List.getElem?_eq_getElem hlt
      obtain ⟨x1, x2, x3, x4⟩ := hz l[i] (List.getElem_mem _)
      have ht := zlD hx
      have hlen := zfw (l.take i)
      rw [List.length_take, Nat.min_eq_left hi] at hlen
      have w1 : IntKind.i64.wrap ((i : Int) + 1) = ((i + 1 : Nat) : Int) := by rw [zU (by omega) (by omega)]; omega
      have w2 : IntKind.i64.wrap l[i].lo = l[i].lo := zU (by omega) (by omega)
      have w3 : IntKind.i64.wrap l[i].hi = l[i].hi := zU (by omega) (by omega)
      have w4 : IntKind.i64.wrap (l[i].hi + 1) = l[i].hi + 1 := zU (by omega) (by omega)
      (try ((first | with_reducible refine zh ?_ | with_reducible refine zm ?_ | with_reducible refine zo ?_); simp [-zG, a0, a4, a3, zAV, zau, hlt, hx, w2, w3, w4])); repeat' (first | ((first | refine zg ?_ | refine dN (by decide +kernel) ?_ | (refine za ?_ ?_ <;> (intro hg; simp only [hg])) | fail) <;> simp [-zG, a0, a4, a3, zAV, zau, hlt, hx, w2, w3, w4]) | refine zf ?_ | refine zc ?_ | (refine zp ?_; simp only [zq]; try simp) | ((first | refine zl (by simp) ?_ | refine zx (by simp) (by simp) (by simp (maxDischargeDepth := 30) [-zG, a0, a4, a3, zAV, zau, hlt, hx, w2, w3, w4]) ?_ | fail); simp) | (apply ziO; focus (simp [-zG, a0, a4, a3, zAV, zau, hlt, hx, w2, w3, w4]; done)) | (apply ziP; focus (simp [-zG, a0, a4, a3, zAV, zau, hlt, hx, w2, w3, w4]; done)) | fail)
      have hE31 := Ext.new τ 31 1 (.buf [.raw (.int .i64 l[i].lo), .raw (.int .i64 (l[i].hi + 1))])
      refine zal zhm (hO.ext hE31) (hE.trans hE31) (ys := [iAV l[i].lo, iAV (l[i].hi + 1)]) (by simp [iAV]) (.inr rfl) (by simp [iAV]) (by simp; omega) ?_
      intro v' τ2 hO2 hE2 hkeep hnx
      have hO3 : OwnL σ τ2 1 v' ((cutsAll (l.take (i + 1))).map iAV) := by rw [ht]; simpa using hO2
      clear hkeep
      (try ((first | with_reducible refine zh ?_ | with_reducible refine zm ?_ | with_reducible refine zo ?_); simp [a0, a4, w1])); repeat' (first | ((first | refine zd ?_ | refine zg ?_ | refine dN (by decide +kernel) ?_ | (refine za ?_ ?_ <;> (intro hg; simp only [hg])) | fail) <;> simp [a0, a4, w1]) | refine zf ?_ | refine zc ?_ | (refine zp ?_; simp only [zq]; try simp) | ((first | refine zl (by simp) ?_ | refine zx (by simp) (by simp) (by simp (maxDischargeDepth := 30) [a0, a4, w1]) ?_ | fail); simp) | (refine zb (fun hc => ?_) (fun hc => ?_) <;> try simp at hc) | fail)
      exact hI1 (l.length - (i + 1)) _ _ (by omega) ⟨i + 1, v', by simp [a0, zAV, zau], by simp, by simp, hO3, hE2, by omega, rfl⟩
    · have : i = l.length := by omega
      subst this
      rw [List.take_length] at hO
      (try ((first | with_reducible refine zh ?_ | with_reducible refine zm ?_ | with_reducible refine zo ?_); simp [a0, a4, zAV])); repeat' (first | ((first | refine zd ?_ | refine zg ?_ | refine dN (by decide +kernel) ?_ | (refine za ?_ ?_ <;> (intro hg; simp only [hg])) | fail) <;> simp [a0, a4, zAV]) | refine zf ?_ | refine zc ?_ | (refine zp ?_; simp only [zq]; try simp) | ((first | refine zl (by simp) ?_ | refine zx (by simp) (by simp) (by simp (maxDischargeDepth := 30) [a0, a4, zAV]) ?_ | fail); simp) | (refine zb (fun hc => ?_) (fun hc => ?_) <;> try simp at hc) | fail)
      exact hR1 _ _ ⟨by simp [a3]; exact hO, hE⟩
  · rintro A τ ⟨hO, hE⟩
    refine ziQ 3 hO hE ?_
    rintro A τ hE a3 - - - - -
    have a3 : A 3 = inAV (cutsAll l) false := a3
    have hcut : cutsFrom (cutsAll l) (zbA (cutsAll l) (-1)) (-1) = cutsOf l := rfl
    have hcl : (cutsOf l).length ≤ 1 + 2 * l.length := Nat.le_trans (zg9 _ _ _) (by have := zoW (cutsAll l) (-1); rw [zfw] at this; exact this)
    have hall : (cutsAll l).length ≤ 2 ^ 32 := by rw [zfw]; omega
    generalize cutsOf l = C at *
    generalize cutsAll l = all at *
    clear hO
    have w0 : IntKind.i64.wrap (-1) = -1 := zU (by omega) (by omega)
    (try ((first | with_reducible refine zh ?_ | with_reducible refine zm ?_ | with_reducible refine zo ?_); simp [a3, w0])); repeat' (first | ((first | refine zd ?_ | refine zg ?_ | refine dN (by decide +kernel) ?_ | (refine za ?_ ?_ <;> (intro hg; simp only [hg])) | fail) <;> simp [a3, w0]) | refine zf ?_ | refine zc ?_ | (refine zp ?_; simp only [zq]; try simp) | ((first | refine zl (by simp) ?_ | refine zx (by simp) (by simp) (by simp (maxDischargeDepth := 30) [a3, w0]) ?_ | fail); simp) | (refine zb (fun hc => ?_) (fun hc => ?_) <;> try simp at hc) | fail)
    refine zc3 (fun A τ => OwnL σ τ 1 (A 5) (C.map iAV) ∧ Ext σ τ) ?_ ?_
    · intro R1 hR1
      refine zZ (fun n A τ => ∃ (last : Int) (v : AV) (out : List Int), A 3 = inAV all false ∧ A 5 = v ∧ A 6 = .raw (.int .i64 last) ∧ OwnL σ τ 1 v (out.map iAV) ∧ Ext σ τ ∧ out.length ≤ C.length ∧
        ((A 7 = .raw (.bool true) ∧ out ++ cutsFrom all (zbA all last) last = C ∧ n = zbA all last + 1) ∨ (A 7 = .raw (.bool false) ∧ out = C ∧ n = 0))) (zbA all (-1) + 1) ?_ ?_
      · exact ⟨-1, .sl 0 [] true, [], by simp [a3], by simp, by simp, OwnL.nil, hE, by simp, .inl ⟨by simp, hcut, rfl⟩⟩
      clear a3 hE
      rintro n A τ ⟨last, v, out, a3, a5, a6, hO, hE, hol, ⟨a7, hc, rfl⟩ | ⟨a7, rfl, rfl⟩⟩ I1 hI1
      · (try ((first | with_reducible refine zh ?_ | with_reducible refine zm ?_ | with_reducible refine zo ?_); simp [a3, a5, a6, a7])); repeat' (first | ((first | refine zd ?_ | refine zg ?_ | refine dN (by decide +kernel) ?_ | (refine za ?_ ?_ <;> (intro hg; simp only [hg])) | fail) <;> simp [a3, a5, a6, a7]) | refine zf ?_ | refine zc ?_ | (refine zp ?_; simp only [zq]; try simp) | ((first | refine zl (by simp) ?_ | refine zx (by simp) (by simp) (by simp (maxDischargeDepth := 30) [a3, a5, a6, a7]) ?_ | fail); simp) | (refine zb (fun hc => ?_) (fun hc => ?_) <;> try simp at hc) | fail)
        refine zc3 (fun A' τ' => A' 3 = inAV all false ∧ A' 5 = v ∧ A' 6 = .raw (.int .i64 last) ∧ A' 8 = .raw (.int .i64 (nextCut all last)) ∧ τ' = τ) ?_ ?_
        · intro R2 hR2
          refine zZ (fun n A' τ' => ∃ i : Nat, A' 3 = inAV all false ∧ A' 5 = v ∧ A' 6 = .raw (.int .i64 last) ∧ A' 9 = .raw (.int .i64 i) ∧ A' 8 = .raw (.int .i64 (nextCut (all.take i) last)) ∧ τ' = τ ∧ i ≤ all.length ∧ n = all.length - i) all.length ?_ ?_
          · exact ⟨0, by simp [a3], by simp [a5], by simp [a6], by simp, by simp [nextCut], rfl, by omega, by omega⟩
          clear a3 a5 a6 a7
          rintro n A' τ' ⟨i, a3, a5, a6, a9, a8, rfl, hi, rfl⟩ I2 hI2
          by_cases hlt : i < all.length
          · have hx : all[i]? = some all[i] := List.getElem?_eq_getElem hlt
            have ht := zlE (last := last) hx
            have w1 : IntKind.i64.wrap ((i : Int) + 1) = ((i + 1 : Nat) : Int) := by rw [zU (by omega) (by omega)]; omega
            generalize nextCut (all.take i) last = x at *
            have hic : ∀ n, (iAV n).cells = [iAV n] := fun n => rfl
            by_cases c1 : last < all[i]
            · by_cases c2 : all[i] < x
              · rw [if_pos ⟨c1, c2⟩] at ht
                (try ((first | with_reducible refine zh ?_ | with_reducible refine zm ?_ | with_reducible refine zo ?_); simp [a3, a5, a6, a9, a8, inAV, iAV, hlt, c1, c2, w1])); repeat' (first | ((first | refine zd ?_ | refine zg ?_ | refine dN (by decide +kernel) ?_ | (refine za ?_ ?_ <;> (intro hg; simp only [hg])) | fail) <;> simp [a3, a5, a6, a9, a8, inAV, iAV, hlt, c1, c2, w1]) | refine zf ?_ | refine zc ?_ | (refine zp ?_; simp only [zq]; try simp) | ((first | refine zl (by simp) ?_ | refine zx (by simp) (by simp) (by simp (maxDischargeDepth := 30) [a3, a5, a6, a9, a8, inAV, iAV, hlt, c1, c2, w1]) ?_ | fail); simp) | (refine zb (fun hc => ?_) (fun hc => ?_) <;> try simp at hc) | fail)
                exact hI2 (all.length - (i + 1)) _ _ (by omega) ⟨i + 1, by simp [a3, inAV, iAV], by simp [a5], by simp [a6], by simp, by simp [ht], rfl, by omega, rfl⟩
              · rw [if_neg (fun h => c2 h.2)] at ht
                (try ((first | with_reducible refine zh ?_ | with_reducible refine zm ?_ | with_reducible refine zo ?_); simp [a3, a5, a6, a9, a8, inAV, iAV, hlt, c1, c2, w1])); repeat' (first | ((first | refine zd ?_ | refine zg ?_ | refine dN (by decide +kernel) ?_ | (refine za ?_ ?_ <;> (intro hg; simp only [hg])) | fail) <;> simp [a3, a5, a6, a9, a8, inAV, iAV, hlt, c1, c2, w1]) | refine zf ?_ | refine zc ?_ | (refine zp ?_; simp only [zq]; try simp) | ((first | refine zl (by simp) ?_ | refine zx (by simp) (by simp) (by simp (maxDischargeDepth := 30) [a3, a5, a6, a9, a8, inAV, iAV, hlt, c1, c2, w1]) ?_ | fail); simp) | (refine zb (fun hc => ?_) (fun hc => ?_) <;> try simp at hc) | fail)
                exact hI2 (all.length - (i + 1)) _ _ (by omega) ⟨i + 1, by simp [a3, inAV, iAV], by simp [a5], by simp [a6], by simp, by simp [a8, ht], rfl, by omega, rfl⟩
            · rw [if_neg (fun h => c1 h.1)] at ht
              (try ((first | with_reducible refine zh ?_ | with_reducible refine zm ?_ | with_reducible refine zo ?_); simp [a3, a5, a6, a9, a8, inAV, iAV, hlt, c1, w1])); repeat' (first | ((first | refine zd ?_ | refine zg ?_ | refine dN (by decide +kernel) ?_ | (refine za ?_ ?_ <;> (intro hg; simp only [hg])) | fail) <;> simp [a3, a5, a6, a9, a8, inAV, iAV, hlt, c1, w1]) | refine zf ?_ | refine zc ?_ | (refine zp ?_; simp only [zq]; try simp) | ((first | refine zl (by simp) ?_ | refine zx (by simp) (by simp) (by simp (maxDischargeDepth := 30) [a3, a5, a6, a9, a8, inAV, iAV, hlt, c1, w1]) ?_ | fail); simp) | (refine zb (fun hc => ?_) (fun hc => ?_) <;> try simp at hc) | fail)
              exact hI2 (all.length - (i + 1)) _ _ (by omega) ⟨i + 1, by simp [a3, inAV, iAV], by simp [a5], by simp [a6], by simp, by simp [a8, ht], rfl, by omega, rfl⟩
          · have : i = all.length := by omega
            subst this
            rw [List.take_length] at a8
            (try ((first | with_reducible refine zh ?_ | with_reducible refine zm ?_ | with_reducible refine zo ?_); simp [a3, a5, a6, a9, a8, inAV])); repeat' (first | ((first | refine zd ?_ | refine zg ?_ | refine dN (by decide +kernel) ?_ | (refine za ?_ ?_ <;> (intro hg; simp only [hg])) | fail) <;> simp [a3, a5, a6, a9, a8, inAV]) | refine zf ?_ | refine zc ?_ | (refine zp ?_; simp only [zq]; try simp) | ((first | refine zl (by simp) ?_ | refine zx (by simp) (by simp) (by simp (maxDischargeDepth := 30) [a3, a5, a6, a9, a8, inAV]) ?_ | fail); simp) | (refine zb (fun hc => ?_) (fun hc => ?_) <;> try simp at hc) | fail)
            exact hR2 _ _ ⟨by simp [a3, inAV], by simp [a5], by simp [a6], by simp [a8], rfl⟩
        · clear a3 a5 a6 a7
          rintro A τ' ⟨a3, a5, a6, a8, rfl⟩
          by_cases hn : nextCut all last ≤ 4294967295
          · have hlt := zd3 hn
            rw [zkw hn] at hc
            generalize nextCut all last = x at *
            have hlc := congrArg List.length hc
            simp only [List.length_append, List.length_cons] at hlc
            (try ((first | with_reducible refine zh ?_ | with_reducible refine zm ?_ | with_reducible refine zo ?_); simp [-zG, a3, a5, a6, a8, hn])); repeat' (first | ((first | refine zg ?_ | refine dN (by decide +kernel) ?_ | (refine za ?_ ?_ <;> (intro hg; simp only [hg])) | fail) <;> simp [-zG, a3, a5, a6, a8, hn]) | refine zf ?_ | refine zc ?_ | (refine zp ?_; simp only [zq]; try simp) | ((first | refine zl (by simp) ?_ | refine zx (by simp) (by simp) (by simp (maxDischargeDepth := 30) [-zG, a3, a5, a6, a8, hn]) ?_ | fail); simp) | (apply ziO; focus (simp [-zG, a3, a5, a6, a8, hn]; done)) | (apply ziP; focus (simp [-zG, a3, a5, a6, a8, hn]; done)) | fail)
            have hE63 := Ext.new τ' 63 1 (.buf [.raw (.int .i64 x)])
            refine zal zhm (hO.ext hE63) (hE.trans hE63) (ys := [iAV x]) (by simp [iAV]) (.inr rfl) (by simp [iAV]) (by simp; omega) ?_
            intro v' τ2 hO2 hE2 hkeep hnx
            have hO3 : OwnL σ τ2 1 v' ((out ++ [x]).map iAV) := by simpa using hO2
            clear hkeep
            (try ((first | with_reducible refine zh ?_ | with_reducible refine zm ?_ | with_reducible refine zo ?_); simp [a3, a8])); repeat' (first | ((first | refine zd ?_ | refine zg ?_ | refine dN (by decide +kernel) ?_ | (refine za ?_ ?_ <;> (intro hg; simp only [hg])) | fail) <;> simp [a3, a8]) | refine zf ?_ | refine zc ?_ | (refine zp ?_; simp only [zq]; try simp) | ((first | refine zl (by simp) ?_ | refine zx (by simp) (by simp) (by simp (maxDischargeDepth := 30) [a3, a8]) ?_ | fail); simp) | (refine zb (fun hc => ?_) (fun hc => ?_) <;> try simp at hc) | fail)
            exact hI1 (zbA all x + 1) _ _ (by omega) ⟨x, v', out ++ [x], by simp [a3], by simp, by simp, hO3, hE2, by simp; omega, .inl ⟨by simp, by simpa using hc, rfl⟩⟩
          · rw [zkx hn, List.append_nil] at hc
            subst hc
            generalize nextCut all last = x at *
            (try ((first | with_reducible refine zh ?_ | with_reducible refine zm ?_ | with_reducible refine zo ?_); simp [a3, a5, a6, a8, hn])); repeat' (first | ((first | refine zd ?_ | refine zg ?_ | refine dN (by decide +kernel) ?_ | (refine za ?_ ?_ <;> (intro hg; simp only [hg])) | fail) <;> simp [a3, a5, a6, a8, hn]) | refine zf ?_ | refine zc ?_ | (refine zp ?_; simp only [zq]; try simp) | ((first | refine zl (by simp) ?_ | refine zx (by simp) (by simp) (by simp (maxDischargeDepth := 30) [a3, a5, a6, a8, hn]) ?_ | fail); simp) | (refine zb (fun hc => ?_) (fun hc => ?_) <;> try simp at hc) | fail)
            exact hI1 0 _ _ (by omega) ⟨last, v, out, by simp [a3], by simp [a5], by simp [a6], hO, hE, Nat.le_refl _, .inr ⟨by simp, rfl, rfl⟩⟩
      · (try ((first | with_reducible refine zh ?_ | with_reducible refine zm ?_ | with_reducible refine zo ?_); simp [a3, a5, a6, a7])); repeat' (first | ((first | refine zd ?_ | refine zg ?_ | refine dN (by decide +kernel) ?_ | (refine za ?_ ?_ <;> (intro hg; simp only [hg])) | fail) <;> simp [a3, a5, a6, a7]) | refine zf ?_ | refine zc ?_ | (refine zp ?_; simp only [zq]; try simp) | ((first | refine zl (by simp) ?_ | refine zx (by simp) (by simp) (by simp (maxDischargeDepth := 30) [a3, a5, a6, a7]) ?_ | fail); simp) | (refine zb (fun hc => ?_) (fun hc => ?_) <;> try simp at hc) | fail)
        exact hR1 _ _ ⟨by simp [a5]; exact hO, hE⟩
    · rintro A τ ⟨hO, hE⟩
      generalize ha5 : A 5 = v at *
      (try ((first | with_reducible refine zh ?_ | with_reducible refine zm ?_ | with_reducible refine zo ?_); simp [ha5])); repeat' (first | ((first | refine zd ?_ | refine zg ?_ | refine dN (by decide +kernel) ?_ | (refine za ?_ ?_ <;> (intro hg; simp only [hg])) | fail) <;> simp [ha5]) | refine zf ?_ | refine zc ?_ | (refine zp ?_; simp only [zq]; try simp) | (refine zb (fun hc => ?_) (fun hc => ?_) <;> try simp at hc) | fail)
      exact zbX (.inr rfl) (by simp) hO hE
end Go.Proofs.YtanimmdlgmkmkaaGreat.Av.Zn
namespace Go.Proofs.YtanimmdlgmkmkaaGreat.Av.Zn
open Go
set_option linter.unusedSimpArgs false
set_option linter.unusedVariables false
set_option maxRecDepth 100000
set_option maxHeartbeats 4000000
set_option pp.maxSteps 300
def zhq (C : List Int) (i : Nat) : Int := match C[i + 1]? with | some x => x - 1 | none => 4294967295
theorem end_calls (C : List Int) (f : Bool) (i : Nat) (hl : C.length < 2 ^ 60) (hi : i < 2 ^ 60) (hC : ∀ x ∈ C, 0 ≤ x ∧ x ≤ 4294967296) : PCalls Tryz.prog 114 [inAV C f, .raw (.int .i64 i)] (.raw (.int .i64 (zhq C i))) := by
  refine zJ Tryz.func114 rfl (N := 16) rfl rfl (by simp) (by simp [noIds]) fun σ => ?_
  have w1 : IntKind.i64.wrap ((i : Int) + 1) = ((i + 1 : Nat) : Int) := by rw [zU (by omega) (by omega)]; omega
  obtain ⟨k, hk⟩ : ∃ k, i + 1 = k := ⟨_, rfl⟩
  rw [hk] at w1
  unfold zhq
  rw [hk]
  by_cases hlt : k < C.length
  · have hx : C[k]? = some C[k] := List.getElem?_eq_getElem hlt
    obtain ⟨x1, x2⟩ := hC C[k] (List.getElem_mem _)
    have w2 : IntKind.i64.wrap (C[k] - 1) = C[k] - 1 := zU (by omega) (by omega)
    (try ((first | with_reducible refine zh ?_ | with_reducible refine zm ?_ | with_reducible refine zo ?_); simp [inAV, iAV, w1, hlt, w2])); repeat' (first | ((first | refine zd ?_ | refine zg ?_ | refine dN (by decide +kernel) ?_ | (refine za ?_ ?_ <;> (intro hg; simp only [hg])) | fail) <;> simp [inAV, iAV, w1, hlt, w2]) | refine zf ?_ | refine zc ?_ | (refine zp ?_; simp only [zq]; try simp) | ((first | refine zl (by simp) ?_ | refine zx (by simp) (by simp) (by simp (maxDischargeDepth := 30) [inAV, iAV, w1, hlt, w2]) ?_ | fail); simp) | (refine zb (fun hc => ?_) (fun hc => ?_) <;> try simp at hc) | fail)
  · have hx : C[k]? = none := List.getElem?_eq_none (by omega)
    rw [hx]
    (try ((first | with_reducible refine zh ?_ | with_reducible refine zm ?_ | with_reducible refine zo ?_); simp [inAV, iAV, w1, hlt])); repeat' (first | ((first | refine zd ?_ | refine zg ?_ | refine dN (by decide +kernel) ?_ | (refine za ?_ ?_ <;> (intro hg; simp only [hg])) | fail) <;> simp [inAV, iAV, w1, hlt]) | refine zf ?_ | refine zc ?_ | (refine zp ?_; simp only [zq]; try simp) | ((first | refine zl (by simp) ?_ | refine zx (by simp) (by simp) (by simp (maxDischargeDepth := 30) [inAV, iAV, w1, hlt]) ?_ | fail); simp) | (refine zb (fun hc => ?_) (fun hc => ?_) <;> try simp at hc) | fail)
def zsa (z : List Rg) (f t : Int) : List Rg :=
  match z[z.length - 1]? with
  | some r => if r.hi + 1 = f then z.set (z.length - 1) ⟨r.lo, t⟩ else z ++ [⟨f, t⟩]
  | none => z ++ [⟨f, t⟩]
def zi8 (p : Int → Bool) (C : List Int) : Nat → List Rg
  | 0 => []
  | i + 1 => match C[i]? with
    | some c => if p c then zsa (zi8 p C i) c (zhq C i) else zi8 p C i
    | none => zi8 p C i
def ztv (how : Int) (p q : Bool) : Bool := (how == 1 && p && q) || (how == 2 && (p || q)) || (how == 3 && p && !q)
end Go.Proofs.YtanimmdlgmkmkaaGreat.Av.Zn
namespace Go.Proofs.YtanimmdlgmkmkaaGreat.Av
open Go
set_option linter.unusedSimpArgs false
set_option linter.unusedVariables false
set_option maxRecDepth 100000
set_option maxHeartbeats 4000000
set_option pp.maxSteps 600
theorem zsb (a b : Ru) : zas Tryz.prog 4 73 (zE a) (zE b) = some (decide (a = b)) := by
  have : decide (a = b) = (decide (a.id = b.id) && (decide (a.dev = b.dev) && (decide (a.prio = b.prio) && (decide (a.kind = b.kind) && (decide (a.r.lo = b.r.lo) && decide (a.r.hi = b.r.hi) && decide (a.port = b.port)))))) := by
    rcases a with ⟨a1, a2, a3, a4, ⟨a5, a6⟩, a7⟩; rcases b with ⟨b1, b2, b3, b4, ⟨b5, b6⟩, b7⟩
    rw [Bool.eq_iff_iff]; simp [and_assoc]
  rw [this]
  simp [zas, zch, zE, zbs, zdD]
theorem zfN (a b : Ru) : zae Tryz.prog .neq 73 (zE a) (zE b) = some (.raw (.bool (!decide (a = b)))) := by
  have e1 : ∀ x y : Ru, zae Tryz.prog .neq 73 (zE x) (zE y) = if Tryz.prog.eqGuardType Tryz.prog.depth 73 = false then (zas Tryz.prog 4 73 (zE x) (zE y)).bind fun b => (zbQ .neq b).map .raw else none := fun x y => rfl
  rw [e1, if_pos zrT, zsb]
  rfl
theorem zjB (x y : List Ru) (fx fy : Bool) (hl : x.length < 2 ^ 60) (hl2 : y.length < 2 ^ 60) : PCalls Tryz.prog 81 [zu x fx, zu y fy] (.raw (.bool (decide (x = y)))) := by
  refine zJ Tryz.func81 rfl (N := 26) rfl rfl (by simp) (by simp [noIds]) fun σ => ?_
  by_cases hlen : x.length = y.length
  · have hli : (x.length : Int) = (y.length : Int) := by omega
    (try ((first | with_reducible refine zh ?_ | with_reducible refine zm ?_ | with_reducible refine zo ?_); simp [zu, hlen, hli])); repeat' (first | ((first | refine zd ?_ | refine zg ?_ | refine dN (by decide +kernel) ?_ | (refine za ?_ ?_ <;> (intro hg; simp only [hg])) | fail) <;> simp [zu, hlen, hli]) | refine zf ?_ | refine zc ?_ | (refine zp ?_; simp only [zq]; try simp) | ((first | refine zl (by simp) ?_ | refine zx (by simp) (by simp) (by simp (maxDischargeDepth := 30) [zu, hlen, hli]) ?_ | fail); simp) | (refine zb (fun hc => ?_) (fun hc => ?_) <;> try simp at hc) | fail)
    refine zZ (fun n A τ => τ = σ ∧ A 0 = zu x fx ∧ A 1 = zu y fy ∧ ∃ i : Nat, A 5 = .raw (.int .i64 i) ∧ i ≤ y.length ∧ n = y.length - i ∧ x.take i = y.take i) y.length ?_ ?_
    · exact ⟨rfl, by simp [zu], by simp [zu], 0, by simp, by omega, by omega, by simp⟩
    rintro n A τ ⟨rfl, a0, a1, i, a5, hi, rfl, htk⟩ I1 hI1
    by_cases hlt : i < y.length
    · have hlx : i < x.length := by omega
      have hx : x[i]? = some x[i] := List.getElem?_eq_getElem hlx
      have hy : y[i]? = some y[i] := List.getElem?_eq_getElem hlt
      have w1 : IntKind.i64.wrap ((i : Int) + 1) = ((i + 1 : Nat) : Int) := by rw [zU (by omega) (by omega)]; omega
      by_cases he : x[i] = y[i]
      · skip
        (try ((first | with_reducible refine zh ?_ | with_reducible refine zm ?_ | with_reducible refine zo ?_); simp [zu, a0, a1, a5, hlt, hlx, hlen, hx, hy, zs, zA, zfN, zak, -zae, he, w1])); repeat' (first | ((first | refine zd ?_ | refine zg ?_ | refine dN (by decide +kernel) ?_ | (refine za ?_ ?_ <;> (intro hg; simp only [hg])) | fail) <;> simp [zu, a0, a1, a5, hlt, hlx, hlen, hx, hy, zs, zA, zfN, zak, -zae, he, w1]) | refine zf ?_ | refine zc ?_ | (refine zp ?_; simp only [zq]; try simp) | ((first | refine zl (by simp) ?_ | refine zx (by simp) (by simp) (by simp (maxDischargeDepth := 30) [zu, a0, a1, a5, hlt, hlx, hlen, hx, hy, zs, zA, zfN, zak, -zae, he, w1]) ?_ | fail); simp) | (refine zb (fun hc => ?_) (fun hc => ?_) <;> try simp at hc) | fail)
        all_goals exact hI1 (y.length - (i + 1)) _ _ (by omega) ⟨rfl, by simp [a0, zu], by simp [a1, zu], i + 1, by simp [w1], by omega, rfl, zjl htk hx (by rw [hy, he])⟩
      · skip
        (try ((first | with_reducible refine zh ?_ | with_reducible refine zm ?_ | with_reducible refine zo ?_); simp [zu, a0, a1, a5, hlt, hlx, hlen, hx, hy, zs, zA, zfN, zak, -zae, he, w1])); repeat' (first | ((first | refine zd ?_ | refine zg ?_ | refine dN (by decide +kernel) ?_ | (refine za ?_ ?_ <;> (intro hg; simp only [hg])) | fail) <;> simp [zu, a0, a1, a5, hlt, hlx, hlen, hx, hy, zs, zA, zfN, zak, -zae, he, w1]) | refine zf ?_ | refine zc ?_ | (refine zp ?_; simp only [zq]; try simp) | ((first | refine zl (by simp) ?_ | refine zx (by simp) (by simp) (by simp (maxDischargeDepth := 30) [zu, a0, a1, a5, hlt, hlx, hlen, hx, hy, zs, zA, zfN, zak, -zae, he, w1]) ?_ | fail); simp) | (refine zb (fun hc => ?_) (fun hc => ?_) <;> try simp at hc) | fail)
        all_goals (rintro rfl; exact he rfl)
    · have : i = y.length := by omega
      subst this
      have hxy : x = y := by
        rw [List.take_length, ← hlen, List.take_length] at htk; exact htk
      (try ((first | with_reducible refine zh ?_ | with_reducible refine zm ?_ | with_reducible refine zo ?_); simp [zu, a0, a1, a5, hlen])); repeat' (first | ((first | refine zd ?_ | refine zg ?_ | refine dN (by decide +kernel) ?_ | (refine za ?_ ?_ <;> (intro hg; simp only [hg])) | fail) <;> simp [zu, a0, a1, a5, hlen]) | refine zf ?_ | refine zc ?_ | (refine zp ?_; simp only [zq]; try simp) | ((first | refine zl (by simp) ?_ | refine zx (by simp) (by simp) (by simp (maxDischargeDepth := 30) [zu, a0, a1, a5, hlen]) ?_ | fail); simp) | (refine zb (fun hc => ?_) (fun hc => ?_) <;> try simp at hc) | fail)
      all_goals first | exact hxy | simp [hxy]
  · have hli : ¬ ((x.length : Int) = (y.length : Int)) := by omega
    (try ((first | with_reducible refine zh ?_ | with_reducible refine zm ?_ | with_reducible refine zo ?_); simp [zu, hlen, hli])); repeat' (first | ((first | refine zd ?_ | refine zg ?_ | refine dN (by decide +kernel) ?_ | (refine za ?_ ?_ <;> (intro hg; simp only [hg])) | fail) <;> simp [zu, hlen, hli]) | refine zf ?_ | refine zc ?_ | (refine zp ?_; simp only [zq]; try simp) | ((first | refine zl (by simp) ?_ | refine zx (by simp) (by simp) (by simp (maxDischargeDepth := 30) [zu, hlen, hli]) ?_ | fail); simp) | (refine zb (fun hc => ?_) (fun hc => ?_) <;> try simp at hc) | fail)
    all_goals (rintro rfl; exact hlen rfl)
theorem zky (x y : Tp) (fx fy : Fl) (h1 : x.ports.length < 2 ^ 60) (h2 : y.ports.length < 2 ^ 60) (h3 : x.links.length < 2 ^ 60) (h4 : y.links.length < 2 ^ 60) : PCalls Tryz.prog 68 [zat x fx, zat y fy] (.raw (.bool (decide (x = y)))) := by
  refine zJ Tryz.func68 rfl (N := 59) rfl rfl (by simp) (by simp [noIds]) fun σ => ?_
  have f2 : σ.m ⟨2, σ.nx 2, 2⟩ = none := zk _ _ _
  have f3 : σ.m ⟨3, σ.nx 3, 2⟩ = none := zk _ _ _
  refine zf ?_
  refine zg ?_
  simp [zO]
  refine zaf ⟨2, σ.nx 2, 2⟩ ?_
  refine zaf ⟨3, σ.nx 3, 2⟩ ?_
  generalize hτ : St.del _ _ = τ
  generalize hA : (fun t => zF _ _ _) = A
  have a2 : A 2 = .pp (zat x fx).cells 0 := by rw [← hA, ← hτ]; simp [zF, St.new, St.del, zO, ze]
  have a3 : A 3 = .pp (zat y fy).cells 0 := by rw [← hA, ← hτ]; simp [zF, St.new, St.del, zO, ze]
  have hE : Ext σ τ := by
    rw [← hτ]
    refine ⟨fun i o h => ?_, fun s => ?_⟩
    · have q2 : i ≠ ⟨2, σ.nx 2, 2⟩ := fun e => by rw [e, f2] at h; cases h
      have q3 : i ≠ ⟨3, σ.nx 3, 2⟩ := fun e => by rw [e, f3] at h; cases h
      simp [St.del, St.new, q2, q3, h]
    · simp only [St.del, St.new]
      repeat' split
      all_goals omega
  clear hτ hA
  have no : (¬ x.ports.length = y.ports.length ∨ ¬ x.links.length = y.links.length) → ¬ x = y := fun h e => by subst e; simp at h
  by_cases hlen : x.ports.length = y.ports.length
  · have hli : (x.ports.length : Int) = (y.ports.length : Int) := by omega
    by_cases hlen2 : x.links.length = y.links.length
    · have hli2 : (x.links.length : Int) = (y.links.length : Int) := by omega
      clear no
      (try ((first | with_reducible refine zh ?_ | with_reducible refine zm ?_ | with_reducible refine zo ?_); simp [-cellOK, zy, zw, a2, a3, zO, hlen, hli, hlen2, hli2])); repeat' (first | ((first | refine zd ?_ | refine zg ?_ | refine dN (by decide +kernel) ?_ | refine dC (by decide +kernel) ?_ | (refine za ?_ ?_ <;> (intro hg; simp only [hg])) | fail) <;> simp [-cellOK, zy, zw, a2, a3, zO, hlen, hli, hlen2, hli2]) | refine zf ?_ | refine zc ?_ | (refine zp ?_; simp only [zq]; try simp) | (refine zl (by simp) ?_; simp) | (refine zD (by simp) (by simp [noIds]) (by repeat (first | assumption | exact Ext.refl _ | refine zv ?_ | refine Ext.setF ?_ (by first | assumption | (simp [ze, St.set, zk]; done) | exact zt (by assumption)))) ?_; simp [-cellOK, zy, zw, a2, a3, zO, hlen, hli, hlen2, hli2, zS]) | (refine zb (fun hc => ?_) (fun hc => ?_) <;> try simp at hc) | fail)
      refine zc3 (fun B ρ => ρ = τ ∧ B 2 = .pp (zat x fx).cells 0 ∧ B 3 = .pp (zat y fy).cells 0 ∧ x.ports = y.ports) ?_ ?_
      · intro R1 hR1
        refine zZ (fun n B ρ => ρ = τ ∧ B 2 = .pp (zat x fx).cells 0 ∧ B 3 = .pp (zat y fy).cells 0 ∧ ∃ i : Nat, B 5 = .raw (.int .i64 i) ∧ i ≤ y.ports.length ∧ n = y.ports.length - i ∧ x.ports.take i = y.ports.take i) y.ports.length ?_ ?_
        · exact ⟨rfl, by simp [a2], by simp [a3], 0, by simp, by omega, by omega, by simp⟩
        rintro n B ρ ⟨rfl, a2, a3, i, a5, hi, rfl, htk⟩ I1 hI1
        by_cases hlt : i < y.ports.length
        · have hlx : i < x.ports.length := by omega
          have hx : x.ports[i]? = some x.ports[i] := List.getElem?_eq_getElem hlx
          have hy : y.ports[i]? = some y.ports[i] := List.getElem?_eq_getElem hlt
          have w1 : IntKind.i64.wrap ((i : Int) + 1) = ((i + 1 : Nat) : Int) := by rw [zU (by omega) (by omega)]; omega
          by_cases he : x.ports[i] = y.ports[i]
          · skip
            (try ((first | with_reducible refine zh ?_ | with_reducible refine zm ?_ | with_reducible refine zo ?_); simp [-cellOK, zO, zy, iAV, a2, a3, a5, hlt, hlx, hlen, hx, hy, zbJ, he, w1])); repeat' (first | ((first | refine zd ?_ | refine zg ?_ | refine dN (by decide +kernel) ?_ | refine dC (by decide +kernel) ?_ | (refine za ?_ ?_ <;> (intro hg; simp only [hg])) | fail) <;> simp [-cellOK, zO, zy, iAV, a2, a3, a5, hlt, hlx, hlen, hx, hy, zbJ, he, w1]) | refine zf ?_ | refine zc ?_ | (refine zp ?_; simp only [zq]; try simp) | (refine zl (by simp) ?_; simp) | (refine zD (by simp) (by simp [noIds]) (by repeat (first | assumption | exact Ext.refl _ | refine zv ?_ | refine Ext.setF ?_ (by first | assumption | (simp [ze, St.set, zk]; done) | exact zt (by assumption)))) ?_; simp [-cellOK, zO, zy, iAV, a2, a3, a5, hlt, hlx, hlen, hx, hy, zbJ, he, w1, zS]) | (refine zb (fun hc => ?_) (fun hc => ?_) <;> try simp at hc) | fail)
            all_goals exact hI1 (y.ports.length - (i + 1)) _ _ (by omega) ⟨rfl, by simp [a2], by simp [a3], i + 1, by simp [w1], by omega, rfl, zjl htk hx (by rw [hy, he])⟩
          · have hne : ¬ x = y := fun e => he (by subst e; rfl)
            (try ((first | with_reducible refine zh ?_ | with_reducible refine zm ?_ | with_reducible refine zo ?_); simp [-cellOK, zO, zy, iAV, a2, a3, a5, hlt, hlx, hlen, hx, hy, zbJ, he, w1, hne])); repeat' (first | ((first | refine zd ?_ | refine zg ?_ | refine dN (by decide +kernel) ?_ | refine dC (by decide +kernel) ?_ | (refine za ?_ ?_ <;> (intro hg; simp only [hg])) | fail) <;> simp [-cellOK, zO, zy, iAV, a2, a3, a5, hlt, hlx, hlen, hx, hy, zbJ, he, w1, hne]) | refine zf ?_ | refine zc ?_ | (refine zp ?_; simp only [zq]; try simp) | (refine zl (by simp) ?_; simp) | (refine zD (by simp) (by simp [noIds]) (by repeat (first | assumption | exact Ext.refl _ | refine zv ?_ | refine Ext.setF ?_ (by first | assumption | (simp [ze, St.set, zk]; done) | exact zt (by assumption)))) ?_; simp [-cellOK, zO, zy, iAV, a2, a3, a5, hlt, hlx, hlen, hx, hy, zbJ, he, w1, hne, zS]) | (refine zb (fun hc => ?_) (fun hc => ?_) <;> try simp at hc) | fail)
        · have : i = y.ports.length := by omega
          subst this
          have hxy : x.ports = y.ports := by
            rw [List.take_length, ← hlen, List.take_length] at htk; exact htk
          (try ((first | with_reducible refine zh ?_ | with_reducible refine zm ?_ | with_reducible refine zo ?_); simp [-cellOK, zO, zy, a2, a3, a5, hlen])); repeat' (first | ((first | refine zd ?_ | refine zg ?_ | refine dN (by decide +kernel) ?_ | refine dC (by decide +kernel) ?_ | (refine za ?_ ?_ <;> (intro hg; simp only [hg])) | fail) <;> simp [-cellOK, zO, zy, a2, a3, a5, hlen]) | refine zf ?_ | refine zc ?_ | (refine zp ?_; simp only [zq]; try simp) | (refine zl (by simp) ?_; simp) | (refine zD (by simp) (by simp [noIds]) (by repeat (first | assumption | exact Ext.refl _ | refine zv ?_ | refine Ext.setF ?_ (by first | assumption | (simp [ze, St.set, zk]; done) | exact zt (by assumption)))) ?_; simp [-cellOK, zO, zy, a2, a3, a5, hlen, zS]) | (refine zb (fun hc => ?_) (fun hc => ?_) <;> try simp at hc) | fail)
          all_goals exact hR1 _ _ ⟨rfl, by simp [a2], by simp [a3], hxy⟩
      · rintro B ρ ⟨rfl, a2, a3, hp⟩
        (try ((first | with_reducible refine zh ?_ | with_reducible refine zm ?_ | with_reducible refine zo ?_); simp [-cellOK, zy, zw, a2, a3, zO])); repeat' (first | ((first | refine zd ?_ | refine zg ?_ | refine dN (by decide +kernel) ?_ | refine dC (by decide +kernel) ?_ | (refine za ?_ ?_ <;> (intro hg; simp only [hg])) | fail) <;> simp [-cellOK, zy, zw, a2, a3, zO]) | refine zf ?_ | refine zc ?_ | (refine zp ?_; simp only [zq]; try simp) | (refine zl (by simp) ?_; simp) | (refine zD (by simp) (by simp [noIds]) (by repeat (first | assumption | exact Ext.refl _ | refine zv ?_ | refine Ext.setF ?_ (by first | assumption | (simp [ze, St.set, zk]; done) | exact zt (by assumption)))) ?_; simp [-cellOK, zy, zw, a2, a3, zO, zS]) | (refine zb (fun hc => ?_) (fun hc => ?_) <;> try simp at hc) | fail)
        refine zZ (fun n B π => π = ρ ∧ B 2 = .pp (zat x fx).cells 0 ∧ B 3 = .pp (zat y fy).cells 0 ∧ ∃ i : Nat, B 6 = .raw (.int .i64 i) ∧ i ≤ y.links.length ∧ n = y.links.length - i ∧ x.links.take i = y.links.take i) y.links.length ?_ ?_
        · exact ⟨rfl, by simp [a2], by simp [a3], 0, by simp, by omega, by omega, by simp⟩
        rintro n B π ⟨rfl, a2, a3, i, a6, hi, rfl, htk⟩ I1 hI1
        by_cases hlt : i < y.links.length
        · have hlx : i < x.links.length := by omega
          have hx : x.links[i]? = some x.links[i] := List.getElem?_eq_getElem hlx
          have hy : y.links[i]? = some y.links[i] := List.getElem?_eq_getElem hlt
          have w1 : IntKind.i64.wrap ((i : Int) + 1) = ((i + 1 : Nat) : Int) := by rw [zU (by omega) (by omega)]; omega
          have fx_ : AV.agg [.raw (.int .i64 x.links[i].a.dev), .raw (.int .i64 x.links[i].a.port), .raw (.int .i64 x.links[i].b.dev), .raw (.int .i64 x.links[i].b.port)] = zbU x.links[i] := rfl
          have fy_ : AV.agg [.raw (.int .i64 y.links[i].a.dev), .raw (.int .i64 y.links[i].a.port), .raw (.int .i64 y.links[i].b.dev), .raw (.int .i64 y.links[i].b.port)] = zbU y.links[i] := rfl
          by_cases he : x.links[i] = y.links[i]
          · skip
            (try ((first | with_reducible refine zh ?_ | with_reducible refine zm ?_ | with_reducible refine zo ?_); simp [-cellOK, zO, zw, a2, a3, a6, hlt, hlx, hlen2, hx, hy, zbq, fx_, fy_, zfI, zak, -zae, he, w1])); repeat' (first | ((first | refine zd ?_ | refine zg ?_ | refine dN (by decide +kernel) ?_ | refine dC (by decide +kernel) ?_ | (refine za ?_ ?_ <;> (intro hg; simp only [hg])) | fail) <;> simp [-cellOK, zO, zw, a2, a3, a6, hlt, hlx, hlen2, hx, hy, zbq, fx_, fy_, zfI, zak, -zae, he, w1]) | refine zf ?_ | refine zc ?_ | (refine zp ?_; simp only [zq]; try simp) | (refine zl (by simp) ?_; simp) | (refine zD (by simp) (by simp [noIds]) (by repeat (first | assumption | exact Ext.refl _ | refine zv ?_ | refine Ext.setF ?_ (by first | assumption | (simp [ze, St.set, zk]; done) | exact zt (by assumption)))) ?_; simp [-cellOK, zO, zw, a2, a3, a6, hlt, hlx, hlen2, hx, hy, zbq, fx_, fy_, zfI, zak, -zae, he, w1, zS]) | (refine zb (fun hc => ?_) (fun hc => ?_) <;> try simp at hc) | fail)
            all_goals exact hI1 (y.links.length - (i + 1)) _ _ (by omega) ⟨rfl, by simp [a2], by simp [a3], i + 1, by simp [w1], by omega, rfl, zjl htk hx (by rw [hy, he])⟩
          · have hne : ¬ x = y := fun e => he (by subst e; rfl)
            (try ((first | with_reducible refine zh ?_ | with_reducible refine zm ?_ | with_reducible refine zo ?_); simp [-cellOK, zO, zw, a2, a3, a6, hlt, hlx, hlen2, hx, hy, zbq, fx_, fy_, zfI, zak, -zae, he, w1, hne])); repeat' (first | ((first | refine zd ?_ | refine zg ?_ | refine dN (by decide +kernel) ?_ | refine dC (by decide +kernel) ?_ | (refine za ?_ ?_ <;> (intro hg; simp only [hg])) | fail) <;> simp [-cellOK, zO, zw, a2, a3, a6, hlt, hlx, hlen2, hx, hy, zbq, fx_, fy_, zfI, zak, -zae, he, w1, hne]) | refine zf ?_ | refine zc ?_ | (refine zp ?_; simp only [zq]; try simp) | (refine zl (by simp) ?_; simp) | (refine zD (by simp) (by simp [noIds]) (by repeat (first | assumption | exact Ext.refl _ | refine zv ?_ | refine Ext.setF ?_ (by first | assumption | (simp [ze, St.set, zk]; done) | exact zt (by assumption)))) ?_; simp [-cellOK, zO, zw, a2, a3, a6, hlt, hlx, hlen2, hx, hy, zbq, fx_, fy_, zfI, zak, -zae, he, w1, hne, zS]) | (refine zb (fun hc => ?_) (fun hc => ?_) <;> try simp at hc) | fail)
        · have : i = y.links.length := by omega
          subst this
          have hxy : x.links = y.links := by
            rw [List.take_length, ← hlen2, List.take_length] at htk; exact htk
          have hall : x = y := by cases x; cases y; simp only [Tp.mk.injEq]; exact ⟨hp, hxy⟩
          (try ((first | with_reducible refine zh ?_ | with_reducible refine zm ?_ | with_reducible refine zo ?_); simp [-cellOK, zO, zw, a2, a3, a6, hlen2, hall])); repeat' (first | ((first | refine zd ?_ | refine zg ?_ | refine dN (by decide +kernel) ?_ | refine dC (by decide +kernel) ?_ | (refine za ?_ ?_ <;> (intro hg; simp only [hg])) | fail) <;> simp [-cellOK, zO, zw, a2, a3, a6, hlen2, hall]) | refine zf ?_ | refine zc ?_ | (refine zp ?_; simp only [zq]; try simp) | (refine zl (by simp) ?_; simp) | (refine zD (by simp) (by simp [noIds]) (by repeat (first | assumption | exact Ext.refl _ | refine zv ?_ | refine Ext.setF ?_ (by first | assumption | (simp [ze, St.set, zk]; done) | exact zt (by assumption)))) ?_; simp [-cellOK, zO, zw, a2, a3, a6, hlen2, hall, zS]) | (refine zb (fun hc => ?_) (fun hc => ?_) <;> try simp at hc) | fail)
    · have hli2 : ¬ (x.links.length : Int) = (y.links.length : Int) := by omega
      have no := no (.inr hlen2)
      (try ((first | with_reducible refine zh ?_ | with_reducible refine zm ?_ | with_reducible refine zo ?_); simp [-cellOK, zy, zw, a2, a3, zO, hlen, hli, hlen2, hli2, no])); repeat' (first | ((first | refine zd ?_ | refine zg ?_ | refine dN (by decide +kernel) ?_ | refine dC (by decide +kernel) ?_ | (refine za ?_ ?_ <;> (intro hg; simp only [hg])) | fail) <;> simp [-cellOK, zy, zw, a2, a3, zO, hlen, hli, hlen2, hli2, no]) | refine zf ?_ | refine zc ?_ | (refine zp ?_; simp only [zq]; try simp) | (refine zl (by simp) ?_; simp) | (refine zD (by simp) (by simp [noIds]) (by repeat (first | assumption | exact Ext.refl _ | refine zv ?_ | refine Ext.setF ?_ (by first | assumption | (simp [ze, St.set, zk]; done) | exact zt (by assumption)))) ?_; simp [-cellOK, zy, zw, a2, a3, zO, hlen, hli, hlen2, hli2, no, zS]) | (refine zb (fun hc => ?_) (fun hc => ?_) <;> try simp at hc) | fail)
  · have hli : ¬ (x.ports.length : Int) = (y.ports.length : Int) := by omega
    have no := no (.inl hlen)
    (try ((first | with_reducible refine zh ?_ | with_reducible refine zm ?_ | with_reducible refine zo ?_); simp [-cellOK, zy, zw, a2, a3, zO, hlen, hli, no])); repeat' (first | ((first | refine zd ?_ | refine zg ?_ | refine dN (by decide +kernel) ?_ | refine dC (by decide +kernel) ?_ | (refine za ?_ ?_ <;> (intro hg; simp only [hg])) | fail) <;> simp [-cellOK, zy, zw, a2, a3, zO, hlen, hli, no]) | refine zf ?_ | refine zc ?_ | (refine zp ?_; simp only [zq]; try simp) | (refine zl (by simp) ?_; simp) | (refine zD (by simp) (by simp [noIds]) (by repeat (first | assumption | exact Ext.refl _ | refine zv ?_ | refine Ext.setF ?_ (by first | assumption | (simp [ze, St.set, zk]; done) | exact zt (by assumption)))) ?_; simp [-cellOK, zy, zw, a2, a3, zO, hlen, hli, no, zS]) | (refine zb (fun hc => ?_) (fun hc => ?_) <;> try simp at hc) | fail)
end Go.Proofs.YtanimmdlgmkmkaaGreat.Av
namespace Go.Proofs.YtanimmdlgmkmkaaGreat.Av.Zn
set_option linter.unusedSimpArgs false
set_option linter.unusedVariables false
theorem zmx (all : List Int) : ∀ (n : Nat) (last : Int), zbA all last ≤ n →
    (∀ c ∈ cutsFrom all n last, c ∈ all ∧ last < c ∧ c < 4294967296) ∧
    (∀ a ∈ all, last < a → a < 4294967296 → ∃ d, (cutsFrom all n last)[0]? = some d ∧ d ≤ a) ∧
    (∀ (i : Nat) (c : Int), (cutsFrom all n last)[i]? = some c → ∀ a ∈ all, c < a → a < 4294967296 → ∃ d, (cutsFrom all n last)[i + 1]? = some d ∧ d ≤ a) ∧
    (∀ (i : Nat) (c d : Int), (cutsFrom all n last)[i]? = some c → (cutsFrom all n last)[i + 1]? = some d → c < d)
  | 0, last, h => by
    refine ⟨(fun c hc => by simp [cutsFrom] at hc), fun a ha h1 h2 => ?_, (fun i c hc => by simp [cutsFrom] at hc), (fun i c d hc => by simp [cutsFrom] at hc)⟩
    have : 0 < zbA all last := by
      unfold zbA
      exact List.length_pos_of_mem (List.mem_filter.2 ⟨ha, by simp [h1, h2]⟩)
    omega
  | n + 1, last, h => by
    obtain ⟨n1, n2, n3⟩ := zi7 all last
    unfold cutsFrom
    by_cases hx : nextCut all last ≤ 4294967295
    · rw [if_pos hx]
      have hlt := zd3 hx
      have n1 := n1.resolve_left (by omega)
      obtain ⟨h1, h2, h3, h4⟩ := zmx all n (nextCut all last) (by omega)
      generalize nextCut all last = x at *
      refine ⟨fun c hc => ?_, fun a ha q1 q2 => ⟨x, rfl, n3 a ha q1⟩, fun i c hc a ha q1 q2 => ?_, fun i c d hc hd => ?_⟩
      · rcases List.mem_cons.1 hc with rfl | hc
        · exact n1
        · have := h1 c hc; exact ⟨this.1, by omega, this.2.2⟩
      · cases i with
        | zero => simp at hc; subst hc; simpa using h2 a ha q1 q2
        | succ i => simpa using h3 i c (by simpa using hc) a ha q1 q2
      · cases i with
        | zero =>
          simp at hc; subst hc
          have := h1 d (List.mem_of_getElem? (by simpa using hd))
          exact this.2.1
        | succ i => exact h4 i c d (by simpa using hc) (by simpa using hd)
    · rw [if_neg hx]
      refine ⟨(fun c hc => by cases hc), fun a ha q1 q2 => ?_, (fun i c hc => by simp at hc), (fun i c d hc => by simp at hc)⟩
      have := n3 a ha q1; omega
theorem cutsAll_mem {l : List Rg} {a : Int} : a ∈ cutsAll l ↔ a = 0 ∨ ∃ r ∈ l, a = r.lo ∨ a = r.hi + 1 := by
  unfold cutsAll; simp
structure Cuts (l : List Rg) (C : List Int) : Prop where
  rng : ∀ c ∈ C, 0 ≤ c ∧ c < 4294967296
  zero : C[0]? = some 0
  up : ∀ (i : Nat) (c d : Int), C[i]? = some c → C[i + 1]? = some d → c < d
  full : ∀ (i : Nat) (c : Int), C[i]? = some c → ∀ a ∈ cutsAll l, c < a → a < 4294967296 → ∃ d, C[i + 1]? = some d ∧ d ≤ a
theorem cuts_of (l : List Rg) (hz : InZ l) : Cuts l (cutsOf l) := by
  obtain ⟨h1, h2, h3, h4⟩ := zmx (cutsAll l) (zbA (cutsAll l) (-1)) (-1) (Nat.le_refl _)
  have hr : ∀ c ∈ cutsOf l, 0 ≤ c ∧ c < 4294967296 := fun c hc => by have := h1 c hc; omega
  refine ⟨hr, ?_, h4, h3⟩
  obtain ⟨d, hd, hle⟩ := h2 0 (cutsAll_mem.2 (.inl rfl)) (by omega) (by omega)
  have := hr d (List.mem_of_getElem? hd)
  rw [show (cutsOf l)[0]? = some d from hd, show d = 0 by omega]
def zha (C : List Int) (i : Nat) : Int := match C[i]? with | some c => c | none => 4294967296
theorem zi9 (C : List Int) (i : Nat) : zhq C i = zha C (i + 1) - 1 := by
  unfold zhq zha
  cases C[i + 1]? <;> simp
theorem Cuts.hasB {l m : List Rg} {C : List Int} (h : Cuts l C) (hm : ∀ r ∈ m, r ∈ l) (hz : InZ m) {i : Nat} {c a : Int} (hc : C[i]? = some c) (h1 : c ≤ a) (h2 : a ≤ zhq C i) : hasB m a = hasB m c := by
  have no : ∀ x ∈ cutsAll l, ¬ (c < x ∧ x ≤ a) := fun x hx k => by
    have ha : a < 4294967296 := by
      rw [zi9] at h2
      have : zha C (i + 1) ≤ 4294967296 := by
        unfold zha; split
        · rename_i d hd; have := h.rng d (List.mem_of_getElem? hd); omega
        · omega
      omega
    obtain ⟨d, hd, hle⟩ := h.full i c hc x hx k.1 (by omega)
    rw [zi9] at h2
    unfold zha at h2
    rw [hd] at h2
    simp only [] at h2
    omega
  unfold Zn.hasB
  rw [Bool.eq_iff_iff, List.any_eq_true, List.any_eq_true]
  have hc0 := h.rng c (List.mem_of_getElem? hc)
  constructor
  · rintro ⟨r, hr, k⟩
    refine ⟨r, hr, ?_⟩
    simp only [Bool.and_eq_true, decide_eq_true_eq] at k ⊢
    have n1 := no r.lo (cutsAll_mem.2 (.inr ⟨r, hm r hr, .inl rfl⟩))
    omega
  · rintro ⟨r, hr, k⟩
    refine ⟨r, hr, ?_⟩
    simp only [Bool.and_eq_true, decide_eq_true_eq] at k ⊢
    have n1 := no (r.hi + 1) (cutsAll_mem.2 (.inr ⟨r, hm r hr, .inr rfl⟩))
    omega
def zwh (l : List Rg) : List Rg := zi8 (hasB l) (cutsOf l) (cutsOf l).length
def ztw (how : Int) (x y : List Rg) : List Rg := zi8 (fun a => ztv how (hasB x a) (hasB y a)) (cutsOf (x ++ y)) (cutsOf (x ++ y)).length
end Go.Proofs.YtanimmdlgmkmkaaGreat.Av.Zn
namespace Go.Proofs.YtanimmdlgmkmkaaGreat.Av
open Go
set_option linter.unusedSimpArgs false
set_option linter.unusedVariables false
set_option maxRecDepth 100000
set_option maxHeartbeats 4000000
set_option pp.maxSteps 600
theorem zmh (all : List Int) (last : Int) : Zn.nextCut all last = 4294967296 ∨ Zn.nextCut all last ∈ all := by
  unfold Zn.nextCut
  have key : ∀ (l : List Int) (n : Int), l.foldl (fun next a => if last < a ∧ a < next then a else next) n = n ∨ l.foldl (fun next a => if last < a ∧ a < next then a else next) n ∈ l := by
    intro l
    induction l with
    | nil => intro n; exact .inl rfl
    | cons x l ih =>
      intro n
      rw [List.foldl_cons]
      rcases ih (if last < x ∧ x < n then x else n) with h | h
      · rw [h]
        split
        · exact .inr (by simp)
        · exact .inl rfl
      · exact .inr (List.mem_cons_of_mem _ h)
  exact key all _
theorem zhb (all : List Int) : ∀ (n : Nat) (last : Int), ∀ c ∈ Zn.cutsFrom all n last, c ∈ all
  | 0, _, c, h => by simp [Zn.cutsFrom] at h
  | n + 1, last, c, h => by
    unfold Zn.cutsFrom at h
    split at h
    · rename_i hle
      rcases List.mem_cons.1 h with rfl | h
      · rcases zmh all last with e | e
        · omega
        · exact e
      · exact zhb all n _ c h
    · simp at h
theorem zn5 {l : List Rg} (h : ∀ r ∈ l, RgOK r) : Zn.cutsOf l = zaE l := by
  have hz : Zn.InZ l := fun r hr => ⟨(h r hr).lo0, (h r hr).lo1, (h r hr).hi0, (h r hr).hi1⟩
  have hC := Zn.cuts_of l hz
  have hsub : ∀ c ∈ Zn.cutsOf l, c ∈ Zn.cutsAll l := zhb _ _ _
  have hL := zbn l
  have hup : (Zn.cutsOf l).Pairwise (· < ·) := by
    have key : ∀ (C : List Int), (∀ (i : Nat) (c d : Int), C[i]? = some c → C[i + 1]? = some d → c < d) → C.Pairwise (· < ·) := by
      intro C
      induction C with
      | nil => intro _; exact .nil
      | cons x C ih =>
        intro hu
        have ih := ih fun i c d h1 h2 => hu (i + 1) c d (by simpa using h1) (by simpa using h2)
        refine List.pairwise_cons.2 ⟨fun y hy => ?_, ih⟩
        cases C with
        | nil => simp at hy
        | cons z C =>
          have h0 := hu 0 x z rfl rfl
          rcases List.mem_cons.1 hy with rfl | hy
          · exact h0
          · have := (List.pairwise_cons.1 ih).1 y hy
            omega
    exact key _ hC.up
  refine zft hup hL.srt fun x => ?_
  rw [hL.mem]
  constructor
  · intro hx
    have h1 := hsub x hx
    have h2 := hC.rng x hx
    rcases Zn.cutsAll_mem.1 h1 with rfl | ⟨r, hr, e⟩
    · exact .inl rfl
    · refine .inr ⟨r, hr, ?_⟩
      unfold zbF
      rcases e with rfl | rfl
      · split <;> simp
      · rw [if_pos (by omega)]; simp
  · intro hx
    have hin : x ∈ Zn.cutsAll l ∧ 0 ≤ x ∧ x < 4294967296 := by
      rcases hx with rfl | ⟨r, hr, e⟩
      · exact ⟨Zn.cutsAll_mem.2 (.inl rfl), by omega, by omega⟩
      · obtain ⟨a1, a2, a3, a4⟩ := h r hr
        unfold zbF at e
        split at e
        · simp only [List.mem_cons, List.not_mem_nil, or_false] at e
          rcases e with rfl | rfl
          · exact ⟨Zn.cutsAll_mem.2 (.inr ⟨r, hr, .inl rfl⟩), by omega, by omega⟩
          · exact ⟨Zn.cutsAll_mem.2 (.inr ⟨r, hr, .inr rfl⟩), by omega, by omega⟩
        · simp only [List.mem_cons, List.not_mem_nil, or_false] at e
          subst e
          exact ⟨Zn.cutsAll_mem.2 (.inr ⟨r, hr, .inl rfl⟩), by omega, by omega⟩
    obtain ⟨h1, h2, h3⟩ := hin
    have step : ∀ k, k ≤ (Zn.cutsOf l).length → x ∈ Zn.cutsOf l ∨ ∀ i, i < k → ∀ c, (Zn.cutsOf l)[i]? = some c → c < x := by
      intro k
      induction k with
      | zero => intro _; exact .inr fun i hi => by omega
      | succ k ih =>
        intro hk
        rcases ih (by omega) with hm | hb
        · exact .inl hm
        · have hc : (Zn.cutsOf l)[k]? = some (Zn.cutsOf l)[k] := List.getElem?_eq_getElem (by omega)
          by_cases e : (Zn.cutsOf l)[k] = x
          · exact .inl (e ▸ List.getElem_mem _)
          · by_cases hlt : (Zn.cutsOf l)[k] < x
            · refine .inr fun i hi c hi2 => ?_
              by_cases e2 : i = k
              · subst e2; rw [hc] at hi2; injection hi2 with hi2; omega
              · exact hb i (by omega) c hi2
            · left
              cases k with
              | zero =>
                have h0 := hC.zero
                rw [hc] at h0
                injection h0 with h0
                omega
              | succ j =>
                have hj : (Zn.cutsOf l)[j]? = some (Zn.cutsOf l)[j] := List.getElem?_eq_getElem (by omega)
                have hlj := hb j (by omega) _ hj
                obtain ⟨d, hd, hle⟩ := hC.full j _ hj x h1 hlj h3
                rw [hc] at hd
                injection hd with hd
                omega
    rcases step _ (Nat.le_refl _) with hm | hb
    · exact hm
    · exfalso
      have hne : 0 < (Zn.cutsOf l).length := (List.getElem?_eq_some_iff.1 hC.zero).1
      have hlast : (Zn.cutsOf l)[(Zn.cutsOf l).length - 1]? = some (Zn.cutsOf l)[(Zn.cutsOf l).length - 1] := List.getElem?_eq_getElem (by omega)
      have hlt := hb _ (by omega) _ hlast
      obtain ⟨d, hd, _⟩ := hC.full _ _ hlast x h1 hlt h3
      have := (List.getElem?_eq_some_iff.1 hd).1
      omega
theorem zkz (l : List Rg) (f : Bool) (hz : ∀ r ∈ l, RgOK r) (hl : l.length < 2 ^ 30) : PCalls Tryz.prog 113 [zbV l f] (zy (zaE l) false) := by
  have := Zn.cuts_calls l f (fun r hr => ⟨(hz r hr).lo0, (hz r hr).lo1, (hz r hr).hi0, (hz r hr).hi1⟩) hl
  rw [zn5 hz] at this
  exact this
def zic (c : List Int) (i : Nat) : Int := match c[i + 1]? with | some y => y - 1 | none => 4294967295
theorem zlF (c : List Int) (f : Bool) (i : Nat) (hl : c.length < 2 ^ 60) (hi : i < 2 ^ 60) (hC : ∀ x ∈ c, 0 ≤ x ∧ x ≤ 4294967296) : PCalls Tryz.prog 114 [zy c f, .raw (.int .i64 i)] (.raw (.int .i64 (zic c i))) := Zn.end_calls c f i hl hi hC
theorem zn6 (c : List Int) (i : Nat) : (za8 c)[i]? = (c[i]?).map fun x => ⟨x, zic c i⟩ := zc6 c i
end Go.Proofs.YtanimmdlgmkmkaaGreat.Av
namespace Go.Proofs.YtanimmdlgmkmkaaGreat.Av
open Go
set_option linter.unusedSimpArgs false
set_option linter.unusedVariables false
set_option maxRecDepth 100000
set_option maxHeartbeats 4000000
set_option pp.maxSteps 600
theorem zja (n : Nw) (f : Fl) (hl : n.rules.length < 2 ^ 40) : PCalls Tryz.prog 112 [z7 n f] (zbV (zaO n) false) := by
  refine zJ Tryz.func112 rfl (N := 22) rfl rfl (by simp) (zjq _ _ _) fun σ => ?_
  have f1 : σ.m ⟨1, σ.nx 1, 3⟩ = none := zk _ _ _
  refine zf ?_
  refine zg ?_
  simp [zr]
  refine zaf ⟨1, σ.nx 1, 3⟩ ?_
  generalize hτ : St.del _ _ = τ
  generalize hA : (fun t => zF _ _ _) = A
  have a1 : A 1 = .pp (z7 n f).cells 0 := by rw [← hA, ← hτ]; simp [zF, St.new, St.del, zr]
  have hE : Ext σ τ := by
    rw [← hτ]
    refine ⟨fun i o h => ?_, fun s => ?_⟩
    · have q2 : i ≠ ⟨1, σ.nx 1, 3⟩ := fun e => by rw [e, f1] at h; cases h
      simp [St.del, St.new, q2, h]
    · simp only [St.del, St.new]
      repeat' split
      all_goals omega
  clear hτ hA
  (try ((first | with_reducible refine zh ?_ | with_reducible refine zm ?_ | with_reducible refine zo ?_); simp [-cellOK, zr, a1])); repeat' (first | ((first | refine zd ?_ | refine zg ?_ | refine dN (by decide +kernel) ?_ | refine dC (by decide +kernel) ?_ | (refine za ?_ ?_ <;> (intro hg; simp only [hg])) | fail) <;> simp [-cellOK, zr, a1]) | refine zf ?_ | refine zc ?_ | (refine zp ?_; simp only [zq]; try simp) | (refine zl (by simp) ?_; simp) | (refine zD (by simp) (by simp [noIds]) (by repeat (first | assumption | exact Ext.refl _ | refine zv ?_ | refine Ext.setF ?_ (by first | assumption | (simp [ze, St.set, zk]; done) | exact zt (by assumption)))) ?_; simp [-cellOK, zr, a1, zS]) | (refine zb (fun hc => ?_) (fun hc => ?_) <;> try simp at hc) | fail)
  refine zZ (fun n' B ρ => Ext σ ρ ∧ B 1 = .pp (z7 n f).cells 0 ∧ ∃ (i : Nat) (v : AV), B 4 = .raw (.int .i64 i) ∧ i ≤ n.rules.length ∧ n' = n.rules.length - i ∧ B 3 = v ∧ OwnL σ ρ 2 v ((zaO n).take i |>.map zau)) n.rules.length ?_ ?_
  · exact ⟨hE, by simp [a1], 0, .sl 0 [] true, by simp, by omega, by omega, by simp, .inl ⟨by simp, rfl⟩⟩
  clear a1 hE
  rintro n' B ρ ⟨hE, a1, i, v, a4, hi, rfl, a3, hO⟩ I1 hI1
  by_cases hlt : i < n.rules.length
  · have hx : n.rules[i]? = some n.rules[i] := List.getElem?_eq_getElem hlt
    have w1 : IntKind.i64.wrap ((i : Int) + 1) = ((i + 1 : Nat) : Int) := by rw [zU (by omega) (by omega)]; omega
    obtain ⟨x, hxe⟩ : ∃ x, n.rules[i] = x := ⟨_, rfl⟩
    have hxr : AV.agg [.raw (.int .u32 x.r.lo), .raw (.int .u32 x.r.hi)] = zau x.r := rfl
    have htk : (zaO n).take (i + 1) = (zaO n).take i ++ [x.r] := by
      unfold zaO
      rw [List.take_add_one, List.getElem?_map, hx, hxe]; rfl
    (try ((first | with_reducible refine zh ?_ | with_reducible refine zm ?_ | with_reducible refine zo ?_); simp [-cellOK, zr, zu, a1, a3, a4, hlt, hx, hxe, zs, hxr, zT, zz, zB, ze, -zG])); repeat' (first | ((first | refine zd ?_ | refine zg ?_ | refine dN (by decide +kernel) ?_ | refine dC (by decide +kernel) ?_ | (refine za ?_ ?_ <;> (intro hg; simp only [hg])) | fail) <;> simp [-cellOK, zr, zu, a1, a3, a4, hlt, hx, hxe, zs, hxr, zT, zz, zB, ze, -zG]) | refine zf ?_ | refine zc ?_ | (refine zp ?_; simp only [zq]; try simp) | (refine zb (fun hc => ?_) (fun hc => ?_) <;> try simp at hc) | fail)
    refine zal zpd (σ0 := σ) (hO.ext (by repeat (first | assumption | exact Ext.refl _ | refine zv ?_ | refine Ext.setF ?_ (by first | assumption | (simp [ze, St.set, zk]; done) | exact zt (by assumption))))) (by repeat (first | assumption | exact Ext.refl _ | refine zv ?_ | refine Ext.setF ?_ (by first | assumption | (simp [ze, St.set, zk]; done) | exact zt (by assumption)))) (ys := [zau x.r]) (by simp [zz, ze, zT, zau]) (.inr rfl) (by simp [zau, zM, z8, cellOK, AV.cells]) (by simp; omega) ?_
    intro v' τ' hO' hE' _ _
    (try ((first | with_reducible refine zh ?_ | with_reducible refine zm ?_ | with_reducible refine zo ?_); simp [-cellOK, a1, a3, a4, w1])); repeat' (first | ((first | refine zd ?_ | refine zg ?_ | refine dN (by decide +kernel) ?_ | refine dC (by decide +kernel) ?_ | (refine za ?_ ?_ <;> (intro hg; simp only [hg])) | fail) <;> simp [-cellOK, a1, a3, a4, w1]) | refine zf ?_ | refine zc ?_ | (refine zp ?_; simp only [zq]; try simp) | (refine zl (by simp) ?_; simp) | (refine zD (by simp) (by simp [noIds]) (by repeat (first | assumption | exact Ext.refl _ | refine zv ?_ | refine Ext.setF ?_ (by first | assumption | (simp [ze, St.set, zk]; done) | exact zt (by assumption)))) ?_; simp [-cellOK, a1, a3, a4, w1, zS]) | (refine zb (fun hc => ?_) (fun hc => ?_) <;> try simp at hc) | fail)
    refine hI1 (n.rules.length - (i + 1)) _ _ (by omega) ⟨hE', by simp [a1], i + 1, v', by simp, by omega, rfl, by simp, ?_⟩
    rw [htk, List.map_append]
    exact hO'
  · have : i = n.rules.length := by omega
    subst this
    rw [List.take_of_length_le (by unfold zaO; simp)] at hO
    (try ((first | with_reducible refine zh ?_ | with_reducible refine zm ?_ | with_reducible refine zo ?_); simp [-cellOK, zr, zu, a1, a3, a4])); repeat' (first | ((first | refine zd ?_ | refine zg ?_ | refine dN (by decide +kernel) ?_ | refine dC (by decide +kernel) ?_ | (refine za ?_ ?_ <;> (intro hg; simp only [hg])) | fail) <;> simp [-cellOK, zr, zu, a1, a3, a4]) | refine zf ?_ | refine zc ?_ | (refine zp ?_; simp only [zq]; try simp) | (refine zb (fun hc => ?_) (fun hc => ?_) <;> try simp at hc) | fail)
    exact zbX (v := v) (.inr rfl) (by simp) hO hE
theorem zid (l : List Rg) (f : Bool) (hz : ∀ r ∈ l, RgOK r) (hl : l.length < 2 ^ 30) : PCalls Tryz.prog 135 [zbV l f] (zbV (za8 (zaE l)) false) := by
  have hc := zkz l f hz hl
  have hrg : ∀ x ∈ zaE l, 0 ≤ x ∧ x < 4294967296 := fun x hx => (zbn l).range hz hx
  have hcl : (zaE l).length ≤ 1 + 2 * l.length := by
    have hcc := zbn l
    have := zdZ (m := 0 :: zb6 l) (hcc.srt.imp fun h => by omega) fun x hx => by
      rw [List.mem_cons]; simp only [zb6, List.mem_flatMap]; exact (hcc.mem x).1 hx
    have := zek l
    simp only [List.length_cons] at *
    omega
  have he := fun (i : Nat) (h : i < 2 ^ 60) => zlF (zaE l) false i (by omega) h fun x hx => by have := hrg x hx; omega
  have hs := (zbn l).srt
  generalize zaE l = c at *
  refine zJ Tryz.func135 rfl (N := 28) rfl rfl (by simp) (zjq _ _ _) fun σ => ?_
  (try ((first | with_reducible refine zh ?_ | with_reducible refine zm ?_ | with_reducible refine zo ?_); simp [-cellOK])); repeat' (first | ((first | refine zd ?_ | refine zg ?_ | refine dN (by decide +kernel) ?_ | refine dC (by decide +kernel) ?_ | refine uP (hc) ?_ | refine .inl ⟨_, .inl (hc), ?_⟩ | (refine za ?_ ?_ <;> (intro hg; simp only [hg])) | fail) <;> simp [-cellOK]) | refine zf ?_ | refine zc ?_ | (refine zp ?_; simp only [zq]; try simp) | (refine zl (by simp) ?_; simp) | (refine zD (by simp) (by simp [noIds]) (by repeat (first | assumption | exact Ext.refl _ | refine zv ?_ | refine Ext.setF ?_ (by first | assumption | (simp [ze, St.set, zk]; done) | exact zt (by assumption)))) ?_; simp [-cellOK, zS]) | (refine zb (fun hc => ?_) (fun hc => ?_) <;> try simp at hc) | fail)
  refine zZ (fun n' B ρ => Ext σ ρ ∧ B 3 = zy c false ∧ ∃ (i : Nat) (v : AV), B 5 = .raw (.int .i64 i) ∧ i ≤ c.length ∧ n' = c.length - i ∧ B 4 = v ∧ OwnL σ ρ 2 v ((za8 c).take i |>.map zau)) c.length ?_ ?_
  · exact ⟨Ext.refl _, by simp, 0, .sl 0 [] true, by simp, by omega, by omega, by simp, .inl ⟨by simp, rfl⟩⟩
  rintro n' B ρ ⟨hE, a3, i, v, a5, hi, rfl, a4, hO⟩ I1 hI1
  by_cases hlt : i < c.length
  · have hx : c[i]? = some c[i] := List.getElem?_eq_getElem hlt
    have w1 : IntKind.i64.wrap ((i : Int) + 1) = ((i + 1 : Nat) : Int) := by rw [zU (by omega) (by omega)]; omega
    have hend := he i (by omega)
    have hxr := hrg c[i] (List.getElem_mem hlt)
    obtain ⟨x, hxe⟩ : ∃ x, c[i] = x := ⟨_, rfl⟩
    rw [hxe] at hxr
    have hyr : 0 ≤ zic c i ∧ zic c i < 4294967296 := by
      unfold zic
      cases hy : c[i + 1]? with
      | none => simp only; omega
      | some y =>
        obtain ⟨h2, rfl⟩ := List.getElem?_eq_some_iff.1 hy
        have := hrg c[i + 1] (List.getElem_mem h2)
        simp only
        have h3 := List.pairwise_iff_getElem.1 hs i (i + 1) hlt h2 (by omega)
        rw [hxe] at h3
        omega
    have htk : (za8 c).take (i + 1) = (za8 c).take i ++ [⟨x, zic c i⟩] := by
      rw [List.take_add_one, zn6, hx, hxe]; rfl
    generalize zic c i = y at *
    have w2 : IntKind.u32.wrap x = x := zfH (by omega) (by omega)
    have w3 : IntKind.u32.wrap y = y := zfH (by omega) (by omega)
    (try ((first | with_reducible refine zh ?_ | with_reducible refine zm ?_ | with_reducible refine zo ?_); simp [-cellOK, zy, iAV, a3, a4, a5, hlt, hx, hxe, w2, w3, zz, zB, ze, -zG])); repeat' (first | ((first | refine zd ?_ | refine zg ?_ | refine dN (by decide +kernel) ?_ | refine dC (by decide +kernel) ?_ | refine uP (hend) ?_ | refine .inl ⟨_, .inl (hend), ?_⟩ | (refine za ?_ ?_ <;> (intro hg; simp only [hg])) | fail) <;> simp [-cellOK, zy, iAV, a3, a4, a5, hlt, hx, hxe, w2, w3, zz, zB, ze, -zG]) | refine zf ?_ | refine zc ?_ | (refine zp ?_; simp only [zq]; try simp) | (refine zb (fun hc => ?_) (fun hc => ?_) <;> try simp at hc) | fail)
    refine zal zpd (σ0 := σ) (hO.ext (by repeat (first | assumption | exact Ext.refl _ | refine zv ?_ | refine Ext.setF ?_ (by first | assumption | (simp [ze, St.set, zk]; done) | exact zt (by assumption))))) (by repeat (first | assumption | exact Ext.refl _ | refine zv ?_ | refine Ext.setF ?_ (by first | assumption | (simp [ze, St.set, zk]; done) | exact zt (by assumption)))) (ys := [zau ⟨x, y⟩]) (by simp [zz, ze, zT, zau]) (.inr rfl) (by simp [zau, zM, z8, cellOK, AV.cells]) (by simp; omega) ?_
    intro v' τ' hO' hE' _ _
    (try ((first | with_reducible refine zh ?_ | with_reducible refine zm ?_ | with_reducible refine zo ?_); simp [-cellOK, a3, a4, a5, w1])); repeat' (first | ((first | refine zd ?_ | refine zg ?_ | refine dN (by decide +kernel) ?_ | refine dC (by decide +kernel) ?_ | (refine za ?_ ?_ <;> (intro hg; simp only [hg])) | fail) <;> simp [-cellOK, a3, a4, a5, w1]) | refine zf ?_ | refine zc ?_ | (refine zp ?_; simp only [zq]; try simp) | (refine zl (by simp) ?_; simp) | (refine zD (by simp) (by simp [noIds]) (by repeat (first | assumption | exact Ext.refl _ | refine zv ?_ | refine Ext.setF ?_ (by first | assumption | (simp [ze, St.set, zk]; done) | exact zt (by assumption)))) ?_; simp [-cellOK, a3, a4, a5, w1, zS]) | (refine zb (fun hc => ?_) (fun hc => ?_) <;> try simp at hc) | fail)
    refine hI1 (c.length - (i + 1)) _ _ (by omega) ⟨hE', by simp [a3], i + 1, v', by simp, by omega, rfl, by simp, ?_⟩
    rw [htk, List.map_append]
    exact hO'
  · have : i = c.length := by omega
    subst this
    rw [List.take_of_length_le (by rw [zcF]; omega)] at hO
    (try ((first | with_reducible refine zh ?_ | with_reducible refine zm ?_ | with_reducible refine zo ?_); simp [-cellOK, zy, a3, a4, a5])); repeat' (first | ((first | refine zd ?_ | refine zg ?_ | refine dN (by decide +kernel) ?_ | refine dC (by decide +kernel) ?_ | (refine za ?_ ?_ <;> (intro hg; simp only [hg])) | fail) <;> simp [-cellOK, zy, a3, a4, a5]) | refine zf ?_ | refine zc ?_ | (refine zp ?_; simp only [zq]; try simp) | (refine zb (fun hc => ?_) (fun hc => ?_) <;> try simp at hc) | fail)
    exact zbX (v := v) (.inr rfl) (by simp) hO hE
end Go.Proofs.YtanimmdlgmkmkaaGreat.Av
namespace Go.Proofs.YtanimmdlgmkmkaaGreat.Av
open Go
set_option linter.unusedSimpArgs false
set_option linter.unusedVariables false
set_option maxRecDepth 100000
set_option maxHeartbeats 4000000
set_option pp.maxSteps 600
@[simp] theorem zwi (ops : List Oper) (rcs : Oper → Bool) (o : Oper) : (zb2 ops rcs o).o = o := rfl
def zem (n : Nw) : List Rg := za8 (zaE (zaO n))
theorem zie (n : Nw) (f : Fl) (hn : NwOK n) (hl : n.rules.length < 2 ^ 30) : PCalls Tryz.prog 80 [z7 n f] (zbV (zem n) false) := by
  have h1 := zja n f (by omega)
  have h2 := zid (zaO n) false (fun r hr => by
    obtain ⟨x, hx, rfl⟩ := List.mem_map.1 hr
    exact hn.rg x hx) (by unfold zaO; simpa using hl)
  unfold zem
  refine zJ Tryz.func80 rfl (N := 6) rfl rfl (by simp) (zjq _ _ _) fun σ => ?_
  generalize za8 (zaE (zaO n)) = A at *
  (try ((first | with_reducible refine zh ?_ | with_reducible refine zm ?_ | with_reducible refine zo ?_); simp [-cellOK, zr, zC, zz, zB, ze])); repeat' (first | ((first | refine zd ?_ | refine zg ?_ | refine dN (by decide +kernel) ?_ | refine dC (by decide +kernel) ?_ | refine uP (h1) ?_ | refine .inl ⟨_, .inl (h1), ?_⟩ | refine uP (h2) ?_ | refine .inl ⟨_, .inl (h2), ?_⟩ | (refine za ?_ ?_ <;> (intro hg; simp only [hg])) | fail) <;> simp [-cellOK, zr, zC, zz, zB, ze]) | refine zf ?_ | refine zc ?_ | (refine zp ?_; simp only [zq]; try simp) | (refine zl (by simp) ?_; simp) | (refine zD (by simp) (by simp [noIds]) (by repeat (first | assumption | exact Ext.refl _ | refine zv ?_ | refine Ext.setF ?_ (by first | assumption | (simp [ze, St.set, zk]; done) | exact zt (by assumption)))) ?_; simp [-cellOK, zr, zC, zz, zB, ze, zS]) | (refine zb (fun hc => ?_) (fun hc => ?_) <;> try simp at hc) | fail)
theorem zsc (a b : Rg) : zas Tryz.prog 4 33 (zau a) (zau b) = some (decide (a = b)) := by
  have : decide (a = b) = (decide (a.lo = b.lo) && decide (a.hi = b.hi)) := by
    rcases a with ⟨a1, a2⟩; rcases b with ⟨b1, b2⟩
    rw [Bool.eq_iff_iff]; simp
  rw [this]
  simp [zas, zch, zau, zbs, zdD]
theorem zlG (a b : Rg) : zae Tryz.prog .neq 33 (zau a) (zau b) = some (.raw (.bool (!decide (a = b)))) := by
  have e1 : ∀ x y : Rg, zae Tryz.prog .neq 33 (zau x) (zau y) = if Tryz.prog.eqGuardType Tryz.prog.depth 33 = false then (zas Tryz.prog 4 33 (zau x) (zau y)).bind fun b => (zbQ .neq b).map .raw else none := fun x y => rfl
  rw [e1, if_pos zrO, zsc]
  rfl
theorem zcK {L : Lab} {n : Nw} (f : Fl) (h : LabRep L n) : PCalls Tryz.prog 26 [zP (some L), z7 n f] (.raw (.bool true)) := by
  have hn := h.ok
  have h40 := (zbe h.right).2
  have hnet := zlA L (by rw [h.net]; exact hn)
  rw [h.net] at hnet
  have hato := zie n f hn (by omega)
  have hrul := zjB n.rules n.rules false f.r (by omega) (by omega)
  have h16 := hn.links
  have h8 := hn.ports
  have hp8 := (zel h.right).2
  have htop := zky n.t n.t flN f (by omega) (by omega) (by omega) (by omega)
  have hcount := zd1 (some L)
  have hA := fun i : Int => zgz (some L) i fun M e => by injection e with e; rw [← e]; exact zdp h.rep h.right
  have hat := fun d i : Int => zfu L d i (zc7 h).1 (zc7 h).2
  have href := fun (d x : Int) => zme n f d x hn
  have hre := fun (d x : Int) => zoQ h.right d x
  simp only [hre] at href
  simp only [zdw h.rep] at hcount
  have hlen : (zaE (zaO n)).length = (zem n).length := (zcF _).symm
  rw [hlen] at hcount
  have hlen40 : (zem n).length < 2 ^ 40 := by
    rw [← hlen, ← Int.ofNat_lt, ← zdw h.rep]; exact zdp h.rep h.right
  have hval : ∀ i r, (zem n)[i]? = some r → (zaS L.t (i : Nat)) = some r := fun i r hi => by
    rw [zgi h.rep, if_pos (by omega), Int.toNat_natCast]; exact hi
  have hrow : ∀ (d i : Nat) r, d < n.t.ports.length → (zem n)[i]? = some r → zgm L d i = some (atI n d r.lo) := fun d i r hd hi => by
    unfold zgm
    rw [if_pos (by omega), Int.toNat_natCast, Int.toNat_natCast, zgn h hd, Option.bind_some]
    unfold zfv
    rw [List.getElem?_map]
    show ((zem n)[i]?).map _ = _
    rw [hi]; rfl
  have hids := zb4 (fun _ => False) (some L)
  generalize zem n = AT at *
  simp only [decide_true] at hrul htop
  simp only [Option.bind_some] at hA
  clear hlen h16 h8 hre h40
  refine zJ Tryz.func26 rfl (N := 90) rfl rfl (by simp) (by simp [noIds]) fun σ => ?_
  have f3 : σ.m ⟨3, σ.nx 3, 3⟩ = none := zk _ _ _
  have f5 : σ.m ⟨5, σ.nx 5, 3⟩ = none := zk _ _ _
  have htp : AV.agg [zy n.t.ports flN.p, zw n.t.links flN.l] = zat n.t flN := rfl
  have htp2 : AV.agg [zy n.t.ports f.p, zw n.t.links f.l] = zat n.t f := rfl
  have hfl : zu n.rules flN.r = zu n.rules false := rfl
  have hnp : setPart (AV.agg [.sl 0 [] true, .sl 0 [] true, .sl 0 [] true]) 0 [zy n.t.ports flN.p, zw n.t.links flN.l, zu n.rules flN.r] = z7 n flN := rfl
  obtain ⟨cL, hcL⟩ : ∃ c, zP (some L) = .pp c 0 := ⟨_, rfl⟩
  rw [hcL] at hnet hcount hids
  simp only [hcL] at hA hat
  rw [hcL]
  refine zf ?_
  (try ((first | with_reducible refine zh ?_ | with_reducible refine zm ?_ | with_reducible refine zo ?_); simp [-cellOK, zr, zC, hnp, htp, htp2, hfl, zz, zB, ze])); repeat' (first | ((first | refine zd ?_ | refine zg ?_ | refine dN (by decide +kernel) ?_ | refine dC (by decide +kernel) ?_ | refine uP (hnet) ?_ | refine .inl ⟨_, .inl (hnet), ?_⟩ | refine uP (hato) ?_ | refine .inl ⟨_, .inl (hato), ?_⟩ | refine uP (hrul) ?_ | refine .inl ⟨_, .inl (hrul), ?_⟩ | refine uP (htop) ?_ | refine .inl ⟨_, .inl (htop), ?_⟩ | refine uP (hcount) ?_ | refine .inl ⟨_, .inl (hcount), ?_⟩ | (refine za ?_ ?_ <;> (intro hg; simp only [hg])) | fail) <;> simp [-cellOK, zr, zC, hnp, htp, htp2, hfl, zz, zB, ze]) | refine zf ?_ | refine zc ?_ | (refine zp ?_; simp only [zq]; try simp) | (refine zl (by simp) ?_; simp) | (refine zD (by simp) (by simp [noIds]) (by repeat (first | assumption | exact Ext.refl _ | refine zv ?_ | refine Ext.setF ?_ (by first | assumption | (simp [ze, St.set, zk]; done) | exact zt (by assumption)))) ?_; simp [-cellOK, zr, zC, hnp, htp, htp2, hfl, zz, zB, ze, zS]) | (refine zb (fun hc => ?_) (fun hc => ?_) <;> try simp at hc) | fail)
  generalize hA0 : put 90 _ _ _ = A0
  have c0 : A0 0 = .pp cL 0 := by rw [← hA0]; simp
  have c3 : A0 3 = .rp ⟨3, σ.nx 3, 3⟩ 0 0 := by rw [← hA0]; simp
  have c6 : A0 6 = zbV AT false := by rw [← hA0]; simp [zbV]
  have c9 : A0 9 = .raw (.int .i64 0) := by rw [← hA0]; simp
  clear hA0
  refine zaf ⟨3, σ.nx 3, 3⟩ ?_
  refine zaf ⟨5, σ.nx 5, 3⟩ ?_
  generalize hAA : (fun t => zF _ _ _) = A
  have a0 : A 0 = .pp cL 0 := by rw [← hAA]; show zF _ _ (zF _ _ (A0 0)) = _; rw [c0]; rfl
  have a3 : A 3 = .pp (z7 n f).cells 0 := by
    rw [← hAA]
    show zF _ _ (zF _ _ (A0 3)) = _
    rw [c3, za3 (es := [z7 n f]) (e := z7 n f) (by simp [St.del]) (by simp [St.new, St.set]) rfl]; rfl
  have a6 : A 6 = zbV AT false := by rw [← hAA]; show zF _ _ (zF _ _ (A0 6)) = _; rw [c6]; rfl
  have a9 : A 9 = .raw (.int .i64 0) := by rw [← hAA]; show zF _ _ (zF _ _ (A0 9)) = _; rw [c9]; rfl
  generalize hτ : St.del _ _ = τ
  have hE : Ext σ τ := by
    rw [← hτ]
    refine ⟨fun i o h => ?_, fun s => ?_⟩
    · have q3 : i ≠ ⟨3, σ.nx 3, 3⟩ := fun e => by rw [e, f3] at h; cases h
      have q5 : i ≠ ⟨5, σ.nx 5, 3⟩ := fun e => by rw [e, f5] at h; cases h
      simp [St.del, St.new, St.set, q3, q5, h]
    · simp only [St.del, St.new, St.set]
      repeat' split
      all_goals omega
  clear hτ hAA hnet hato hrul htop hcount
  refine zZ (fun n' B ρ => Ext σ ρ ∧ B 0 = .pp cL 0 ∧ B 3 = .pp (z7 n f).cells 0 ∧ B 6 = zbV AT false ∧ ∃ i : Nat, B 9 = .raw (.int .i64 i) ∧ i ≤ AT.length ∧ n' = AT.length - i) AT.length ?_ ?_
  · exact ⟨hE, a0, a3, a6, 0, a9, by omega, by omega⟩
  clear hE a0 a3 a6 a9
  rintro n' B ρ ⟨hE, a0, a3, a6, i, a9, hi, rfl⟩ I1 hI1
  by_cases hlt : i < AT.length
  · have w1 : IntKind.i64.wrap ((i : Int) + 1) = ((i + 1 : Nat) : Int) := by rw [zU (by omega) (by omega)]; omega
    have hx : AT[i]? = some AT[i] := List.getElem?_eq_getElem hlt
    obtain ⟨r, hr⟩ : ∃ r, AT[i] = r := ⟨_, rfl⟩
    have hA := hA i
    rw [hval i _ hx, hr] at hA
    simp only [Option.getD_some, Option.isSome_some] at hA
    have hrow := fun (d : Nat) hd => hrow d i r hd (by rw [hx, hr])
    have f10 : σ.m ⟨10, ρ.nx 10, 2⟩ = none := zt hE
    (try ((first | with_reducible refine zh ?_ | with_reducible refine zm ?_ | with_reducible refine zo ?_); simp [-cellOK, a0, a3, a6, a9, hlt, zr, zC, zT, zav, zbV, hx, hr, zlG, zak, -zae, zz, zB, ze])); repeat' (first | ((first | refine zd ?_ | refine zg ?_ | refine dN (by decide +kernel) ?_ | refine dC (by decide +kernel) ?_ | refine uP (hA) ?_ | refine .inl ⟨_, .inl (hA), ?_⟩ | (refine za ?_ ?_ <;> (intro hg; simp only [hg])) | fail) <;> simp [-cellOK, a0, a3, a6, a9, hlt, zr, zC, zT, zav, zbV, hx, hr, zlG, zak, -zae, zz, zB, ze]) | refine zf ?_ | refine zc ?_ | (refine zp ?_; simp only [zq]; try simp) | (refine zl (by simp) ?_; simp) | (refine zD (by simp) (by simp [noIds]) (by repeat (first | assumption | exact Ext.refl _ | refine zv ?_ | refine Ext.setF ?_ (by first | assumption | (simp [ze, St.set, zk]; done) | exact zt (by assumption)))) ?_; simp [-cellOK, a0, a3, a6, a9, hlt, zr, zC, zT, zav, zbV, hx, hr, zlG, zak, -zae, zz, zB, ze, zS]) | (refine zb (fun hc => ?_) (fun hc => ?_) <;> try simp at hc) | fail)
    refine zaf ⟨10, ρ.nx 10, 2⟩ ?_
    generalize hτ : St.del _ _ = τ
    generalize hAA : (fun t => zF _ _ _) = A
    have b0 : A 0 = .pp cL 0 := by rw [← hAA]; simp [a0, zF]
    have b3 : A 3 = .pp (z7 n f).cells 0 := by rw [← hAA]; simp [a3, zF]
    have b6 : A 6 = zbV AT false := by rw [← hAA]; simp [a6, zF, zbV]
    have b9 : A 9 = .raw (.int .i64 i) := by rw [← hAA]; simp [a9]
    have b10 : A 10 = .pp (zau r).cells 0 := by rw [← hAA, ← hτ]; simp [zF, St.new, St.del, St.set, zT]
    have b12 : A 12 = .raw (.int .i64 0) := by rw [← hAA]; simp
    have hEτ : Ext σ τ := by
      rw [← hτ]
      refine ⟨fun i o h => ?_, fun s => ?_⟩
      · rw [zR (fun e => by rw [e, f10] at h; cases h)]
        rw [zbg (fun e => by rw [e, f10] at h; cases h)]
        exact zaP _ _ (hE.m _ _ h)
      · have := hE.nx s
        simp only [St.set, St.del, St.new]
        split <;> omega
    clear hτ hAA hA
    refine zZ (fun n' B ρ => Ext σ ρ ∧ B 0 = .pp cL 0 ∧ B 3 = .pp (z7 n f).cells 0 ∧ B 6 = zbV AT false ∧ B 9 = .raw (.int .i64 i) ∧ B 10 = .pp (zau r).cells 0 ∧ ∃ d : Nat, B 12 = .raw (.int .i64 d) ∧ d ≤ n.t.ports.length ∧ n' = n.t.ports.length - d) n.t.ports.length ?_ ?_
    · exact ⟨hEτ, b0, b3, b6, b9, b10, 0, b12, by omega, by omega⟩
    clear hE hEτ f10 a0 a3 a6 a9 b0 b3 b6 b9 b10 b12
    rintro n' B ρ2 ⟨hE, b0, b3, b6, b9, b10, d, b12, hd, rfl⟩ I2 hI2
    by_cases hdt : d < n.t.ports.length
    · have w2 : IntKind.i64.wrap ((d : Int) + 1) = ((d + 1 : Nat) : Int) := by rw [zU (by omega) (by omega)]; omega
      have hat := hat d i
      rw [hrow d hdt] at hat
      simp only [Option.getD_some, Option.isSome_some] at hat
      have r1 := href d r.lo
      clear hrow href hval
      generalize atI n d r.lo = x at *
      (try ((first | with_reducible refine zh ?_ | with_reducible refine zm ?_ | with_reducible refine zo ?_); simp [-cellOK, b0, b3, b6, b9, b10, b12, hdt, zr, zC, zT, w2])); repeat' (first | ((first | refine zd ?_ | refine zg ?_ | refine dN (by decide +kernel) ?_ | refine dC (by decide +kernel) ?_ | refine uP (hat) ?_ | refine .inl ⟨_, .inl (hat), ?_⟩ | refine uP (r1) ?_ | refine .inl ⟨_, .inl (r1), ?_⟩ | (refine za ?_ ?_ <;> (intro hg; simp only [hg])) | fail) <;> simp [-cellOK, b0, b3, b6, b9, b10, b12, hdt, zr, zC, zT, w2]) | refine zf ?_ | refine zc ?_ | (refine zp ?_; simp only [zq]; try simp) | (refine zl (by simp) ?_; simp) | (refine zD (by simp) (by simp [noIds]) (by repeat (first | assumption | exact Ext.refl _ | refine zv ?_ | refine Ext.setF ?_ (by first | assumption | (simp [ze, St.set, zk]; done) | exact zt (by assumption)))) ?_; simp [-cellOK, b0, b3, b6, b9, b10, b12, hdt, zr, zC, zT, w2, zS]) | (refine zb (fun hc => ?_) (fun hc => ?_) <;> try simp at hc) | fail)
      exact hI2 (n.t.ports.length - (d + 1)) _ _ (by omega) ⟨hE, by simp [b0], by simp [b3], by simp [b6], by simp [b9], by simp [b10], d + 1, by simp, by omega, rfl⟩
    · (try ((first | with_reducible refine zh ?_ | with_reducible refine zm ?_ | with_reducible refine zo ?_); simp [-cellOK, b0, b3, b6, b9, b10, b12, hdt, zr, zC, w1])); repeat' (first | ((first | refine zd ?_ | refine zg ?_ | refine dN (by decide +kernel) ?_ | refine dC (by decide +kernel) ?_ | (refine za ?_ ?_ <;> (intro hg; simp only [hg])) | fail) <;> simp [-cellOK, b0, b3, b6, b9, b10, b12, hdt, zr, zC, w1]) | refine zf ?_ | refine zc ?_ | (refine zp ?_; simp only [zq]; try simp) | (refine zl (by simp) ?_; simp) | (refine zD (by simp) (by simp [noIds]) (by repeat (first | assumption | exact Ext.refl _ | refine zv ?_ | refine Ext.setF ?_ (by first | assumption | (simp [ze, St.set, zk]; done) | exact zt (by assumption)))) ?_; simp [-cellOK, b0, b3, b6, b9, b10, b12, hdt, zr, zC, w1, zS]) | (refine zb (fun hc => ?_) (fun hc => ?_) <;> try simp at hc) | fail)
      exact hI1 (AT.length - (i + 1)) _ _ (by omega) ⟨hE, by simp [b0], by simp [b3], by simp [b6], i + 1, by simp, by omega, rfl⟩
  · (try ((first | with_reducible refine zh ?_ | with_reducible refine zm ?_ | with_reducible refine zo ?_); simp [-cellOK, a0, a3, a6, a9, hlt, zr, zC, zbV])); repeat' (first | ((first | refine zd ?_ | refine zg ?_ | refine dN (by decide +kernel) ?_ | refine dC (by decide +kernel) ?_ | (refine za ?_ ?_ <;> (intro hg; simp only [hg])) | fail) <;> simp [-cellOK, a0, a3, a6, a9, hlt, zr, zC, zbV]) | refine zf ?_ | refine zc ?_ | (refine zp ?_; simp only [zq]; try simp) | (refine zl (by simp) ?_; simp) | (refine zD (by simp) (by simp [noIds]) (by repeat (first | assumption | exact Ext.refl _ | refine zv ?_ | refine Ext.setF ?_ (by first | assumption | (simp [ze, St.set, zk]; done) | exact zt (by assumption)))) ?_; simp [-cellOK, a0, a3, a6, a9, hlt, zr, zC, zbV, zS]) | (refine zb (fun hc => ?_) (fun hc => ?_) <;> try simp at hc) | fail)
end Go.Proofs.YtanimmdlgmkmkaaGreat.Av
