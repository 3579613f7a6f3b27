/- Rules: the laws RuleTells, RuleBack, RuleApart, RuleFirst. Part 3 of 22: AvP5. -/
import Derived.Test.YtckabcbfbpejkaaDoorRx1
import Derived.Lib.ItoaNum
import Derived.Lib.AtoiAll
import Derived.Lib.Split
namespace Go.Proofs.YtckabcbfbpejkaaDoor.Av
open Go
set_option linter.unusedSimpArgs false
set_option linter.unusedVariables false
abbrev Bs := List UInt8
def dec (n : Nat) : Bs := Lib.decDigits n
theorem zcY {n : Nat} (h : n < 10) : dec n = [UInt8.ofNat (48 + n)] := by unfold dec; rw [Lib.decDigits, dif_pos h]
theorem zea {n : Nat} (h : ¬ n < 10) : dec n = dec (n / 10) ++ [UInt8.ofNat (48 + n % 10)] := by unfold dec; rw [Lib.decDigits, dif_neg h]
theorem zdn {d : Nat} (h : d < 10) : (UInt8.ofNat (48 + d)).toNat = 48 + d := by rw [UInt8.toNat_ofNat']; omega
def val (s : Bs) : Nat := s.foldl (fun a c => 10 * a + (c.toNat - 48)) 0
theorem zmb (s : Bs) (c : UInt8) : val (s ++ [c]) = 10 * val s + (c.toNat - 48) := by simp [val]
theorem zm4 (n : Nat) : val (dec n) = n := by
  induction n using Nat.strongRecOn with
  | _ n ih =>
    by_cases h : n < 10
    · rw [zcY h]
      show 10 * 0 + ((UInt8.ofNat (48 + n)).toNat - 48) = n
      rw [zdn h]; omega
    · rw [zea h, zmb, ih (n / 10) (by omega), zdn (Nat.mod_lt _ (by omega))]; omega
theorem zlg (n : Nat) : dec n ≠ [] := by
  by_cases h : n < 10
  · rw [zcY h]; simp
  · rw [zea h]; simp
theorem zh7 (n : Nat) : ∀ c ∈ dec n, 48 ≤ c.toNat ∧ c.toNat ≤ 57 := by
  induction n using Nat.strongRecOn with
  | _ n ih =>
    by_cases h : n < 10
    · rw [zcY h]
      intro c hc
      rw [List.mem_singleton.1 hc, zdn h]; omega
    · rw [zea h]
      intro c hc
      rcases List.mem_append.1 hc with hc | hc
      · exact ih (n / 10) (by omega) c hc
      · rw [List.mem_singleton.1 hc, zdn (Nat.mod_lt _ (by omega))]; omega
theorem zeb (n k : Nat) (h : n < 10 ^ k) (hk : 0 < k) : (dec n).length ≤ k := by
  induction k generalizing n with
  | zero => omega
  | succ k ih =>
    by_cases h10 : n < 10
    · rw [zcY h10]; simp
    · rw [zea h10, List.length_append, List.length_singleton]
      have hk0 : 0 < k := by
        rcases Nat.eq_zero_or_pos k with e | e
        · subst e; simp at h; omega
        · exact e
      have := ih (n / 10) (by rw [Nat.pow_succ] at h; omega) hk0
      omega
def zbl (most : Nat) (s : Bs) : Option Nat := if s = dec (val s) ∧ val s ≤ most then some (val s) else none
theorem zcl {most : Nat} {s : Bs} {n : Nat} : zbl most s = some n ↔ s = dec n ∧ n ≤ most := by
  unfold zbl
  constructor
  · intro h
    split at h
    · rename_i hc
      simp only [Option.some.injEq] at h
      subst h
      exact hc
    · cases h
  · rintro ⟨rfl, h⟩
    rw [zm4, if_pos ⟨rfl, h⟩]
theorem zdL {most n : Nat} (h : n ≤ most) : zbl most (dec n) = some n := zcl.2 ⟨rfl, h⟩
theorem ziV (l m : Bs) (a : Nat) : Lib.parseUint10 a (l ++ m) = match Lib.parseUint10 a l with | .ok u => Lib.parseUint10 u m | e => e := by
  induction l generalizing a with
  | nil => rfl
  | cons c l ih =>
    simp only [List.cons_append, Lib.parseUint10]
    split
    · split
      · rfl
      · split
        · rfl
        · exact ih _
    · rfl
theorem zlh (n : Nat) (h : n < 18446744073709551616) : Lib.parseUint10 0 (dec n) = .ok n := by
  induction n using Nat.strongRecOn with
  | _ n ih =>
    by_cases h10 : n < 10
    · rw [zcY h10]
      have e := zdn h10
      unfold Lib.parseUint10
      rw [e, if_pos (by omega), if_neg (by omega), if_neg (by omega)]
      unfold Lib.parseUint10
      congr 1
      omega
    · rw [zea h10, ziV, ih (n / 10) (by omega) (by omega)]
      have e := zdn (d := n % 10) (Nat.mod_lt _ (by omega))
      simp only []
      unfold Lib.parseUint10
      rw [e, if_pos (by omega), if_neg (by omega), if_neg (by omega)]
      unfold Lib.parseUint10
      congr 1
      omega
theorem zgb (n : Nat) (h : n < 9223372036854775808) : Lib.atoiAll (dec n) = .ok (n : Int) := by
  obtain ⟨c, r, hd⟩ := List.exists_cons_of_ne_nil (zlg n)
  have hc := zh7 n c (by rw [hd]; simp)
  unfold Lib.atoiAll
  rw [hd]
  simp only []
  rw [if_neg (by omega), ← hd]
  unfold Lib.parseMag
  rw [if_neg (zlg n), zlh n (by omega)]
  simp only []
  rw [if_neg (by omega), if_neg (by omega), if_neg (by omega)]
def ziM (s : Bs) : Int := match Lib.atoiAll s with | .ok v => v | .range => Lib.atoiSat s | _ => 0
theorem zli (most : Nat) (s : Bs) (hm : most < 9223372036854775808) :
    (match Lib.atoiAll s with | .ok v => decide (0 ≤ v) && (decide (v ≤ (most : Int)) && decide (Lib.itoa v = s)) | _ => false) = (zbl most s).isSome := by
  rw [Bool.eq_iff_iff, Option.isSome_iff_exists]
  constructor
  · intro h
    split at h
    · rename_i v hv
      simp only [Bool.and_eq_true, decide_eq_true_eq] at h
      obtain ⟨h1, h2, h3⟩ := h
      refine ⟨v.toNat, zcl.2 ⟨?_, by omega⟩⟩
      rw [← h3]
      unfold Lib.itoa
      rw [if_neg (by omega)]
      rfl
    · cases h
  · rintro ⟨n, hn⟩
    obtain ⟨rfl, h2⟩ := zcl.1 hn
    rw [zgb n (by omega)]
    simp only [Bool.and_eq_true, decide_eq_true_eq]
    refine ⟨by omega, by omega, ?_⟩
    unfold Lib.itoa
    rw [if_neg (by omega)]
    simp [dec]
theorem ziW {most : Nat} {s : Bs} {n : Nat} (h : zbl most s = some n) (hm : most < 9223372036854775808) : ziM s = n := by
  obtain ⟨rfl, h2⟩ := zcl.1 h
  unfold ziM
  rw [zgb n (by omega)]
def zP (b : UInt8) : Bs → List Bs
  | [] => [[]]
  | c :: l => if c = b then [] :: zP b l else match zP b l with | p :: ps => (c :: p) :: ps | [] => [[c]]
theorem zlj (b : UInt8) : ∀ l, zP b l ≠ []
  | [] => by simp [zP]
  | c :: l => by
    unfold zP
    split
    · simp
    · split <;> simp
def zr9 (ps : List Bs) (c : UInt8) : List Bs := match ps.reverse with | p :: r => r.reverse ++ [p ++ [c]] | [] => [[c]]
end Go.Proofs.YtckabcbfbpejkaaDoor.Av
