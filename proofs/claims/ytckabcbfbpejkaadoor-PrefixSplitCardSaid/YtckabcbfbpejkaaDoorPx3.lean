/- Prefix: the laws PrefixTexts, PrefixTells, PrefixSplit, PrefixParses, PrefixBack. Part 3 of 19: AvP5. -/
import Derived.Test.YtckabcbfbpejkaaDoorPx1
import Derived.Lib.ItoaNum
import Derived.Lib.AtoiAll
import Derived.Lib.Split
namespace Go.Proofs.YtckabcbfbpejkaaDoor.Av
open Go
set_option linter.unusedSimpArgs false
set_option linter.unusedVariables false
abbrev Bs := List UInt8
def zz (n : Nat) : Bs := Lib.decDigits n
theorem zbC {n : Nat} (h : n < 10) : zz n = [UInt8.ofNat (48 + n)] := by unfold zz; rw [Lib.decDigits, dif_pos h]
theorem zcY {n : Nat} (h : ¬ n < 10) : zz n = zz (n / 10) ++ [UInt8.ofNat (48 + n % 10)] := by unfold zz; rw [Lib.decDigits, dif_neg h]
theorem zcZ {d : Nat} (h : d < 10) : (UInt8.ofNat (48 + d)).toNat = 48 + d := by rw [UInt8.toNat_ofNat']; omega
def val (s : Bs) : Nat := s.foldl (fun a c => 10 * a + (c.toNat - 48)) 0
theorem zhK (s : Bs) (c : UInt8) : val (s ++ [c]) = 10 * val s + (c.toNat - 48) := by simp [val]
theorem zlu (n : Nat) : val (zz n) = n := by
  induction n using Nat.strongRecOn with
  | _ n ih =>
    by_cases h : n < 10
    · rw [zbC h]
      show 10 * 0 + ((UInt8.ofNat (48 + n)).toNat - 48) = n
      rw [zcZ h]; omega
    · rw [zcY h, zhK, ih (n / 10) (by omega), zcZ (Nat.mod_lt _ (by omega))]; omega
theorem zhL (n : Nat) : zz n ≠ [] := by
  by_cases h : n < 10
  · rw [zbC h]; simp
  · rw [zcY h]; simp
theorem zeA (n : Nat) : ∀ c ∈ zz n, 48 ≤ c.toNat ∧ c.toNat ≤ 57 := by
  induction n using Nat.strongRecOn with
  | _ n ih =>
    by_cases h : n < 10
    · rw [zbC h]
      intro c hc
      rw [List.mem_singleton.1 hc, zcZ h]; omega
    · rw [zcY h]
      intro c hc
      rcases List.mem_append.1 hc with hc | hc
      · exact ih (n / 10) (by omega) c hc
      · rw [List.mem_singleton.1 hc, zcZ (Nat.mod_lt _ (by omega))]; omega
theorem zbx (n k : Nat) (h : n < 10 ^ k) (hk : 0 < k) : (zz n).length ≤ k := by
  induction k generalizing n with
  | zero => omega
  | succ k ih =>
    by_cases h10 : n < 10
    · rw [zbC h10]; simp
    · rw [zcY h10, List.length_append, List.length_singleton]
      have hk0 : 0 < k := by
        rcases Nat.eq_zero_or_pos k with e | e
        · subst e; simp at h; omega
        · exact e
      have := ih (n / 10) (by rw [Nat.pow_succ] at h; omega) hk0
      omega
def zag (most : Nat) (s : Bs) : Option Nat := if s = zz (val s) ∧ val s ≤ most then some (val s) else none
theorem zbn {most : Nat} {s : Bs} {n : Nat} : zag most s = some n ↔ s = zz n ∧ n ≤ most := by
  unfold zag
  constructor
  · intro h
    split at h
    · rename_i hc
      simp only [Option.some.injEq] at h
      subst h
      exact hc
    · cases h
  · rintro ⟨rfl, h⟩
    rw [zlu, if_pos ⟨rfl, h⟩]
theorem zcH {most n : Nat} (h : n ≤ most) : zag most (zz n) = some n := zbn.2 ⟨rfl, h⟩
theorem zhM (l m : Bs) (a : Nat) : Lib.parseUint10 a (l ++ m) = match Lib.parseUint10 a l with | .ok u => Lib.parseUint10 u m | e => e := by
  induction l generalizing a with
  | nil => rfl
  | cons c l ih =>
    simp only [List.cons_append, Lib.parseUint10]
    split
    · split
      · rfl
      · split
        · rfl
        · exact ih _
    · rfl
theorem zjV (n : Nat) (h : n < 18446744073709551616) : Lib.parseUint10 0 (zz n) = .ok n := by
  induction n using Nat.strongRecOn with
  | _ n ih =>
    by_cases h10 : n < 10
    · rw [zbC h10]
      have e := zcZ h10
      unfold Lib.parseUint10
      rw [e, if_pos (by omega), if_neg (by omega), if_neg (by omega)]
      unfold Lib.parseUint10
      congr 1
      omega
    · rw [zcY h10, zhM, ih (n / 10) (by omega) (by omega)]
      have e := zcZ (d := n % 10) (Nat.mod_lt _ (by omega))
      simp only []
      unfold Lib.parseUint10
      rw [e, if_pos (by omega), if_neg (by omega), if_neg (by omega)]
      unfold Lib.parseUint10
      congr 1
      omega
theorem zhN (n : Nat) (h : n < 9223372036854775808) : Lib.atoiAll (zz n) = .ok (n : Int) := by
  obtain ⟨c, r, hd⟩ := List.exists_cons_of_ne_nil (zhL n)
  have hc := zeA n c (by rw [hd]; simp)
  unfold Lib.atoiAll
  rw [hd]
  simp only []
  rw [if_neg (by omega), ← hd]
  unfold Lib.parseMag
  rw [if_neg (zhL n), zjV n (by omega)]
  simp only []
  rw [if_neg (by omega), if_neg (by omega), if_neg (by omega)]
def zhA (s : Bs) : Int := match Lib.atoiAll s with | .ok v => v | .range => Lib.atoiSat s | _ => 0
theorem zjW (most : Nat) (s : Bs) (hm : most < 9223372036854775808) :
    (match Lib.atoiAll s with | .ok v => decide (0 ≤ v) && (decide (v ≤ (most : Int)) && decide (Lib.itoa v = s)) | _ => false) = (zag most s).isSome := by
  rw [Bool.eq_iff_iff, Option.isSome_iff_exists]
  constructor
  · intro h
    split at h
    · rename_i v hv
      simp only [Bool.and_eq_true, decide_eq_true_eq] at h
      obtain ⟨h1, h2, h3⟩ := h
      refine ⟨v.toNat, zbn.2 ⟨?_, by omega⟩⟩
      rw [← h3]
      unfold Lib.itoa
      rw [if_neg (by omega)]
      rfl
    · cases h
  · rintro ⟨n, hn⟩
    obtain ⟨rfl, h2⟩ := zbn.1 hn
    rw [zhN n (by omega)]
    simp only [Bool.and_eq_true, decide_eq_true_eq]
    refine ⟨by omega, by omega, ?_⟩
    unfold Lib.itoa
    rw [if_neg (by omega)]
    simp [zz]
theorem zhO {most : Nat} {s : Bs} {n : Nat} (h : zag most s = some n) (hm : most < 9223372036854775808) : zhA s = n := by
  obtain ⟨rfl, h2⟩ := zbn.1 h
  unfold zhA
  rw [zhN n (by omega)]
def zf (b : UInt8) : Bs → List Bs
  | [] => [[]]
  | c :: l => if c = b then [] :: zf b l else match zf b l with | p :: ps => (c :: p) :: ps | [] => [[c]]
theorem zaT (b : UInt8) : ∀ l, zf b l ≠ []
  | [] => by simp [zf]
  | c :: l => by
    unfold zf
    split
    · simp
    · split <;> simp
def zdm (ps : List Bs) (c : UInt8) : List Bs := match ps.reverse with | p :: r => r.reverse ++ [p ++ [c]] | [] => [[c]]
theorem zdV (ps : List Bs) (p : Bs) (c : UInt8) : zdm (ps ++ [p]) c = ps ++ [p ++ [c]] := by simp [zdm]
theorem zdW (q : Bs) (ps : List Bs) (c : UInt8) (h : ps ≠ []) : zdm (q :: ps) c = q :: zdm ps c := by
  obtain ⟨ps', p, rfl⟩ : ∃ ps' p, ps = ps' ++ [p] := ⟨ps.dropLast, ps.getLast h, (List.dropLast_concat_getLast h).symm⟩
  rw [← List.cons_append, zdV, zdV, List.cons_append]
theorem zfo (b c : UInt8) : ∀ l, zf b (l ++ [c]) = if c = b then zf b l ++ [[]] else zdm (zf b l) c
  | [] => by
    simp only [List.nil_append, zf]
    split
    · rfl
    · simp [zdm]
  | d :: l => by
    have ih := zfo b c l
    simp only [List.cons_append]
    unfold zf
    by_cases hd : d = b
    · rw [if_pos hd, if_pos hd, ih]
      split
      · rfl
      · rw [zdW _ _ _ (zaT b l)]
    · rw [if_neg hd, if_neg hd, ih]
      by_cases hc : c = b
      · rw [if_pos hc, if_pos hc]
        cases hp : zf b l with
        | nil => exact absurd hp (zaT b l)
        | cons p ps => rfl
      · rw [if_neg hc, if_neg hc]
        cases hp : zf b l with
        | nil => exact absurd hp (zaT b l)
        | cons p ps =>
          cases ps with
          | nil => simp [zdm]
          | cons q qs =>
            rw [zdW p (q :: qs) c (by simp)]
            exact (zdW (d :: p) (q :: qs) c (by simp)).symm
end Go.Proofs.YtckabcbfbpejkaaDoor.Av
