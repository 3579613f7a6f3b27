/- Rules: the laws RuleTexts, RuleMatches. Part 3 of 22: AvP5. -/
import Derived.Test.YtckabcbfbpejkaaGreatDoorRy1
import Derived.Lib.ItoaNum
import Derived.Lib.AtoiAll
import Derived.Lib.Split
namespace Go.Proofs.YtckabcbfbpejkaaGreatDoor.Av
open Go
set_option linter.unusedSimpArgs false
set_option linter.unusedVariables false
abbrev Bs := List UInt8
def zz (n : Nat) : Bs := Lib.decDigits n
theorem zbF {n : Nat} (h : n < 10) : zz n = [UInt8.ofNat (48 + n)] := by unfold zz; rw [Lib.decDigits, dif_pos h]
theorem zdL {n : Nat} (h : ¬ n < 10) : zz n = zz (n / 10) ++ [UInt8.ofNat (48 + n % 10)] := by unfold zz; rw [Lib.decDigits, dif_neg h]
theorem zdM {d : Nat} (h : d < 10) : (UInt8.ofNat (48 + d)).toNat = 48 + d := by rw [UInt8.toNat_ofNat']; omega
def val (s : Bs) : Nat := s.foldl (fun a c => 10 * a + (c.toNat - 48)) 0
theorem zju (s : Bs) (c : UInt8) : val (s ++ [c]) = 10 * val s + (c.toNat - 48) := by simp [val]
theorem znX (n : Nat) : val (zz n) = n := by
  induction n using Nat.strongRecOn with
  | _ n ih =>
    by_cases h : n < 10
    · rw [zbF h]
      show 10 * 0 + ((UInt8.ofNat (48 + n)).toNat - 48) = n
      rw [zdM h]; omega
    · rw [zdL h, zju, ih (n / 10) (by omega), zdM (Nat.mod_lt _ (by omega))]; omega
theorem zjv (n : Nat) : zz n ≠ [] := by
  by_cases h : n < 10
  · rw [zbF h]; simp
  · rw [zdL h]; simp
theorem zfF (n : Nat) : ∀ c ∈ zz n, 48 ≤ c.toNat ∧ c.toNat ≤ 57 := by
  induction n using Nat.strongRecOn with
  | _ n ih =>
    by_cases h : n < 10
    · rw [zbF h]
      intro c hc
      rw [List.mem_singleton.1 hc, zdM h]; omega
    · rw [zdL h]
      intro c hc
      rcases List.mem_append.1 hc with hc | hc
      · exact ih (n / 10) (by omega) c hc
      · rw [List.mem_singleton.1 hc, zdM (Nat.mod_lt _ (by omega))]; omega
theorem zaM (n k : Nat) (h : n < 10 ^ k) (hk : 0 < k) : (zz n).length ≤ k := by
  induction k generalizing n with
  | zero => omega
  | succ k ih =>
    by_cases h10 : n < 10
    · rw [zbF h10]; simp
    · rw [zdL h10, List.length_append, List.length_singleton]
      have hk0 : 0 < k := by
        rcases Nat.eq_zero_or_pos k with e | e
        · subst e; simp at h; omega
        · exact e
      have := ih (n / 10) (by rw [Nat.pow_succ] at h; omega) hk0
      omega
def zaC (most : Nat) (s : Bs) : Option Nat := if s = zz (val s) ∧ val s ≤ most then some (val s) else none
theorem zbI {most : Nat} {s : Bs} {n : Nat} : zaC most s = some n ↔ s = zz n ∧ n ≤ most := by
  unfold zaC
  constructor
  · intro h
    split at h
    · rename_i hc
      simp only [Option.some.injEq] at h
      subst h
      exact hc
    · cases h
  · rintro ⟨rfl, h⟩
    rw [znX, if_pos ⟨rfl, h⟩]
theorem zdi {most n : Nat} (h : n ≤ most) : zaC most (zz n) = some n := zbI.2 ⟨rfl, h⟩
theorem zjw (l m : Bs) (a : Nat) : Lib.parseUint10 a (l ++ m) = match Lib.parseUint10 a l with | .ok u => Lib.parseUint10 u m | e => e := by
  induction l generalizing a with
  | nil => rfl
  | cons c l ih =>
    simp only [List.cons_append, Lib.parseUint10]
    split
    · split
      · rfl
      · split
        · rfl
        · exact ih _
    · rfl
theorem zmd (n : Nat) (h : n < 18446744073709551616) : Lib.parseUint10 0 (zz n) = .ok n := by
  induction n using Nat.strongRecOn with
  | _ n ih =>
    by_cases h10 : n < 10
    · rw [zbF h10]
      have e := zdM h10
      unfold Lib.parseUint10
      rw [e, if_pos (by omega), if_neg (by omega), if_neg (by omega)]
      unfold Lib.parseUint10
      congr 1
      omega
    · rw [zdL h10, zjw, ih (n / 10) (by omega) (by omega)]
      have e := zdM (d := n % 10) (Nat.mod_lt _ (by omega))
      simp only []
      unfold Lib.parseUint10
      rw [e, if_pos (by omega), if_neg (by omega), if_neg (by omega)]
      unfold Lib.parseUint10
      congr 1
      omega
theorem zgS (n : Nat) (h : n < 9223372036854775808) : Lib.atoiAll (zz n) = .ok (n : Int) := by
  obtain ⟨c, r, hd⟩ := List.exists_cons_of_ne_nil (zjv n)
  have hc := zfF n c (by rw [hd]; simp)
  unfold Lib.atoiAll
  rw [hd]
  simp only []
  rw [if_neg (by omega), ← hd]
  unfold Lib.parseMag
  rw [if_neg (zjv n), zmd n (by omega)]
  simp only []
  rw [if_neg (by omega), if_neg (by omega), if_neg (by omega)]
def zjk (s : Bs) : Int := match Lib.atoiAll s with | .ok v => v | .range => Lib.atoiSat s | _ => 0
theorem zme (most : Nat) (s : Bs) (hm : most < 9223372036854775808) :
    (match Lib.atoiAll s with | .ok v => decide (0 ≤ v) && (decide (v ≤ (most : Int)) && decide (Lib.itoa v = s)) | _ => false) = (zaC most s).isSome := by
  rw [Bool.eq_iff_iff, Option.isSome_iff_exists]
  constructor
  · intro h
    split at h
    · rename_i v hv
      simp only [Bool.and_eq_true, decide_eq_true_eq] at h
      obtain ⟨h1, h2, h3⟩ := h
      refine ⟨v.toNat, zbI.2 ⟨?_, by omega⟩⟩
      rw [← h3]
      unfold Lib.itoa
      rw [if_neg (by omega)]
      rfl
    · cases h
  · rintro ⟨n, hn⟩
    obtain ⟨rfl, h2⟩ := zbI.1 hn
    rw [zgS n (by omega)]
    simp only [Bool.and_eq_true, decide_eq_true_eq]
    refine ⟨by omega, by omega, ?_⟩
    unfold Lib.itoa
    rw [if_neg (by omega)]
    simp [zz]
theorem zjx {most : Nat} {s : Bs} {n : Nat} (h : zaC most s = some n) (hm : most < 9223372036854775808) : zjk s = n := by
  obtain ⟨rfl, h2⟩ := zbI.1 h
  unfold zjk
  rw [zgS n (by omega)]
def zq (b : UInt8) : Bs → List Bs
  | [] => [[]]
  | c :: l => if c = b then [] :: zq b l else match zq b l with | p :: ps => (c :: p) :: ps | [] => [[c]]
theorem zaY (b : UInt8) : ∀ l, zq b l ≠ []
  | [] => by simp [zq]
  | c :: l => by
    unfold zq
    split
    · simp
    · split <;> simp
def zdv (ps : List Bs) (c : UInt8) : List Bs := match ps.reverse with | p :: r => r.reverse ++ [p ++ [c]] | [] => [[c]]
theorem zdw (ps : List Bs) (p : Bs) (c : UInt8) : zdv (ps ++ [p]) c = ps ++ [p ++ [c]] := by simp [zdv]
theorem zeY (q : Bs) (ps : List Bs) (c : UInt8) (h : ps ≠ []) : zdv (q :: ps) c = q :: zdv ps c := by
  obtain ⟨ps', p, rfl⟩ : ∃ ps' p, ps = ps' ++ [p] := ⟨ps.dropLast, ps.getLast h, (List.dropLast_concat_getLast h).symm⟩
  rw [← List.cons_append, zdw, zdw, List.cons_append]
theorem zet (b c : UInt8) : ∀ l, zq b (l ++ [c]) = if c = b then zq b l ++ [[]] else zdv (zq b l) c
  | [] => by
    simp only [List.nil_append, zq]
    split
    · rfl
    · simp [zdv]
  | d :: l => by
    have ih := zet b c l
    simp only [List.cons_append]
    unfold zq
    by_cases hd : d = b
    · rw [if_pos hd, if_pos hd, ih]
      split
      · rfl
      · rw [zeY _ _ _ (zaY b l)]
    · rw [if_neg hd, if_neg hd, ih]
      by_cases hc : c = b
      · rw [if_pos hc, if_pos hc]
        cases hp : zq b l with
        | nil => exact absurd hp (zaY b l)
        | cons p ps => rfl
      · rw [if_neg hc, if_neg hc]
        cases hp : zq b l with
        | nil => exact absurd hp (zaY b l)
        | cons p ps =>
          cases ps with
          | nil => simp [zdv]
          | cons q qs =>
            rw [zeY p (q :: qs) c (by simp)]
            exact (zeY (d :: p) (q :: qs) c (by simp)).symm
end Go.Proofs.YtckabcbfbpejkaaGreatDoor.Av
