/- Prefix: the laws PrefixTexts, PrefixTells, PrefixSplit, PrefixParses, PrefixBack. Part 11 of 19: AvZX. -/
import Derived.Test.YtckabcbfbpejkaaDoorPx9
import Derived.Sort.LotD1
namespace Go.Proofs.YtckabcbfbpejkaaDoor.Av.Zn
open Go
set_option linter.unusedSimpArgs false
set_option linter.unusedVariables false
set_option maxRecDepth 100000
set_option maxHeartbeats 4000000
set_option pp.maxSteps 150
def zih : ByteArray := ⟨#[0, 1, 2, 2, 3, 3, 3, 3, 4, 4, 4, 4, 4, 4, 4, 4, 5, 5, 5, 5, 5, 5, 5, 5, 5, 5, 5, 5, 5, 5, 5, 5, 6, 6, 6, 6, 6, 6, 6, 6, 6, 6, 6, 6, 6, 6, 6, 6, 6, 6, 6, 6, 6, 6, 6, 6, 6, 6, 6, 6, 6, 6, 6, 6, 7, 7, 7, 7, 7, 7, 7, 7, 7, 7, 7, 7, 7, 7, 7, 7, 7, 7, 7, 7, 7, 7, 7, 7, 7, 7, 7, 7, 7, 7, 7, 7, 7, 7, 7, 7, 7, 7, 7, 7, 7, 7, 7, 7, 7, 7, 7, 7, 7, 7, 7, 7, 7, 7, 7, 7, 7, 7, 7, 7, 7, 7, 7, 7, 8, 8, 8, 8, 8, 8, 8, 8, 8, 8, 8, 8, 8, 8, 8, 8, 8, 8, 8, 8, 8, 8, 8, 8, 8, 8, 8, 8, 8, 8, 8, 8, 8, 8, 8, 8, 8, 8, 8, 8, 8, 8, 8, 8, 8, 8, 8, 8, 8, 8, 8, 8, 8, 8, 8, 8, 8, 8, 8, 8, 8, 8, 8, 8, 8, 8, 8, 8, 8, 8, 8, 8, 8, 8, 8, 8, 8, 8, 8, 8, 8, 8, 8, 8, 8, 8, 8, 8, 8, 8, 8, 8, 8, 8, 8, 8, 8, 8, 8, 8, 8, 8, 8, 8, 8, 8, 8, 8, 8, 8, 8, 8, 8, 8, 8, 8, 8, 8, 8, 8, 8, 8, 8, 8, 8, 8, 8, 8]⟩
theorem zjG : ∀ x, x < 256 → ∃ b : UInt8, zih[x]? = some b ∧ b.toNat = Sort.bitsLen x := by
  have h : ∀ x, x < 256 → (zih[x]?).map (·.toNat) = some (Sort.bitsLen x) := by decide +kernel
  intro x hx
  obtain ⟨b, h1, h2⟩ := Option.map_eq_some_iff.1 (h x hx)
  exact ⟨b, h1, h2⟩
theorem ziV (x k : Nat) (h : 2 ^ k ≤ x) : Sort.bitsLen x = k + Sort.bitsLen (x / 2 ^ k) := by
  have key : ∀ m, Sort.bitsLen x ≤ m ↔ k + Sort.bitsLen (x / 2 ^ k) ≤ m := fun m => by
    rw [Sort.bitsLen_le_iff]
    by_cases hm : k ≤ m
    · have e : 2 ^ m = 2 ^ (m - k) * 2 ^ k := by rw [← Nat.pow_add]; congr 1; omega
      have : k + Sort.bitsLen (x / 2 ^ k) ≤ m ↔ Sort.bitsLen (x / 2 ^ k) ≤ m - k := by omega
      rw [this, Sort.bitsLen_le_iff, Nat.div_lt_iff_lt_mul (Nat.pow_pos (by omega)), e]
    · have : 2 ^ m ≤ 2 ^ k := Nat.pow_le_pow_right (by omega) (by omega)
      constructor <;> intro h' <;> omega
  have h1 := (key _).1 (Nat.le_refl _)
  have h2 := (key _).2 (Nat.le_refl _)
  omega
theorem zjH (x b : Nat) : Int.fdiv (x : Int) (b : Int) = ((x / b : Nat) : Int) := by
  rw [Int.fdiv_eq_ediv_of_nonneg _ (by omega)]; exact (Int.natCast_ediv x b).symm
theorem zjI (x b k : Nat) (hb : b = 2 ^ k) : ∃ y n : Nat, Sort.bitsLen x = n + Sort.bitsLen y ∧ ((b ≤ x ∧ y = x / b ∧ n = k) ∨ (x < b ∧ y = x ∧ n = 0)) := by
  subst hb
  rcases Nat.lt_or_ge x (2 ^ k) with h | h
  · exact ⟨x, 0, by omega, .inr ⟨h, rfl, rfl⟩⟩
  · exact ⟨x / 2 ^ k, k, ziV x k h, .inl ⟨h, rfl, rfl⟩⟩
theorem len64_calls (x : Nat) (hx : x < 18446744073709551616) : PCalls Tryd.prog 77 [.raw (.int .u64 x)] (.raw (.int .i64 (Sort.bitsLen x))) := by
  refine zL Tryd.func77 rfl (N := 25) rfl rfl (by simp) (by simp [noIds]) fun σ => ?_
  obtain ⟨y1, n1, e1, c1⟩ := zjI x 4294967296 32 (by decide)
  obtain ⟨y2, n2, e2, c2⟩ := zjI y1 65536 16 (by decide)
  obtain ⟨y3, n3, e3, c3⟩ := zjI y2 256 8 (by decide)
  have hl : Sort.bitsLen x = n1 + n2 + n3 + Sort.bitsLen y3 := by omega
  have b1 : y1 < 4294967296 := by rcases c1 with ⟨_, h, _⟩ | ⟨_, h, _⟩ <;> omega
  have b2 : y2 < 65536 := by rcases c2 with ⟨_, h, _⟩ | ⟨_, h, _⟩ <;> omega
  have b3 : y3 < 256 := by rcases c3 with ⟨_, h, _⟩ | ⟨_, h, _⟩ <;> omega
  have p1 : (2 : Int) ^ min 32 IntKind.u64.bits = (4294967296 : Nat) := by decide
  have p2 : (2 : Int) ^ min 16 IntKind.u64.bits = (65536 : Nat) := by decide
  have p3 : (2 : Int) ^ min 8 IntKind.u64.bits = (256 : Nat) := by decide
  have f1 : Int.fdiv x (2 ^ min 32 IntKind.u64.bits) = ((x / 4294967296 : Nat) : Int) := by rw [p1]; exact zjH x 4294967296
  have f2 : Int.fdiv y1 (2 ^ min 16 IntKind.u64.bits) = ((y1 / 65536 : Nat) : Int) := by rw [p2]; exact zjH y1 65536
  have f3 : Int.fdiv y2 (2 ^ min 8 IntKind.u64.bits) = ((y2 / 256 : Nat) : Int) := by rw [p3]; exact zjH y2 256
  clear p1 p2 p3
  have w1 : IntKind.u8.wrap (y3 : Int) = y3 := zmm (by omega) (by omega)
  obtain ⟨b, hb, hb2⟩ := zjG y3 b3
  unfold zih at hb
  have hb3 : Sort.bitsLen y3 < 256 := by rw [← hb2]; exact UInt8.toNat_lt b
  have w2 : IntKind.i64.wrap ((b.toNat : Nat) : Int) = Sort.bitsLen y3 := by rw [hb2]; exact zq (by omega) (by omega)
  rw [hl]
  clear e1 e2 e3 hl
  generalize Sort.bitsLen y3 = L at *
  have v : ∀ n : Int, 0 ≤ n → n < 1000 → IntKind.i64.wrap n = n := fun n h1 h2 => zq (by omega) (by omega)
  have v0 := v L (by omega) (by omega)
  have v1 := v (32 + L) (by omega) (by omega)
  have v2 := v (16 + L) (by omega) (by omega)
  have v3 := v (8 + L) (by omega) (by omega)
  have v4 := v (48 + L) (by omega) (by omega)
  have v5 := v (40 + L) (by omega) (by omega)
  have v6 := v (24 + L) (by omega) (by omega)
  have v7 := v (56 + L) (by omega) (by omega)
  have u1 : IntKind.i64.wrap 48 = 48 := by decide
  have u2 : IntKind.i64.wrap 40 = 40 := by decide
  have u3 : IntKind.i64.wrap 24 = 24 := by decide
  have u4 : IntKind.i64.wrap 56 = 56 := by decide
  have u5 : IntKind.i64.wrap 16 = 16 := by decide
  have u6 : IntKind.i64.wrap 8 = 8 := by decide
  have C1 : (((4294967296 : Int) ≤ x) = True ∧ y1 = x / 4294967296 ∧ n1 = 32) ∨ (((4294967296 : Int) ≤ x) = False ∧ y1 = x ∧ n1 = 0) := by
    rcases c1 with ⟨h, r, q⟩ | ⟨h, r, q⟩
    · exact .inl ⟨eq_true (by omega), r, q⟩
    · exact .inr ⟨eq_false (by omega), r, q⟩
  have C2 : (((65536 : Int) ≤ y1) = True ∧ y2 = y1 / 65536 ∧ n2 = 16) ∨ (((65536 : Int) ≤ y1) = False ∧ y2 = y1 ∧ n2 = 0) := by
    rcases c2 with ⟨h, r, q⟩ | ⟨h, r, q⟩
    · exact .inl ⟨eq_true (by omega), r, q⟩
    · exact .inr ⟨eq_false (by omega), r, q⟩
  have C3 : (((256 : Int) ≤ y2) = True ∧ y3 = y2 / 256 ∧ n3 = 8) ∨ (((256 : Int) ≤ y2) = False ∧ y3 = y2 ∧ n3 = 0) := by
    rcases c3 with ⟨h, r, q⟩ | ⟨h, r, q⟩
    · exact .inl ⟨eq_true (by omega), r, q⟩
    · exact .inr ⟨eq_false (by omega), r, q⟩
  clear c1 c2 c3
  rcases C1 with ⟨h1, r1, rfl⟩ | ⟨h1, rfl, rfl⟩ <;> rcases C2 with ⟨h2, r2, rfl⟩ | ⟨h2, rfl, rfl⟩ <;> rcases C3 with ⟨h3, r3, rfl⟩ | ⟨h3, rfl, rfl⟩
  all_goals
    try rw [← r1] at f1
    try rw [← r2] at f2
    try rw [← r3] at f3
    have FF := fI @f1 (fI @f2 (fI @f3 (fI @h1 (fI @h2 (fI @h3 (fI @w1 (fI @hb (fI @w2 (fI @v0 (fI @v1 (fI @v2 (fI @v3 (fI @v4 (fI @v5 (fI @v6 (fI @v7 (fI @u1 (fI @u2 (fI @u3 (fI @u4 (fI @u5 @u6))))))))))))))))))))); exact zr
end Go.Proofs.YtckabcbfbpejkaaDoor.Av.Zn
