/- Rules: the laws RuleTexts, RuleMatches. Part 19 of 22: AvS6, AvS7, AvS8, AvP7, AvP8, AvP9, AvRA, AvRB, AvS9, AvSA, AvSC, AvSD, AvSE. -/
import Derived.Test.YtckabcbfbpejkaaGreatDoorRy8
import Derived.Test.YtckabcbfbpejkaaGreatDoorRy9
import Derived.Test.YtckabcbfbpejkaaGreatDoorRy11
import Derived.Test.YtckabcbfbpejkaaGreatDoorRy18
import Derived.Lib.TrailingZeros
namespace Go.Proofs.YtckabcbfbpejkaaGreatDoor.Av
open Go
set_option linter.unusedSimpArgs false
set_option linter.unusedVariables false
set_option maxRecDepth 100000
set_option maxHeartbeats 4000000
set_option pp.maxSteps 600
def zfn (a b : Nat) : Nat := min (min (Lib.ctz 64 a) 32) (Sort.bitsLen (b + 1 - a) - 1)
def zcR (a b : Nat) : List (Nat × Nat) := if a ≤ b then (a, 32 - zfn a b) :: zcR (a + 2 ^ zfn a b) b else []
termination_by b + 1 - a
decreasing_by have : 0 < 2 ^ zfn a b := Nat.pow_pos (by omega); omega
def pfN (p : Nat × Nat) : AV := .agg [.raw (.int .u32 p.1), .raw (.int .i64 p.2)]
theorem zk2 {a b : Nat} (h : a ≤ b) : zcR a b = (a, 32 - zfn a b) :: zcR (a + 2 ^ zfn a b) b := by rw [zcR, if_pos h]
theorem zl2 {a b : Nat} (h : ¬ a ≤ b) : zcR a b = [] := by rw [zcR, if_neg h]
theorem zl3 (a b : Nat) : (zcR a b).length ≤ b + 1 - a := by
  by_cases h : a ≤ b
  · rw [zk2 h, List.length_cons]
    have h2 : 0 < 2 ^ zfn a b := Nat.pow_pos (by omega)
    have := zl3 (a + 2 ^ zfn a b) b
    omega
  · rw [zl2 h]; simp
termination_by b + 1 - a
decreasing_by omega
def zqB (l : List (Nat × Nat)) (f : Bool) : AV := .sl 2 (l.map pfN) f
def zs1 (a b : Nat) : AV := if a ≤ b then .tup [zqB (zcR a b) false, .raw (.int .i64 0)] else .tup [.sl 0 [] true, .raw (.int .i64 21)]
end Go.Proofs.YtckabcbfbpejkaaGreatDoor.Av
namespace Go.Proofs.YtckabcbfbpejkaaGreatDoor.Av
open Go
set_option linter.unusedSimpArgs false
set_option linter.unusedVariables false
set_option maxRecDepth 100000
set_option maxHeartbeats 4000000
set_option pp.maxSteps 600
def ofP (a b : Nat) : Option (Nat × Nat) := match zcR a b with | [p] => some p | _ => none
def ofA (o : Option (Nat × Nat)) : AV := match o with | some p => .tup [pfN p, .raw (.bool true)] | none => .tup [pfN (0, 0), .raw (.bool false)]
end Go.Proofs.YtckabcbfbpejkaaGreatDoor.Av
namespace Go.Proofs.YtckabcbfbpejkaaGreatDoor.Av
open Go
set_option linter.unusedSimpArgs false
set_option linter.unusedVariables false
set_option maxRecDepth 100000
set_option maxHeartbeats 4000000
set_option pp.maxSteps 600
theorem zdd {a n : Nat} : zbX a n = true ↔ n ≤ 32 ∧ a % 2 ^ (32 - n) = 0 := by simp [zbX]
end Go.Proofs.YtckabcbfbpejkaaGreatDoor.Av
namespace Go.Proofs.YtckabcbfbpejkaaGreatDoor.Av
open Go
set_option linter.unusedSimpArgs false
set_option linter.unusedVariables false
theorem zdn {b : UInt8} : ∀ {x : Bs}, b ∉ x → zq b x = [x]
  | [], _ => rfl
  | c :: x, h => by
    have h1 : ¬ c = b := fun e => h (by simp [e])
    have h2 : b ∉ x := fun e => h (by simp [e])
    unfold zq
    rw [if_neg h1, zdn h2]
theorem zdo {b : UInt8} : ∀ {x : Bs} (y : Bs), b ∉ x → zq b (x ++ b :: y) = x :: zq b y
  | [], y, _ => by simp [zq]
  | c :: x, y, h => by
    have h1 : ¬ c = b := fun e => h (by simp [e])
    have h2 : b ∉ x := fun e => h (by simp [e])
    rw [List.cons_append]
    conv => lhs; unfold zq
    rw [if_neg h1, zdo y h2]
theorem ziZ {b : UInt8} : ∀ {x x' y y' : Bs}, b ∉ x → b ∉ x' → x ++ b :: y = x' ++ b :: y' → x = x' ∧ y = y'
  | [], [], y, y', _, _, e => by simpa using e
  | [], c :: x', y, y', _, h, e => by simp at e; exact absurd (by simp [e.1]) h
  | c :: x, [], y, y', h, _, e => by simp at e; exact absurd (by simp [e.1]) h
  | c :: x, d :: x', y, y', h, h', e => by
    simp only [List.cons_append, List.cons.injEq] at e
    obtain ⟨e1, e2⟩ := ziZ (fun k => h (by simp [k])) (fun k => h' (by simp [k])) e.2
    exact ⟨by rw [e.1, e1], e2⟩
theorem zol {b : UInt8} {x : Bs} (y : Bs) (h : b ∉ x) : Lib.cut (x ++ b :: y) [b] = (x, y, true) := by
  rcases zeO b (x ++ b :: y) with ⟨_, _, k⟩ | ⟨x', y', e, h', k, _⟩
  · exact absurd (by simp) k
  · obtain ⟨rfl, rfl⟩ := ziZ h h' e
    exact k
theorem zf6 {n : Nat} {b : UInt8} (h : b.toNat < 48) : b ∉ zz n := fun k => by have := zfF n b k; omega
theorem zfo (a : Nat) : zaf a = zz (a / 16777216) ++ 46 :: (zz (a / 65536 % 256) ++ 46 :: (zz (a / 256 % 256) ++ 46 :: zz (a % 256))) := by
  simp [zaf, za9, Lib.join_cons, Lib.joinTail]
theorem zkp {a : Nat} {b : UInt8} (h : b.toNat < 46) : b ∉ zaf a := by
  have h' : b.toNat < 48 := by omega
  have h2 : ¬ b = 46 := fun e => by subst e; exact absurd h (by decide)
  rw [zfo]
  simp [zf6 h', h2]
theorem zl4 {a : Nat} : (47 : UInt8) ∉ zaf a := by
  have h2 : ¬ (47 : UInt8) = 46 := by decide
  have h3 : ∀ n, (47 : UInt8) ∉ zz n := fun n => zf6 (by decide)
  rw [zfo]
  simp [h3, h2]
theorem zgL {a : Nat} (h : a < 4294967296) : zam (zaf a) = some a := by
  have h3 : ∀ n, (46 : UInt8) ∉ zz n := fun n => zf6 (by decide)
  unfold zam
  rw [zfo, zdo _ (h3 _), zdo _ (h3 _), zdo _ (h3 _), zdn (h3 _)]
  refine (if_pos rfl).trans ?_
  simp only [zby, zdi (show a / 16777216 ≤ 255 by omega), zdi (show a / 65536 % 256 ≤ 255 by omega), zdi (show a / 256 % 256 ≤ 255 by omega), zdi (show a % 256 ≤ 255 by omega)]
  congr 1
  omega
theorem zkq {a b : Nat} : zbP (zY a b) = none := by
  have hno : (47 : UInt8) ∉ zY a b := by
    have h2 : ¬ (47 : UInt8) = 45 := by decide
    simp [zY, zl4, h2]
  rcases zeO 47 (zY a b) with ⟨k, _, _⟩ | ⟨x, y, e, _⟩
  · unfold zbP
    rw [k]
    simp only []
    split <;> simp
  · rw [e] at hno
    exact absurd (by simp) hno
theorem zfy {a b : Nat} (h : a < 4294967296) (h' : b < 4294967296) (hab : a ≤ b) : zbi (zY a b) = some (a, b) := by
  have e : zY a b = zaf a ++ 45 :: zaf b := by simp [zY]
  unfold zbi
  rw [zkq]
  simp only []
  rw [e, zol _ (zkp (by decide))]
  simp only [zgL h, zgL h', hab, and_self, if_true]
end Go.Proofs.YtckabcbfbpejkaaGreatDoor.Av
namespace Go.Proofs.YtckabcbfbpejkaaGreatDoor.Av
open Go
set_option linter.unusedSimpArgs false
set_option linter.unusedVariables false
theorem zi0 (b c : UInt8) : ∀ s : Bs, c ∈ s → c = b ∨ ∃ p ∈ zq b s, c ∈ p
  | [], h => by simp at h
  | d :: s, h => by
    have ih := zi0 b c s
    unfold zq
    by_cases hd : d = b
    · rw [if_pos hd]
      rcases List.mem_cons.1 h with h | h
      · exact .inl (h.trans hd)
      · rcases ih h with h | ⟨p, h1, h2⟩
        · exact .inl h
        · exact .inr ⟨p, by simp [h1], h2⟩
    · rw [if_neg hd]
      cases hp : zq b s with
      | nil => exact absurd hp (zaY b s)
      | cons p ps =>
        rw [hp] at ih
        rcases List.mem_cons.1 h with h | h
        · exact .inr ⟨d :: p, by simp, by simp [h]⟩
        · rcases ih h with h | ⟨q, h1, h2⟩
          · exact .inl h
          · rcases List.mem_cons.1 h1 with h1 | h1
            · subst h1; exact .inr ⟨d :: q, by simp, by simp [h2]⟩
            · exact .inr ⟨q, by simp [h1], h2⟩
theorem zfp {b : UInt8} : ∀ {s : Bs}, b ∈ s → 2 ≤ (zq b s).length
  | [], h => by simp at h
  | d :: s, h => by
    unfold zq
    by_cases hd : d = b
    · rw [if_pos hd]
      have : (zq b s) ≠ [] := zaY b s
      have := List.length_pos_iff.2 this
      simp; omega
    · rw [if_neg hd]
      have ih := zfp (s := s) (b := b) (by rcases List.mem_cons.1 h with h | h; exact absurd h.symm hd; exact h)
      cases hp : zq b s with
      | nil => exact absurd hp (zaY b s)
      | cons p ps => rw [hp] at ih; simpa using ih
theorem zkr {m : Nat} {s : Bs} {b : UInt8} (hb : b.toNat < 48) (h : b ∈ s) : zaC m s = none := by
  cases hn : zaC m s with
  | none => rfl
  | some n => obtain ⟨rfl, _⟩ := zbI.1 hn; exact absurd h (zf6 hb)
theorem zks {b : UInt8} (hb : b.toNat < 48) : ∀ {l : List Bs} {a : Nat}, (∃ p ∈ l, b ∈ p) → zby l a = none
  | [], _, h => by simp at h
  | x :: l, a, ⟨p, h1, h2⟩ => by
    unfold zby
    rcases List.mem_cons.1 h1 with h1 | h1
    · subst h1; rw [zkr hb h2]
    · split
      · exact zks hb ⟨p, h1, h2⟩
      · rfl
theorem znD {b : UInt8} {s : Bs} (hb : b.toNat < 46) (h : b ∈ s) : zam s = none := by
  unfold zam
  split
  · rcases zi0 46 b s h with e | e
    · subst e; exact absurd hb (by decide)
    · exact zks (by omega) e
  · rfl
def zea (s : Bs) : Option (Nat × Nat) := match zq 47 s with
  | [h, t] => match zam h, zaC 32 t with
    | some a, some n => if zbX a n = true then some (a, n) else none
    | _, _ => none
  | _ => none
theorem zk3 (s : Bs) : zea s = zbP s := by
  unfold zea zbP
  rcases zeO 47 s with ⟨h1, h2, h3⟩ | ⟨h, t, e, h3, h1, h2⟩
  · rw [h1, h2]
    simp only []
    split <;> simp
  · rw [h1, h2]
    simp only []
    by_cases ht : (47 : UInt8) ∈ t
    · have hl := zfp ht
      rw [zkr (by decide) ht]
      cases hp : zq 47 t with
      | nil => exact absurd hp (zaY 47 t)
      | cons p ps => cases ps with
        | nil => rw [hp] at hl; simp at hl
        | cons q qs =>
          simp only []
          cases zam h <;> rfl
    · rw [zdn ht]
      simp only [true_and]
      cases zam h <;> cases zaC 32 t <;> rfl
def zcA (s : Bs) : Option (Nat × Nat) := match zbP s with
  | some (a, n) => some (a, a + 2 ^ (32 - n) - 1)
  | none => match zq 45 s with
    | [h, t] => match zam h, zam t with
      | some a, some b => if a ≤ b then some (a, b) else none
      | _, _ => none
    | _ => none
theorem zkt (s : Bs) : zcA s = zbi s := by
  unfold zcA zbi
  cases zbP s with
  | some p => rfl
  | none =>
    simp only []
    rcases zeO 45 s with ⟨h1, h2, h3⟩ | ⟨h, t, e, h3, h1, h2⟩
    · rw [h1, h2]
      simp only []
      split <;> simp
    · rw [h1, h2]
      simp only []
      by_cases ht : (45 : UInt8) ∈ t
      · have hl := zfp ht
        rw [znD (by decide) ht]
        cases hp : zq 45 t with
        | nil => exact absurd hp (zaY 45 t)
        | cons p ps => cases ps with
          | nil => rw [hp] at hl; simp at hl
          | cons q qs =>
            simp only []
            cases zam h <;> rfl
      · rw [zdn ht]
        simp only [true_and]
        cases zam h <;> cases zam t <;> rfl
end Go.Proofs.YtckabcbfbpejkaaGreatDoor.Av
namespace Go.Proofs.YtckabcbfbpejkaaGreatDoor.Av
open Go
set_option linter.unusedSimpArgs false
set_option linter.unusedVariables false
def zk : Nat → Bs
  | 0 => [102, 111, 114, 119, 97, 114, 100]
  | 1 => [100, 114, 111, 112]
  | 2 => [112, 101, 114, 109, 105, 116]
  | _ => [100, 101, 110, 121]
def zah (r : Ru) : List Bs := [zz r.id.toNat, zz r.dev.toNat, zz r.prio.toNat, zk r.kind.toNat, zY r.r.lo.toNat r.r.hi.toNat] ++ if r.kind = 0 then [zz r.port.toNat] else []
def zV (r : Ru) : Bs := Lib.join (zah r) [32]
structure RuOK (r : Ru) : Prop where
  b : zay r = true
  lo : 0 ≤ r.r.lo
  hi : r.r.hi < 4294967296
structure RuN (r : Ru) : Prop where
  id0 : 1 ≤ r.id
  id1 : r.id ≤ 1048576
  dev0 : 0 ≤ r.dev
  dev1 : r.dev ≤ 7
  prio0 : 0 ≤ r.prio
  prio1 : r.prio ≤ 1024
  kind0 : 0 ≤ r.kind
  kind1 : r.kind ≤ 3
  port0 : 0 ≤ r.port
  port1 : r.port ≤ 3
  kp : r.kind = 0 ∨ r.port = 0
  le : r.r.lo ≤ r.r.hi
theorem ruN {r : Ru} (h : zay r = true) : RuN r := by
  unfold zay at h
  simp only [Bool.and_eq_true, Bool.or_eq_true, decide_eq_true_eq] at h
  obtain ⟨⟨⟨⟨⟨⟨⟨h1, h2⟩, h3, h4⟩, h5, h6⟩, h7, h8⟩, h9, h10⟩, h11⟩, h12⟩ := h
  exact ⟨h1, h2, h3, h4, h5, h6, h7, h8, h9, h10, h11, h12⟩
theorem zl5 (n : Nat) : (32 : UInt8) ∉ zz n := zf6 (by decide)
theorem znE (k : Nat) : (32 : UInt8) ∉ zk k := by
  unfold zk
  split <;> decide
theorem zk4 (a b : Nat) : (32 : UInt8) ∉ zY a b := by
  have h2 : ¬ (32 : UInt8) = 45 := by decide
  have h3 : ∀ a, (32 : UInt8) ∉ zaf a := fun a => zkp (by decide)
  simp [zY, h3, h2]
theorem znF (r : Ru) : ∀ x ∈ zah r, (32 : UInt8) ∉ x := by
  intro x hx
  unfold zah at hx
  rw [List.mem_append] at hx
  rcases hx with hx | hx
  · simp only [List.mem_cons, List.not_mem_nil, or_false] at hx
    rcases hx with rfl | rfl | rfl | rfl | rfl
    · exact zl5 _
    · exact zl5 _
    · exact zl5 _
    · exact znE _
    · exact zk4 _ _
  · split at hx
    · simp only [List.mem_cons, List.not_mem_nil, or_false] at hx
      subst hx; exact zl5 _
    · simp at hx
theorem zh5 {b : UInt8} : ∀ {x : Bs} {l : List Bs}, (∀ y ∈ x :: l, b ∉ y) → zq b (Lib.join (x :: l) [b]) = x :: l
  | x, [], h => by
    have : Lib.join [x] [b] = x := by simp [Lib.join_cons, Lib.joinTail]
    rw [this]
    exact zdn (h x (by simp))
  | x, y :: l, h => by
    have ih := zh5 (b := b) (x := y) (l := l) fun z hz => h z (by simp at hz ⊢; right; exact hz)
    have e : Lib.join (x :: y :: l) [b] = x ++ b :: Lib.join (y :: l) [b] := by simp [Lib.join_cons, Lib.joinTail]
    rw [e, zdo _ (h x (by simp)), ih]
theorem zk5 (r : Ru) : zq 32 (zV r) = zah r := zh5 (znF r)
theorem zf7 (r : Ru) : (zah r).length = 5 ∨ (zah r).length = 6 := by
  unfold zah
  split <;> simp
theorem zdH (r : Ru) : (zah r).length = 6 ↔ r.kind = 0 := by
  unfold zah
  split <;> simp [*]
structure Cand (c : List Bs → Option Ru) : Prop where
  back : ∀ r, RuOK r → c (zah r) = some r
  ok : ∀ w r, c w = some r → 0 ≤ r.r.lo ∧ r.r.hi < 4294967296
def zco (c : List Bs → Option Ru) (s : Bs) : Option Ru := match c (zq 32 s) with
  | some r => if zay r = true ∧ zV r = s then some r else none
  | none => none
theorem zi1 {c : List Bs → Option Ru} (hc : Cand c) (s : Bs) (r : Ru) : zco c s = some r ↔ RuOK r ∧ zV r = s := by
  unfold zco
  constructor
  · intro h
    split at h
    · rename_i q hq
      split at h
      · rename_i hk
        simp only [Option.some.injEq] at h
        subst h
        have := hc.ok _ _ hq
        exact ⟨⟨hk.1, this.1, this.2⟩, hk.2⟩
      · cases h
    · cases h
  · rintro ⟨h, rfl⟩
    rw [zk5, hc.back r h]
    simp only []
    simp [h.b]
theorem znG {c d : List Bs → Option Ru} (hc : Cand c) (hd : Cand d) (s : Bs) : zco c s = zco d s := by
  have h1 := fun r => (zi1 hc s r).trans (zi1 hd s r).symm
  cases h : zco c s with
  | some r => exact ((h1 r).1 h).symm
  | none => cases h' : zco d s with
    | none => rfl
    | some r => rw [(h1 r).2 h'] at h; cases h
def zci (s : Bs) : Int := match Lib.atoiAll s with | .ok v => if Lib.itoa v = s then v else -1 | _ => -1
theorem zfq {n : Nat} (h : n < 9223372036854775808) : zci (zz n) = n := by
  have e : Lib.itoa (n : Int) = zz n := by
    unfold Lib.itoa
    rw [if_neg (by omega)]
    simp [zz]
  unfold zci
  rw [zgS n h]
  simp only []
  rw [if_pos e]
def zab (most : Nat) (s : Bs) : Int := match zaC most s with | some n => n | none => -1
theorem zdI {n most : Nat} (h : n ≤ most) : zab most (zz n) = n := by unfold zab; rw [zdi h]
def zgo (s : Bs) : Int := if s = zk 0 then 0 else if s = zk 1 then 1 else if s = zk 2 then 2 else if s = zk 3 then 3 else -1
def zgp (s : Bs) : Int := if s = zk 1 then 1 else if s = zk 2 then 2 else if s = zk 3 then 3 else 0
theorem zh6 {k : Int} (h0 : 0 ≤ k) (h1 : k ≤ 3) : zgo (zk k.toNat) = k ∧ zgp (zk k.toNat) = k := by
  have : k = 0 ∨ k = 1 ∨ k = 2 ∨ k = 3 := by omega
  rcases this with rfl | rfl | rfl | rfl <;> decide
def zem (w : List Bs) : Option Ru :=
  if w.length = 5 ∨ w.length = 6 then
    match zbi (w.getD 4 []) with
    | some (a, b) => some ⟨zci (w.getD 0 []), zci (w.getD 1 []), zci (w.getD 2 []), zgo (w.getD 3 []), ⟨a, b⟩, if w.length = 6 then zci (w.getD 5 []) else 0⟩
    | none => none
  else none
def zgq (w : List Bs) : Option Ru :=
  if w.length = 5 ∨ w.length = 6 then
    match zbi (w.getD 4 []) with
    | some (a, b) => some ⟨zab 1048576 (w.getD 0 []), zab 9 (w.getD 1 []), zab 1024 (w.getD 2 []), zgp (w.getD 3 []), ⟨a, b⟩, if w.length = 6 then zab 9 (w.getD 5 []) else 0⟩
    | none => none
  else none
theorem zcB {s : Bs} {a b : Nat} (h : zbi s = some (a, b)) : a < 4294967296 ∧ b < 4294967296 := by
  unfold zbi at h
  split at h
  · rename_i a' n hp
    obtain ⟨h1, h2, _, h4⟩ := zfl hp
    have ha := zcr h1
    have hm := (zdd.1 h4).1
    simp only [Option.some.injEq, Prod.mk.injEq] at h
    obtain ⟨rfl, rfl⟩ := h
    refine ⟨ha, ?_⟩
    obtain ⟨q, hq⟩ := Nat.dvd_of_mod_eq_zero (zdd.1 h4).2
    have e32 : 4294967296 = 2 ^ (32 - n) * 2 ^ n := by rw [← Nat.pow_add, show 32 - n + n = 32 by omega]
    have hp : 0 < 2 ^ (32 - n) := Nat.pow_pos (by omega)
    rw [hq, e32] at ha
    have hq2 : q < 2 ^ n := Nat.lt_of_mul_lt_mul_left ha
    have := Nat.mul_le_mul_left (2 ^ (32 - n)) (show q + 1 ≤ 2 ^ n from hq2)
    rw [Nat.mul_add, Nat.mul_one] at this
    omega
  · split at h
    · rename_i a' b' h1 h2
      split at h
      · simp only [Option.some.injEq, Prod.mk.injEq] at h
        obtain ⟨rfl, rfl⟩ := h
        exact ⟨zcr h1, zcr h2⟩
      · cases h
    · cases h
theorem zom : ∀ w r, zem w = some r → 0 ≤ r.r.lo ∧ r.r.hi < 4294967296 := by
  intro w r h
  unfold zem at h
  split at h
  · split at h
    · rename_i a b hr
      simp only [Option.some.injEq] at h
      subst h
      have := zcB hr
      exact ⟨by simp, by simp; omega⟩
    · cases h
  · cases h
theorem znH : ∀ w r, zgq w = some r → 0 ≤ r.r.lo ∧ r.r.hi < 4294967296 := by
  intro w r h
  unfold zgq at h
  split at h
  · split at h
    · rename_i a b hr
      simp only [Option.some.injEq] at h
      subst h
      have := zcB hr
      exact ⟨by simp, by simp; omega⟩
    · cases h
  · cases h
theorem zku (r : Ru) : (zah r).getD 0 [] = zz r.id.toNat ∧ (zah r).getD 1 [] = zz r.dev.toNat ∧ (zah r).getD 2 [] = zz r.prio.toNat ∧ (zah r).getD 3 [] = zk r.kind.toNat ∧ (zah r).getD 4 [] = zY r.r.lo.toNat r.r.hi.toNat ∧ (r.kind = 0 → (zah r).getD 5 [] = zz r.port.toNat) := by
  refine ⟨rfl, rfl, rfl, rfl, rfl, fun h => ?_⟩
  unfold zah
  rw [if_pos h]; rfl
theorem zl6 : Cand zem := by
  refine ⟨fun r h => ?_, zom⟩
  have n := ruN h.b
  obtain ⟨id0, id1, dev0, dev1, prio0, prio1, kind0, kind1, port0, port1, kp, le⟩ := n
  obtain ⟨e0, e1, e2, e3, e4, e5⟩ := zku r
  obtain ⟨hb, hlo, hhi⟩ := h
  unfold zem
  rw [if_pos (zf7 r), e0, e1, e2, e3, e4, zfy (by omega) (by omega) (by omega), zfq (by omega), zfq (by omega), zfq (by omega), (zh6 kind0 kind1).1]
  simp only []
  have hp : (if (zah r).length = 6 then zci ((zah r).getD 5 []) else 0) = r.port := by
    by_cases hk : r.kind = 0
    · rw [if_pos ((zdH r).2 hk), e5 hk, zfq (by omega)]; omega
    · rw [if_neg (fun e => hk ((zdH r).1 e))]; omega
  rw [hp]
  obtain ⟨id, dev, prio, kind, ⟨lo, hi⟩, port⟩ := r
  simp only [Option.some.injEq, Ru.mk.injEq, Rg.mk.injEq, and_true, true_and] at *
  omega
theorem zl7 : Cand zgq := by
  refine ⟨fun r h => ?_, znH⟩
  have n := ruN h.b
  obtain ⟨id0, id1, dev0, dev1, prio0, prio1, kind0, kind1, port0, port1, kp, le⟩ := n
  obtain ⟨e0, e1, e2, e3, e4, e5⟩ := zku r
  obtain ⟨hb, hlo, hhi⟩ := h
  unfold zgq
  rw [if_pos (zf7 r), e0, e1, e2, e3, e4, zfy (by omega) (by omega) (by omega), zdI (by omega), zdI (by omega), zdI (by omega), (zh6 kind0 kind1).2]
  simp only []
  have hp : (if (zah r).length = 6 then zab 9 ((zah r).getD 5 []) else 0) = r.port := by
    by_cases hk : r.kind = 0
    · rw [if_pos ((zdH r).2 hk), e5 hk, zdI (by omega)]; omega
    · rw [if_neg (fun e => hk ((zdH r).1 e))]; omega
  rw [hp]
  obtain ⟨id, dev, prio, kind, ⟨lo, hi⟩, port⟩ := r
  simp only [Option.some.injEq, Ru.mk.injEq, Rg.mk.injEq, and_true, true_and] at *
  omega
theorem zmX {r : Ru} (h : RuOK r) : (zV r).length ≤ 80 := by
  obtain ⟨id0, id1, dev0, dev1, prio0, prio1, kind0, kind1, port0, port1, kp, le⟩ := ruN h.b
  obtain ⟨hb, hlo, hhi⟩ := h
  have d1 := zaM r.id.toNat 7 (by omega) (by omega)
  have d2 := zaM r.dev.toNat 1 (by omega) (by omega)
  have d3 := zaM r.prio.toNat 4 (by omega) (by omega)
  have d4 : (zk r.kind.toNat).length ≤ 7 := by unfold zk; split <;> decide
  have d5 := zbt (a := r.r.lo.toNat) (by omega)
  have d6 := zbt (a := r.r.hi.toNat) (by omega)
  have d7 := zaM r.port.toNat 1 (by omega) (by omega)
  unfold zV zah
  split
  · simp [Lib.join_cons, Lib.joinTail, zY]; omega
  · simp [Lib.join_cons, Lib.joinTail, zY]; omega
end Go.Proofs.YtckabcbfbpejkaaGreatDoor.Av
namespace Go.Proofs.YtckabcbfbpejkaaGreatDoor.Av
open Go
set_option linter.unusedSimpArgs false
set_option linter.unusedVariables false
set_option maxRecDepth 100000
set_option maxHeartbeats 4000000
set_option pp.maxSteps 600
theorem zgM : PCalls Tryz.prog 21 [] (.agg [ze (zk 0), ze (zk 1), ze (zk 2), ze (zk 3)]) := by
  refine zD Tryz.func21 rfl (N := 2) rfl rfl (by simp) (by simp [noIds, AV.ids, zx]) fun σ => ?_
  unfold ze zk zf
  have FF := fI @zl (fI @zo @zb); exact zJ
theorem zl8 {s : Bs} {v : Int} (h : Lib.atoiAll s = .ok v) : -9223372036854775808 ≤ v ∧ v ≤ 9223372036854775807 := by
  unfold Lib.atoiAll at h
  split at h
  · cases h
  · dsimp only at h
    split at h
    · cases h
    · cases h
    · split at h
      · cases h
      · split at h
        · cases h
        · injection h with h
          subst h
          split <;> omega
theorem zaS (s : Bs) (hl : s.length ≤ 1000) : PCalls Tryz.prog 33 [ze s] (.raw (.int .i64 (zci s))) := by
  have hA := zh0 s hl
  have wm1 : IntKind.i64.wrap (-1) = -1 := zA (by omega) (by omega)
  refine zD Tryz.func33 rfl (N := 19) rfl rfl (by simp) (by simp [noIds]) fun σ => ?_
  unfold zhZ at hA
  unfold zci
  cases hq : Lib.atoiAll s with
  | ok v =>
    rw [hq] at hA
    simp only [] at hA ⊢
    have hv : -9223372036854775808 ≤ v ∧ v ≤ 9223372036854775807 := zl8 hq
    have hI := zbO v (by omega) (by omega)
    have c3 := zbW (Lib.itoa v) s
    by_cases hb : Lib.itoa v = s
    · have c4 : ((zf (Lib.itoa v)).toList == (zf s).toList) = true := by rw [c3]; simpa using hb
      rw [if_pos hb]
      unfold ze at *
      generalize zf (Lib.itoa v) = X at *
      clear hb c3
      have FF := @c4; exact zJ
    · have c4 : ((zf (Lib.itoa v)).toList == (zf s).toList) = false := by rw [c3]; simpa using hb
      rw [if_neg hb]
      unfold ze at *
      generalize zf (Lib.itoa v) = X at *
      clear hb c3
      have FF := fI @c4 @wm1; exact zJ
  | _ =>
    rw [hq] at hA
    simp only [] at hA ⊢
    have FF := fI ze.eq_1 @wm1; exact zJ
theorem zbE (r : Ru) (h : RuOK r) : PCalls Tryz.prog 6 [zc r] (ze (zV r)) := by
  have n := ruN h.b
  have hlen := zmX h
  have hwl := zf7 r
  obtain ⟨hb, hlo, hhi⟩ := h
  obtain ⟨id, dev, prio, kind, ⟨lo, hi⟩, port⟩ := r
  obtain ⟨id0, id1, dev0, dev1, prio0, prio1, kind0, kind1, port0, port1, kp, le⟩ := n
  simp only [] at *
  obtain ⟨id, rfl⟩ : ∃ k : Nat, id = k := ⟨id.toNat, by omega⟩
  obtain ⟨dev, rfl⟩ : ∃ k : Nat, dev = k := ⟨dev.toNat, by omega⟩
  obtain ⟨prio, rfl⟩ : ∃ k : Nat, prio = k := ⟨prio.toNat, by omega⟩
  obtain ⟨port, rfl⟩ : ∃ k : Nat, port = k := ⟨port.toNat, by omega⟩
  obtain ⟨lo, rfl⟩ : ∃ k : Nat, lo = k := ⟨lo.toNat, by omega⟩
  obtain ⟨hi, rfl⟩ : ∃ k : Nat, hi = k := ⟨hi.toNat, by omega⟩
  have i1 := zbO id (by omega) (by omega)
  have i2 := zbO dev (by omega) (by omega)
  have i3 := zbO prio (by omega) (by omega)
  have i4 := zbO port (by omega) (by omega)
  rw [zkl] at i1 i2 i3 i4
  have hR := zh4 lo hi (by omega) (by omega)
  have hN := zgM
  have hW := zbC kind 0 3
  have hk : (decide (0 ≤ kind) && decide (kind ≤ 3)) = true := by simp; omega
  rw [hk] at hW
  have hc1 : ∀ l : Bs, (ze l).cells = [ze l] := fun _ => rfl
  have hc2 : ∀ l : Bs, cellOK (ze l) = true := fun _ => rfl
  have hJ : ∀ l : List Bs, zah ⟨id, dev, prio, kind, ⟨lo, hi⟩, port⟩ = l → PCalls Tryz.prog 24 [.sl 1 (l.map ze) false, ze [32]] (ze (zV ⟨id, dev, prio, kind, ⟨lo, hi⟩, port⟩)) := fun l hl => by
    subst hl
    exact zgJ (zah ⟨id, dev, prio, kind, ⟨lo, hi⟩, port⟩) false [32] (by omega) (by unfold zV at hlen; omega) (by intro e; rw [e] at hwl; simp at hwl)
  generalize zV ⟨id, dev, prio, kind, ⟨lo, hi⟩, port⟩ = T at *
  have e32 : AV.raw (.string (ByteArray.mk #[32])) = ze [32] := rfl
  refine zD Tryz.func6 rfl (N := 37) rfl rfl (by simp) (by simp [noIds]) fun σ => ?_
  unfold zah at hJ
  simp only [Int.toNat_natCast] at hJ
  have hkk : kind = 0 ∨ kind = 1 ∨ kind = 2 ∨ kind = 3 := by omega
  clear hlen hwl hk hb kp
  generalize zz id = X1 at *
  generalize zz dev = X2 at *
  generalize zz prio = X3 at *
  generalize zz port = X4 at *
  generalize zY lo hi = X5 at *
  rcases hkk with rfl | hkk
  · have hj := hJ [X1, X2, X3, zk 0, X5, X4] rfl
    clear hJ
    generalize zk 0 = W0 at *
    generalize zk 1 = W1 at *
    generalize zk 2 = W2 at *
    generalize zk 3 = W3 at *
    (try ((first | with_reducible refine zy ?_ | with_reducible refine zG ?_ | with_reducible refine zH ?_); simp [-cellOK, zc, hc1, hc2, e32, -zM])); repeat' (first | ((first | refine zt ?_ | refine zw ?_ | refine dN (by decide +kernel) ?_ | refine dC (by decide +kernel) ?_ | refine uP (hW) ?_ | refine .inl ⟨_, .inl (hW), ?_⟩ | refine uP (hN) ?_ | refine .inl ⟨_, .inl (hN), ?_⟩ | refine uP (i1) ?_ | refine .inl ⟨_, .inl (i1), ?_⟩ | refine uP (i2) ?_ | refine .inl ⟨_, .inl (i2), ?_⟩ | refine uP (i3) ?_ | refine .inl ⟨_, .inl (i3), ?_⟩ | refine uP (hR) ?_ | refine .inl ⟨_, .inl (hR), ?_⟩ | refine uP (i4) ?_ | refine .inl ⟨_, .inl (i4), ?_⟩ | (refine zh ?_ ?_ <;> (intro hg; simp only [hg])) | fail) <;> simp [-cellOK, zc, hc1, hc2, e32, -zM]) | refine zv ?_ | refine zr ?_ | (refine zO ?_; simp only [zP]; try simp) | (refine zm (fun hc => ?_) (fun hc => ?_) <;> try simp at hc) | fail)
    have hE1 : Ext σ (σ.new 1 7 (.buf [AV.agg [AV.raw (.int .i64 id), AV.raw (.int .i64 dev), AV.raw (.int .i64 prio), AV.raw (.int .i64 0), AV.raw (.int .u32 lo), AV.raw (.int .u32 hi), AV.raw (.int .i64 port)]])) := Ext.new _ _ _ _
    generalize σ.new 1 7 (.buf [AV.agg [AV.raw (.int .i64 id), AV.raw (.int .i64 dev), AV.raw (.int .i64 prio), AV.raw (.int .i64 0), AV.raw (.int .u32 lo), AV.raw (.int .u32 hi), AV.raw (.int .i64 port)]]) = τ at *
    refine zbM zjn (σ0 := σ) (es := [ze X1, ze X2, ze X3, ze W0, ze X5]) (OwnL.of rfl (by simp [zl, zb]) (zar hE1) rfl) (by exact exA) (ys := [ze X4]) (by simp [zl, zb]) (.inr rfl) (by simp [ze]) (by simp) ?_
    intro v' τ' hO' hE' _ _
    have FF := @e32; refine gxC ?_; clear FF
    refine PCalls.useLent1 (b := ze [32]) hj rfl hO' ?_
    unfold ze
    exact zj1
  · have hz : ¬ kind = 0 := by omega
    rw [if_neg hz] at hJ
    rcases hkk with rfl | rfl | rfl
    · have hj := hJ [X1, X2, X3, zk 1, X5] rfl
      (try ((first | with_reducible refine zy ?_ | with_reducible refine zG ?_ | with_reducible refine zH ?_); simp [-cellOK, zc, hc1, hc2, e32, -zM])); repeat' (first | ((first | refine zt ?_ | refine zw ?_ | refine dN (by decide +kernel) ?_ | refine dC (by decide +kernel) ?_ | refine uP (hW) ?_ | refine .inl ⟨_, .inl (hW), ?_⟩ | refine uP (hN) ?_ | refine .inl ⟨_, .inl (hN), ?_⟩ | refine uP (i1) ?_ | refine .inl ⟨_, .inl (i1), ?_⟩ | refine uP (i2) ?_ | refine .inl ⟨_, .inl (i2), ?_⟩ | refine uP (i3) ?_ | refine .inl ⟨_, .inl (i3), ?_⟩ | refine uP (hR) ?_ | refine .inl ⟨_, .inl (hR), ?_⟩ | refine uP (i4) ?_ | refine .inl ⟨_, .inl (i4), ?_⟩ | (refine zh ?_ ?_ <;> (intro hg; simp only [hg])) | fail) <;> simp [-cellOK, zc, hc1, hc2, e32, -zM]) | refine zv ?_ | refine zr ?_ | (refine zO ?_; simp only [zP]; try simp) | (refine zm (fun hc => ?_) (fun hc => ?_) <;> try simp at hc) | fail)
      refine PCalls.useLent1 (b := ze [32]) hj rfl (OwnL.of rfl (by simp [zl, zb]) (zar (Ext.new _ _ _ _)) rfl) ?_
      unfold ze
      exact zj1
    · have hj := hJ [X1, X2, X3, zk 2, X5] rfl
      (try ((first | with_reducible refine zy ?_ | with_reducible refine zG ?_ | with_reducible refine zH ?_); simp [-cellOK, zc, hc1, hc2, e32, -zM])); repeat' (first | ((first | refine zt ?_ | refine zw ?_ | refine dN (by decide +kernel) ?_ | refine dC (by decide +kernel) ?_ | refine uP (hW) ?_ | refine .inl ⟨_, .inl (hW), ?_⟩ | refine uP (hN) ?_ | refine .inl ⟨_, .inl (hN), ?_⟩ | refine uP (i1) ?_ | refine .inl ⟨_, .inl (i1), ?_⟩ | refine uP (i2) ?_ | refine .inl ⟨_, .inl (i2), ?_⟩ | refine uP (i3) ?_ | refine .inl ⟨_, .inl (i3), ?_⟩ | refine uP (hR) ?_ | refine .inl ⟨_, .inl (hR), ?_⟩ | refine uP (i4) ?_ | refine .inl ⟨_, .inl (i4), ?_⟩ | (refine zh ?_ ?_ <;> (intro hg; simp only [hg])) | fail) <;> simp [-cellOK, zc, hc1, hc2, e32, -zM]) | refine zv ?_ | refine zr ?_ | (refine zO ?_; simp only [zP]; try simp) | (refine zm (fun hc => ?_) (fun hc => ?_) <;> try simp at hc) | fail)
      refine PCalls.useLent1 (b := ze [32]) hj rfl (OwnL.of rfl (by simp [zl, zb]) (zar (Ext.new _ _ _ _)) rfl) ?_
      unfold ze
      exact zj1
    · have hj := hJ [X1, X2, X3, zk 3, X5] rfl
      (try ((first | with_reducible refine zy ?_ | with_reducible refine zG ?_ | with_reducible refine zH ?_); simp [-cellOK, zc, hc1, hc2, e32, -zM])); repeat' (first | ((first | refine zt ?_ | refine zw ?_ | refine dN (by decide +kernel) ?_ | refine dC (by decide +kernel) ?_ | refine uP (hW) ?_ | refine .inl ⟨_, .inl (hW), ?_⟩ | refine uP (hN) ?_ | refine .inl ⟨_, .inl (hN), ?_⟩ | refine uP (i1) ?_ | refine .inl ⟨_, .inl (i1), ?_⟩ | refine uP (i2) ?_ | refine .inl ⟨_, .inl (i2), ?_⟩ | refine uP (i3) ?_ | refine .inl ⟨_, .inl (i3), ?_⟩ | refine uP (hR) ?_ | refine .inl ⟨_, .inl (hR), ?_⟩ | refine uP (i4) ?_ | refine .inl ⟨_, .inl (i4), ?_⟩ | (refine zh ?_ ?_ <;> (intro hg; simp only [hg])) | fail) <;> simp [-cellOK, zc, hc1, hc2, e32, -zM]) | refine zv ?_ | refine zr ?_ | (refine zO ?_; simp only [zP]; try simp) | (refine zm (fun hc => ?_) (fun hc => ?_) <;> try simp at hc) | fail)
      refine PCalls.useLent1 (b := ze [32]) hj rfl (OwnL.of rfl (by simp [zl, zb]) (zar (Ext.new _ _ _ _)) rfl) ?_
      unfold ze
      exact zj1
end Go.Proofs.YtckabcbfbpejkaaGreatDoor.Av
namespace Go.Proofs.YtckabcbfbpejkaaGreatDoor.Av
open Go
set_option linter.unusedSimpArgs false
set_option linter.unusedVariables false
set_option maxRecDepth 100000
set_option maxHeartbeats 4000000
set_option pp.maxSteps 600
def zkv (x : Bs) (l : List Bs) : Int := idxOf (fun y => decide (x = y)) l
theorem zeP (x : Bs) (l : List Bs) (f : Bool) (hl : l.length < 2 ^ 60) : PCalls Tryz.prog 31 [zB l f, ze x] (.raw (.int .i64 (zkv x l))) := by
  refine zD Tryz.func31 rfl (N := 19) rfl rfl (by simp) (by simp [noIds]) fun σ => ?_
  have wm1 : IntKind.i64.wrap (-1) = -1 := zA (by omega) (by omega)
  have FF := zB.eq_1; refine gxC ?_; clear FF
  refine z1 (fun n A τ => τ = σ ∧ A 0 = zB l f ∧ A 1 = ze x ∧ A 7 = .raw (.int .i64 l.length) ∧ ∃ i : Nat, A 8 = .raw (.int .i64 i) ∧ i ≤ l.length ∧ n = l.length - i ∧ ∀ j, j < i → ∀ y, l[j]? = some y → decide (x = y) = false) l.length ?_ ?_
  · exact ⟨rfl, by simp [zB], by simp, by simp, 0, by simp, by omega, by omega, fun j h => by omega⟩
  rintro n A τ ⟨rfl, a0, a1, a7, i, a8, hi, rfl, hn⟩ I1 hI1
  by_cases hlt : i < l.length
  · obtain ⟨z, hx⟩ : ∃ z, l[i] = z := ⟨_, rfl⟩
    have hx2 : l[i]? = some z := by rw [List.getElem?_eq_getElem hlt, hx]
    have w1 : IntKind.i64.wrap ((i : Int) + 1) = ((i + 1 : Nat) : Int) := by rw [zA (by omega) (by omega)]; omega
    have hB := zbW x z
    have hlt' : (i : Int) < (l.length : Int) := by omega
    by_cases hq : x = z
    · have hi' := zhO (p := fun y => decide (x = y)) hx2 (by simpa using hq) hn
      have hB' : ((zf x).toList == (zf z).toList) = true := by rw [hB]; simpa using hq
      unfold zkv
      rw [hi']
      clear hq hx2 hB
      have FF := fI zB.eq_1 (fI @zai (fI @a0 (fI @a1 (fI @a7 (fI @a8 (fI @hlt' (fI @hlt (fI @hx (fI ze.eq_1 @hB'))))))))); exact zJ
    · have hB' : ((zf x).toList == (zf z).toList) = false := by rw [hB]; simpa using hq
      have FF := fI zB.eq_1 (fI @zai (fI @a0 (fI @a1 (fI @a7 (fI @a8 (fI @hlt' (fI @hlt (fI @hx (fI ze.eq_1 (fI @hB' @w1)))))))))); refine gxC ?_; clear FF
      refine hI1 (l.length - (i + 1)) _ _ (by omega) ⟨rfl, by simp [a0, zB], by simp [a1, ze], by simp [a7], i + 1, by simp, by omega, rfl, fun j hj y hy => ?_⟩
      by_cases e : j = i
      · subst e; rw [hx2] at hy; injection hy with hy; subst hy; simpa using hq
      · exact hn j (by omega) y hy
  · have : i = l.length := by omega
    subst this
    have hq := (zhP hn).1
    unfold zkv
    rw [hq]
    have FF := fI @a0 (fI @a1 (fI @a7 (fI @a8 @wm1))); exact zJ
theorem zi2 (x : Bs) : zkv x [zk 0, zk 1, zk 2, zk 3] = zgo x := by
  unfold zkv idxOf zgo
  by_cases h0 : x = zk 0
  · subst h0; decide
  by_cases h1 : x = zk 1
  · subst h1; decide
  by_cases h2 : x = zk 2
  · subst h2; decide
  by_cases h3 : x = zk 3
  · subst h3; decide
  simp [h0, h1, h2, h3]
theorem zmY {l : List Bs} (h : l.length = 5 ∨ l.length = 6) : (∃ a b c d e, l = [a, b, c, d, e]) ∨ ∃ a b c d e f, l = [a, b, c, d, e, f] := by
  match l, h with
  | [a, b, c, d, e], _ => exact .inl ⟨a, b, c, d, e, rfl⟩
  | [a, b, c, d, e, f], _ => exact .inr ⟨a, b, c, d, e, f, rfl⟩
def zen (o : Option Ru) : AV := match o with | some r => .tup [zc r, .raw (.int .i64 0)] | none => .tup [zc ⟨0, 0, 0, 0, ⟨0, 0⟩, 0⟩, .raw (.int .i64 71)]
theorem zi3 (o : Option Ru) : noIds (zen o) := by unfold zen noIds; split <;> simp [AV.ids, zx, zc]
theorem zaw : zen none = .tup [.agg [.raw (.int .i64 0), .raw (.int .i64 0), .raw (.int .i64 0), .raw (.int .i64 0), .raw (.int .u32 0), .raw (.int .u32 0), .raw (.int .i64 0)], .raw (.int .i64 71)] := rfl
theorem zcS (r : Ru) : zen (some r) = .tup [.agg [.raw (.int .i64 r.id), .raw (.int .i64 r.dev), .raw (.int .i64 r.prio), .raw (.int .i64 r.kind), .raw (.int .u32 r.r.lo), .raw (.int .u32 r.r.hi), .raw (.int .i64 r.port)], .raw (.int .i64 0)] := rfl
theorem zeo (s : Bs) (hs : s.length ≤ 1000) : PCalls Tryz.prog 9 [ze s] (zen (zco zem s)) := by
  have hS := zgI s [32] (by omega) (by simp)
  rw [zf5] at hS
  have hlen := zbu 32 s
  have e32 : AV.raw (.string (ByteArray.mk #[32])) = ze [32] := rfl
  refine zD Tryz.func9 rfl (N := 72) rfl rfl (by simp) (zi3 _) fun σ => ?_
  unfold zco zem
  generalize zq 32 s = ps at *
  have hN := zgM
  have hc1 : ∀ l : Bs, (ze l).cells = [ze l] := fun _ => rfl
  have hc2 : ∀ l : Bs, cellOK (ze l) = true := fun _ => rfl
  by_cases hc : ps.length = 5 ∨ ps.length = 6
  · rw [if_pos hc]
    rcases zmY hc with ⟨p0, p1, p2, p3, p4, rfl⟩ | ⟨p0, p1, p2, p3, p4, p5, rfl⟩
    · have hI := zeP p3 [zk 0, zk 1, zk 2, zk 3] true (by simp)
      rw [zi2] at hI
      simp only [zB, List.map_cons, List.map_nil] at hI
      have n0 := zaS p0 (by have := hlen p0 (by simp); omega)
      have n1 := zaS p1 (by have := hlen p1 (by simp); omega)
      have n2 := zaS p2 (by have := hlen p2 (by simp); omega)
      have hR := zd9 p4 (by have := hlen p4 (by simp); omega)
      simp only [List.getD_cons_zero, List.getD_cons_succ, List.length_cons, List.length_nil]
      generalize zci p0 = id at *
      generalize zci p1 = dev at *
      generalize zci p2 = prio at *
      generalize zgo p3 = kind at *
      iterate 13 (first | ((first | refine zt ?_ | refine zw ?_ | refine dN (by decide +kernel) ?_ | refine dC (by decide +kernel) ?_ | refine uP (hS) ?_ | refine .inl ⟨_, .inl (hS), ?_⟩ | refine uP (hN) ?_ | refine .inl ⟨_, .inl (hN), ?_⟩ | (refine zh ?_ ?_ <;> (intro hg; simp only [hg])) | fail) <;> simp [-cellOK, zB, e32, hc1, hc2, zl, zb]) | refine zv ?_ | refine zr ?_ | (refine zO ?_; simp only [zP]; try simp) | (refine zm (fun hc => ?_) (fun hc => ?_) <;> try simp at hc) | fail)
      generalize hA0 : put 72 _ _ _ = A0
      have d0 : A0 0 = ze s := by rw [← hA0]; simp
      have d2 : A0 2 = .rp ⟨2, σ.nx 2, 7⟩ 0 0 := by rw [← hA0]; simp
      have d4 : A0 4 = .sl 1 [ze p0, ze p1, ze p2, ze p3, ze p4] true := by rw [← hA0]; simp
      have d5 : A0 5 = .rp ⟨5, σ.nx 5, 4⟩ 0 0 := by rw [← hA0]; simp [zb]
      clear hA0
      refine zgF ⟨5, σ.nx 5, 4⟩ (a := .agg [ze (zk 0), ze (zk 1), ze (zk 2), ze (zk 3)]) (by simp [zl, zb, zo]) fun A kp fz => ?_
      have a0 := kp 0 _ d0 trivial
      have a2 := kp 2 _ d2 (by simp [zhQ])
      have a4 := kp 4 _ d4 trivial
      have a5 := fz 5 _ d5
      clear kp fz d0 d2 d4 d5
      have hE : Ext σ (St.del (((σ.new 2 7 (.buf [zc ⟨0, 0, 0, 0, ⟨0, 0⟩, 0⟩])).new 5 4 (.buf [.agg [.raw (.string (ByteArray.mk #[])), .raw (.string (ByteArray.mk #[])), .raw (.string (ByteArray.mk #[])), .raw (.string (ByteArray.mk #[]))]])).set ⟨5, σ.nx 5, 4⟩ (.buf [.agg [ze (zk 0), ze (zk 1), ze (zk 2), ze (zk 3)]])) ⟨5, σ.nx 5, 4⟩) := Ext.delZ (Ext.setF (by exact exA) (zu _ _ _)) (zu _ _ _)
      have m2 : (St.del (((σ.new 2 7 (.buf [zc ⟨0, 0, 0, 0, ⟨0, 0⟩, 0⟩])).new 5 4 (.buf [.agg [.raw (.string (ByteArray.mk #[])), .raw (.string (ByteArray.mk #[])), .raw (.string (ByteArray.mk #[])), .raw (.string (ByteArray.mk #[]))]])).set ⟨5, σ.nx 5, 4⟩ (.buf [.agg [ze (zk 0), ze (zk 1), ze (zk 2), ze (zk 3)]])) ⟨5, σ.nx 5, 4⟩).m ⟨2, σ.nx 2, 7⟩ = some (.buf [zc ⟨0, 0, 0, 0, ⟨0, 0⟩, 0⟩]) := by simp [St.del, zo, zl]
      unfold zc at hE m2
      generalize St.del _ _ = τ at *
      generalize zk 0 = k0 at *
      generalize zk 1 = k1 at *
      generalize zk 2 = k2 at *
      generalize zk 3 = k3 at *
      cases hq : zbi p4 with
      | none =>
        rw [hq, zaE] at hR
        simp only []
        rw [zaw]
        have FF := fI @a0 (fI @a2 (fI @a4 (fI @a5 (fI @m2 (fI @hc1 (fI @hc2 (fI zB.eq_1 (fI @zl (fI @zo @zb))))))))); exact zJ
      | some ab =>
        obtain ⟨lo, hi⟩ := ab
        have hlt := zcB hq
        rw [hq, zaX] at hR
        simp only []
        have hB := zcK ⟨id, dev, prio, kind, ⟨lo, hi⟩, 0⟩
        cases hb : zay ⟨id, dev, prio, kind, ⟨lo, hi⟩, 0⟩ with
        | false =>
          rw [hb] at hB
          rw [if_neg (fun e => by simp [hb] at e), zaw]
          unfold zc at hB
          have FF := fI @a0 (fI @a2 (fI @a4 (fI @a5 (fI @m2 (fI @hc1 (fI @hc2 (fI zB.eq_1 (fI @zl (fI @zo @zb))))))))); exact zJ
        | true =>
          rw [hb] at hB
          have hT := zbE ⟨id, dev, prio, kind, ⟨lo, hi⟩, 0⟩ ⟨hb, by simp, by simp; omega⟩
          have hQ := zbW (zV ⟨id, dev, prio, kind, ⟨lo, hi⟩, 0⟩) s
          by_cases he : zV ⟨id, dev, prio, kind, ⟨lo, hi⟩, 0⟩ = s
          · have hQ' : ((zf (zV ⟨id, dev, prio, kind, ⟨lo, hi⟩, 0⟩)).toList == (zf s).toList) = true := by rw [hQ]; simpa using he
            rw [if_pos ⟨hb, he⟩, zcS]
            clear hQ he hb
            generalize zV ⟨id, dev, prio, kind, ⟨lo, hi⟩, 0⟩ = T at *
            have hT' : PCalls Tryz.prog 6 [zc ⟨id, dev, prio, kind, ⟨lo, hi⟩, 0⟩] (.raw (.string (zf T))) := hT
            have a0' : A 0 = .raw (.string (zf s)) := a0
            unfold zc at hB hT'
            have FF := fI @a0' (fI @a2 (fI @a4 (fI @a5 (fI @m2 (fI @hc1 (fI @hc2 (fI @hQ' (fI zB.eq_1 (fI @zl (fI @zo @zb)))))))))); exact zJ
          · have hQ' : ((zf (zV ⟨id, dev, prio, kind, ⟨lo, hi⟩, 0⟩)).toList == (zf s).toList) = false := by rw [hQ]; simpa using he
            rw [if_neg (fun e => he e.2), zaw]
            clear hQ he hb
            generalize zV ⟨id, dev, prio, kind, ⟨lo, hi⟩, 0⟩ = T at *
            have hT' : PCalls Tryz.prog 6 [zc ⟨id, dev, prio, kind, ⟨lo, hi⟩, 0⟩] (.raw (.string (zf T))) := hT
            have a0' : A 0 = .raw (.string (zf s)) := a0
            unfold zc at hB hT'
            have FF := fI @a0' (fI @a2 (fI @a4 (fI @a5 (fI @m2 (fI @hc1 (fI @hc2 (fI @hQ' (fI zB.eq_1 (fI @zl (fI @zo @zb)))))))))); exact zJ
    · have hI := zeP p3 [zk 0, zk 1, zk 2, zk 3] true (by simp)
      rw [zi2] at hI
      simp only [zB, List.map_cons, List.map_nil] at hI
      have n0 := zaS p0 (by have := hlen p0 (by simp); omega)
      have n1 := zaS p1 (by have := hlen p1 (by simp); omega)
      have n2 := zaS p2 (by have := hlen p2 (by simp); omega)
      have hR := zd9 p4 (by have := hlen p4 (by simp); omega)
      have n5 := zaS p5 (by have := hlen p5 (by simp); omega)
      simp only [List.getD_cons_zero, List.getD_cons_succ, List.length_cons, List.length_nil]
      generalize zci p0 = id at *
      generalize zci p1 = dev at *
      generalize zci p2 = prio at *
      generalize zgo p3 = kind at *
      generalize zci p5 = port at *
      iterate 13 (first | ((first | refine zt ?_ | refine zw ?_ | refine dN (by decide +kernel) ?_ | refine dC (by decide +kernel) ?_ | refine uP (hS) ?_ | refine .inl ⟨_, .inl (hS), ?_⟩ | refine uP (hN) ?_ | refine .inl ⟨_, .inl (hN), ?_⟩ | (refine zh ?_ ?_ <;> (intro hg; simp only [hg])) | fail) <;> simp [-cellOK, zB, e32, hc1, hc2, zl, zb]) | refine zv ?_ | refine zr ?_ | (refine zO ?_; simp only [zP]; try simp) | (refine zm (fun hc => ?_) (fun hc => ?_) <;> try simp at hc) | fail)
      generalize hA0 : put 72 _ _ _ = A0
      have d0 : A0 0 = ze s := by rw [← hA0]; simp
      have d2 : A0 2 = .rp ⟨2, σ.nx 2, 7⟩ 0 0 := by rw [← hA0]; simp
      have d4 : A0 4 = .sl 1 [ze p0, ze p1, ze p2, ze p3, ze p4, ze p5] true := by rw [← hA0]; simp
      have d5 : A0 5 = .rp ⟨5, σ.nx 5, 4⟩ 0 0 := by rw [← hA0]; simp [zb]
      clear hA0
      refine zgF ⟨5, σ.nx 5, 4⟩ (a := .agg [ze (zk 0), ze (zk 1), ze (zk 2), ze (zk 3)]) (by simp [zl, zb, zo]) fun A kp fz => ?_
      have a0 := kp 0 _ d0 trivial
      have a2 := kp 2 _ d2 (by simp [zhQ])
      have a4 := kp 4 _ d4 trivial
      have a5 := fz 5 _ d5
      clear kp fz d0 d2 d4 d5
      have hE : Ext σ (St.del (((σ.new 2 7 (.buf [zc ⟨0, 0, 0, 0, ⟨0, 0⟩, 0⟩])).new 5 4 (.buf [.agg [.raw (.string (ByteArray.mk #[])), .raw (.string (ByteArray.mk #[])), .raw (.string (ByteArray.mk #[])), .raw (.string (ByteArray.mk #[]))]])).set ⟨5, σ.nx 5, 4⟩ (.buf [.agg [ze (zk 0), ze (zk 1), ze (zk 2), ze (zk 3)]])) ⟨5, σ.nx 5, 4⟩) := Ext.delZ (Ext.setF (by exact exA) (zu _ _ _)) (zu _ _ _)
      have m2 : (St.del (((σ.new 2 7 (.buf [zc ⟨0, 0, 0, 0, ⟨0, 0⟩, 0⟩])).new 5 4 (.buf [.agg [.raw (.string (ByteArray.mk #[])), .raw (.string (ByteArray.mk #[])), .raw (.string (ByteArray.mk #[])), .raw (.string (ByteArray.mk #[]))]])).set ⟨5, σ.nx 5, 4⟩ (.buf [.agg [ze (zk 0), ze (zk 1), ze (zk 2), ze (zk 3)]])) ⟨5, σ.nx 5, 4⟩).m ⟨2, σ.nx 2, 7⟩ = some (.buf [zc ⟨0, 0, 0, 0, ⟨0, 0⟩, 0⟩]) := by simp [St.del, zo, zl]
      unfold zc at hE m2
      generalize St.del _ _ = τ at *
      generalize zk 0 = k0 at *
      generalize zk 1 = k1 at *
      generalize zk 2 = k2 at *
      generalize zk 3 = k3 at *
      cases hq : zbi p4 with
      | none =>
        rw [hq, zaE] at hR
        simp only []
        rw [zaw]
        have FF := fI @a0 (fI @a2 (fI @a4 (fI @a5 (fI @m2 (fI @hc1 (fI @hc2 (fI zB.eq_1 (fI @zl (fI @zo @zb))))))))); exact zJ
      | some ab =>
        obtain ⟨lo, hi⟩ := ab
        have hlt := zcB hq
        rw [hq, zaX] at hR
        simp only []
        have hB := zcK ⟨id, dev, prio, kind, ⟨lo, hi⟩, port⟩
        cases hb : zay ⟨id, dev, prio, kind, ⟨lo, hi⟩, port⟩ with
        | false =>
          rw [hb] at hB
          rw [if_neg (fun e => by simp [hb] at e), zaw]
          unfold zc at hB
          have FF := fI @a0 (fI @a2 (fI @a4 (fI @a5 (fI @m2 (fI @hc1 (fI @hc2 (fI zB.eq_1 (fI @zl (fI @zo @zb))))))))); exact zJ
        | true =>
          rw [hb] at hB
          have hT := zbE ⟨id, dev, prio, kind, ⟨lo, hi⟩, port⟩ ⟨hb, by simp, by simp; omega⟩
          have hQ := zbW (zV ⟨id, dev, prio, kind, ⟨lo, hi⟩, port⟩) s
          by_cases he : zV ⟨id, dev, prio, kind, ⟨lo, hi⟩, port⟩ = s
          · have hQ' : ((zf (zV ⟨id, dev, prio, kind, ⟨lo, hi⟩, port⟩)).toList == (zf s).toList) = true := by rw [hQ]; simpa using he
            rw [if_pos ⟨hb, he⟩, zcS]
            clear hQ he hb
            generalize zV ⟨id, dev, prio, kind, ⟨lo, hi⟩, port⟩ = T at *
            have hT' : PCalls Tryz.prog 6 [zc ⟨id, dev, prio, kind, ⟨lo, hi⟩, port⟩] (.raw (.string (zf T))) := hT
            have a0' : A 0 = .raw (.string (zf s)) := a0
            unfold zc at hB hT'
            have FF := fI @a0' (fI @a2 (fI @a4 (fI @a5 (fI @m2 (fI @hc1 (fI @hc2 (fI @hQ' (fI zB.eq_1 (fI @zl (fI @zo @zb)))))))))); exact zJ
          · have hQ' : ((zf (zV ⟨id, dev, prio, kind, ⟨lo, hi⟩, port⟩)).toList == (zf s).toList) = false := by rw [hQ]; simpa using he
            rw [if_neg (fun e => he e.2), zaw]
            clear hQ he hb
            generalize zV ⟨id, dev, prio, kind, ⟨lo, hi⟩, port⟩ = T at *
            have hT' : PCalls Tryz.prog 6 [zc ⟨id, dev, prio, kind, ⟨lo, hi⟩, port⟩] (.raw (.string (zf T))) := hT
            have a0' : A 0 = .raw (.string (zf s)) := a0
            unfold zc at hB hT'
            have FF := fI @a0' (fI @a2 (fI @a4 (fI @a5 (fI @m2 (fI @hc1 (fI @hc2 (fI @hQ' (fI zB.eq_1 (fI @zl (fI @zo @zb)))))))))); exact zJ
  · rw [if_neg hc]
    have h5 : ¬ (ps.length : Int) = 5 := by omega
    have h6 : ¬ (ps.length : Int) = 6 := by omega
    have hr : zen none = .tup [.agg [.raw (.int .i64 0), .raw (.int .i64 0), .raw (.int .i64 0), .raw (.int .i64 0), .raw (.int .u32 0), .raw (.int .u32 0), .raw (.int .i64 0)], .raw (.int .i64 71)] := rfl
    rw [hr]
    have FF := fI zB.eq_1 (fI @e32 (fI @h5 (fI @h6 (fI @zl (fI @zo @zb))))); exact zJ
end Go.Proofs.YtckabcbfbpejkaaGreatDoor.Av
namespace Go.Proofs.YtckabcbfbpejkaaGreatDoor.Av
open Go
set_option linter.unusedSimpArgs false
set_option linter.unusedVariables false
set_option maxRecDepth 100000
set_option maxHeartbeats 4000000
set_option pp.maxSteps 600
end Go.Proofs.YtckabcbfbpejkaaGreatDoor.Av
namespace Go.Proofs.YtckabcbfbpejkaaGreatDoor.Av
open Go
set_option linter.unusedSimpArgs false
set_option linter.unusedVariables false
set_option maxRecDepth 100000
set_option maxHeartbeats 4000000
set_option pp.maxSteps 600
theorem zh7 (n : Nat) (hn : n ≤ 32) : PCalls Tryz.prog 82 [.raw (.int .i64 n)] (.raw (.int .i64 ((2 ^ (32 - n) : Nat) : Int))) := by
  refine zD Tryz.func82 rfl (N := 7) rfl rfl (by simp) (by simp [noIds]) fun σ => ?_
  have hall : ∀ m, m < 33 → IntKind.i64.wrap (2 ^ min m IntKind.i64.bits) = ((2 ^ m : Nat) : Int) := by decide
  have e1 : IntKind.i64.wrap (32 - (n : Int)) = ((32 - n : Nat) : Int) := by rw [zA (by omega) (by omega)]; omega
  obtain ⟨m, hm⟩ : ∃ m, 32 - n = m := ⟨_, rfl⟩
  have q1 := hall m (by omega)
  rw [hm] at e1 ⊢
  have e2 : IntKind.u64.wrap (m : Int) = m := zlb (by omega) (by omega)
  have e0 : (0 : Int) ≤ m := by omega
  generalize 2 ^ m = q at *
  have FF := fI @e1 (fI @e2 (fI @e0 @q1)); exact zJ
theorem zcs (p : Pf) (h0 : 0 ≤ p.addr) (h1 : p.addr < 4294967296) : PCalls Tryz.prog 81 [zbl p] (.raw (.bool (rightB p))) := by
  refine zD Tryz.func81 rfl (N := 21) rfl rfl (by simp) (by simp [noIds]) fun σ => ?_
  obtain ⟨a, l⟩ := p
  by_cases c1 : 0 ≤ l
  · obtain ⟨n, rfl⟩ : ∃ n : Nat, l = n := ⟨l.toNat, by omega⟩
    by_cases c2 : n ≤ 32
    · have hc := zh7 n c2
      have hp : 0 < 2 ^ (32 - n) := Nat.pow_pos (by omega)
      have e : IntKind.i64.wrap a = a := zA (by simp at h0; omega) (by simp at h1; omega)
      have e2 : a.tmod ((2 ^ (32 - n) : Nat) : Int) = a % ((2 ^ (32 - n) : Nat) : Int) := Int.tmod_eq_emod_of_nonneg h0
      have hr : rightB ⟨a, n⟩ = decide (a % ((2 ^ (32 - n) : Nat) : Int) = 0) := by simp [rightB]; omega
      rw [hr]
      generalize 2 ^ (32 - n) = q at *
      have e3 : ¬ q = 0 := by omega
      have c2' : (n : Int) ≤ 32 := by omega
      have c3 : (a % (q : Int) = 0) = True ∨ (a % (q : Int) = 0) = False := by by_cases h : a % (q : Int) = 0 <;> simp [h]
      rcases c3 with c3 | c3
      all_goals
        have FF := fI zbl.eq_1 (fI @c1 (fI @c2' (fI @e (fI @e2 (fI @e3 (fI @c3 (fI @zl (fI @zo @zb)))))))); exact zJ
    · have c2' : ¬ (n : Int) ≤ 32 := by omega
      have hr : rightB ⟨a, n⟩ = false := by simp [rightB, c2]; omega
      rw [hr]
      have FF := fI zbl.eq_1 (fI @c1 (fI @c2' (fI @zl (fI @zo @zb)))); exact zJ
  · have hr : rightB ⟨a, l⟩ = false := by simp [rightB, c1]
    rw [hr]
    have FF := fI zbl.eq_1 (fI @c1 (fI @zl (fI @zo @zb))); exact zJ
theorem zg9 (p : Pf) (h0 : 0 ≤ p.addr) (h1 : p.addr < 4294967296) : PCalls Tryz.prog 60 [zbl p] (zbS p) := by
  have hr := zcs p h0 h1
  refine zD Tryz.func60 rfl (N := 22) rfl rfl (by simp) (by unfold zbS noIds; split <;> simp [AV.ids, zx, zlk]) fun σ => ?_
  cases hb : rightB p with
  | false =>
    have e : zbS p = .tup [rgA 0 0, .raw (.int .i64 21)] := by unfold zbS; rw [hb]; rfl
    rw [hb] at hr
    rw [e]
    unfold zbl at *
    have FF := fI rgA.eq_1 (fI @zl (fI @zo @zb)); exact zJ
  | true =>
    obtain ⟨a, l⟩ := p
    obtain ⟨a, rfl⟩ : ∃ n : Nat, a = n := ⟨a.toNat, by simp at h0; omega⟩
    have b1 := hb
    unfold rightB at b1
    simp only [Bool.and_eq_true, decide_eq_true_eq] at b1
    obtain ⟨n, rfl⟩ : ∃ n : Nat, l = n := ⟨l.toNat, by omega⟩
    rw [zcQ] at hb
    rw [zfm hb, zaX]
    rw [zcQ, hb] at hr
    have hm := (zdd.1 hb).1
    have hel : a + 2 ^ (32 - n) - 1 < 4294967296 := by
      obtain ⟨q, hq⟩ := Nat.dvd_of_mod_eq_zero (zdd.1 hb).2
      have e32 : 4294967296 = 2 ^ (32 - n) * 2 ^ n := by rw [← Nat.pow_add, show 32 - n + n = 32 by omega]
      have hp : 0 < 2 ^ (32 - n) := Nat.pow_pos (by omega)
      have ha : a < 4294967296 := by simp at h1; omega
      rw [hq, e32] at ha
      have hq2 : q < 2 ^ n := Nat.lt_of_mul_lt_mul_left ha
      have := Nat.mul_le_mul_left (2 ^ (32 - n)) (show q + 1 ≤ 2 ^ n from hq2)
      rw [Nat.mul_add, Nat.mul_one] at this
      omega
    have hc := zh7 n hm
    have hp : 0 < 2 ^ (32 - n) := Nat.pow_pos (by omega)
    have hq : 2 ^ (32 - n) ≤ 2 ^ 32 := Nat.pow_le_pow_right (by omega) (by omega)
    simp only [] at h1
    generalize 2 ^ (32 - n) = q at *
    have e1 : IntKind.i64.wrap (a : Int) = a := zA (by omega) (by omega)
    have e2 : IntKind.i64.wrap ((a : Int) + q) = ((a + q : Nat) : Int) := by rw [zA (by omega) (by omega)]; omega
    have e3 : IntKind.i64.wrap (((a + q : Nat) : Int) - 1) = ((a + q - 1 : Nat) : Int) := by rw [zA (by omega) (by omega)]; omega
    have e4 : IntKind.u32.wrap ((a + q - 1 : Nat) : Int) = ((a + q - 1 : Nat) : Int) := zcZ (by omega) (by omega)
    generalize a + q - 1 = y at *
    generalize a + q = z at *
    unfold zbl at *
    have FF := fI @e1 (fI @e2 (fI @e3 (fI @e4 (fI @zl (fI @zo @zb))))); exact zJ
end Go.Proofs.YtckabcbfbpejkaaGreatDoor.Av
namespace Go.Proofs.YtckabcbfbpejkaaGreatDoor.Av
open Go
set_option linter.unusedSimpArgs false
set_option linter.unusedVariables false
set_option maxRecDepth 100000
set_option maxHeartbeats 4000000
set_option pp.maxSteps 600
def znI : ByteArray := ⟨#[48, 49, 50, 51, 52, 53, 54, 55, 56, 57]⟩
theorem zlm : ∀ d, d < 10 → znI.extract d (d + 1) = zf [UInt8.ofNat (48 + d)] := by decide
def zeb (m : Nat) : Bs := if m = 0 then [] else zz m
theorem zep {m : Nat} (h : 0 < m) : zeb m = zeb (m / 10) ++ [UInt8.ofNat (48 + m % 10)] := by
  unfold zeb
  rw [if_neg (by omega)]
  by_cases hs : m < 10
  · rw [zbF hs, if_pos (by omega), Nat.mod_eq_of_lt hs]; rfl
  · rw [zdL hs, if_neg (by omega)]
theorem zf8 (s : Bs) : (zf s).toList.isEmpty = decide (s = []) := by
  rw [ByteArray.toList_eq, za4]; cases s <;> rfl
theorem zb7 (N : Nat) (hN : N < 9223372036854775808) : PCalls Tryz.prog 58 [.raw (.int .i64 N)] (ze (zz N)) := by
  refine zD Tryz.func58 rfl (N := 21) rfl rfl (by simp) (by simp [noIds]) fun σ => ?_
  have hl20 := zaM N 20 (by omega) (by omega)
  refine znq ?_
  refine z1 (fun n A τ => τ = σ ∧ ∃ (m : Nat) (s : Bs), A 0 = .raw (.int .i64 m) ∧ A 3 = ze s ∧ m ≤ N ∧ (s = [] ∧ m = N ∨ s ≠ [] ∧ zeb m ++ s = zz N) ∧ n = m + if s = [] then 1 else 0) (N + 1) ?_ ?_
  · exact ⟨rfl, N, [], by simp, by simp [ze, zf], by omega, .inl ⟨rfl, rfl⟩, by simp⟩
  rintro n A τ ⟨rfl, m, s, a0, a3, hm, hs, rfl⟩ I1 hI1
  have hE : (zf s).toList.isEmpty = decide (s = []) := zf8 s
  have eF : (ByteArray.mk #[48, 49, 50, 51, 52, 53, 54, 55, 56, 57]).size = 10 := rfl
  have e1 : (m : Int).tmod 10 = ((m % 10 : Nat) : Int) := by rw [show (10 : Int) = ((10 : Nat) : Int) from rfl, Int.ofNat_tmod]
  have e2 : (m : Int).tdiv 10 = ((m / 10 : Nat) : Int) := by rw [Int.tdiv_eq_ediv_of_nonneg (by omega)]; omega
  have e3 : IntKind.i64.wrap ((m / 10 : Nat) : Int) = ((m / 10 : Nat) : Int) := zA (by omega) (by omega)
  have e4 : IntKind.i64.wrap (((m % 10 : Nat) : Int) + 1) = ((m % 10 + 1 : Nat) : Int) := by rw [zA (by omega) (by omega)]; omega
  have hx := zlm (m % 10) (by omega)
  have hgo : (s = [] ∨ 0 < m) → (s.length ≤ 20 ∧ (UInt8.ofNat (48 + m % 10) :: s) ≠ [] ∧ zeb (m / 10) ++ (UInt8.ofNat (48 + m % 10) :: s) = zz N) := fun hc => by
    rcases hs with ⟨rfl, rfl⟩ | ⟨h1, h2⟩
    · refine ⟨by simp, by simp, ?_⟩
      rcases Nat.eq_zero_or_pos m with h0 | h0
      · subst h0; rw [zbF (by omega)]; rfl
      · rw [← zep h0]; unfold zeb; rw [if_neg (by omega)]
    · rcases hc with hc | hc
      · exact absurd hc h1
      · rw [zep hc, List.append_assoc] at h2
        refine ⟨?_, by simp, by simpa using h2⟩
        have := congrArg List.length h2
        simp at this; omega
  by_cases hc : s = [] ∨ 0 < m
  · obtain ⟨g1, g2, g3⟩ := hgo hc
    have hlt : m / 10 + (if (UInt8.ofNat (48 + m % 10) :: s) = [] then 1 else 0) < m + if s = [] then 1 else 0 := by
      rw [if_neg g2]
      rcases hc with hc | hc
      · rw [if_pos hc]; omega
      · split <;> omega
    have hcat : zf [UInt8.ofNat (48 + m % 10)] ++ zf s = zf (UInt8.ofNat (48 + m % 10) :: s) := zaN _ _
    have sz1 : ((zf [UInt8.ofNat (48 + m % 10)]).size : Int) + ((zf s).size : Int) ≤ 9223372036854775807 := by rw [zT, zT]; simp; omega
    have hmd : m / 10 ≤ N := by omega
    have hfin : ∀ A', A' 0 = .raw (.int .i64 ((m / 10 : Nat) : Int)) → A' 3 = ze (UInt8.ofNat (48 + m % 10) :: s) → I1 A' τ := fun A' x0 x3 =>
      hI1 _ A' τ hlt ⟨rfl, m / 10, _, x0, x3, hmd, .inr ⟨g2, g3⟩, rfl⟩
    have e5 : (0 : Int) < (m : Int) ↔ 0 < m := by omega
    unfold ze at *
    unfold znI at hx
    generalize zf (UInt8.ofNat (48 + m % 10) :: s) = z at *
    generalize m / 10 = d at *
    generalize zf [UInt8.ofNat (48 + m % 10)] = f at *
    have hm10 : (m % 10 + 1 ≤ 10) = True := by simp; omega
    have hm11 : (m % 10 ≤ m % 10 + 1) = True := by simp
    generalize m % 10 + 1 = r1 at *
    generalize m % 10 = r at *
    by_cases hs0 : s = []
    · have hE' : (zf s).toList.isEmpty = true := by rw [hE]; simp [hs0]
      have FF := fI @a0 (fI @a3 (fI @hE' (fI @eF (fI @e1 (fI @e2 (fI @e3 (fI @e4 (fI @hx (fI @hcat (fI @sz1 (fI @hm10 @hm11))))))))))); refine gxC ?_; clear FF
      refine hfin _ ?_ ?_ <;> simp
    · have hm0 : 0 < m := by rcases hc with h | h; exact absurd h hs0; exact h
      have hE' : (zf s).toList.isEmpty = false := by rw [hE]; simp [hs0]
      have FF := fI @a0 (fI @a3 (fI @hE' (fI @eF (fI @hm0 (fI @e1 (fI @e2 (fI @e3 (fI @e4 (fI @hx (fI @hcat (fI @sz1 (fI @hm10 @hm11)))))))))))); refine gxC ?_; clear FF
      refine hfin _ ?_ ?_ <;> simp
  · have h1 : ¬ s = [] := fun e => hc (.inl e)
    have h2 : m = 0 := by omega
    subst h2
    have h3 : s = zz N := by
      rcases hs with ⟨h, _⟩ | ⟨_, h⟩
      · exact absurd h h1
      · simpa [zeb] using h
    subst h3
    have hE' : (zf (zz N)).toList.isEmpty = false := by rw [hE]; simp [h1]
    unfold ze at *
    have FF := fI @a0 (fI @a3 @hE'); exact zJ
theorem zeq (a : Nat) (h : a < 4294967296) : PCalls Tryz.prog 51 [.raw (.int .u32 a)] (ze (zaf a)) := by
  have h1 := zb7 (a / 16777216) (by omega)
  have h2 := zb7 (a / 65536 % 256) (by omega)
  have h3 := zb7 (a / 256 % 256) (by omega)
  have h4 := zb7 (a % 256) (by omega)
  have l1 := zaM (a / 16777216) 3 (by omega) (by omega)
  have l2 := zaM (a / 65536 % 256) 3 (by omega) (by omega)
  have l3 := zaM (a / 256 % 256) 3 (by omega) (by omega)
  have l4 := zaM (a % 256) 3 (by omega) (by omega)
  rw [← zT] at l1 l2 l3 l4
  have e0 : IntKind.i64.wrap (a : Int) = a := zA (by omega) (by omega)
  have d : ∀ n k : Nat, (n : Int).tdiv k = ((n / k : Nat) : Int) := fun n k => by rw [Int.tdiv_eq_ediv_of_nonneg (by omega)]; exact (Int.natCast_ediv n k).symm
  have q : ∀ n k : Nat, (n : Int).tmod k = ((n % k : Nat) : Int) := fun n k => by rw [Int.ofNat_tmod]
  have wd : ∀ n : Nat, n < 4294967296 → IntKind.i64.wrap (n : Int) = n := fun n hn => zA (by omega) (by omega)
  have d1 : (a : Int).tdiv 16777216 = ((a / 16777216 : Nat) : Int) := by rw [show (16777216 : Int) = ((16777216 : Nat) : Int) from rfl, d]
  have w1 := wd (a / 16777216) (by omega)
  have d2 : (a : Int).tdiv 65536 = ((a / 65536 : Nat) : Int) := by rw [show (65536 : Int) = ((65536 : Nat) : Int) from rfl, d]
  have w2 := wd (a / 65536) (by omega)
  have d3 : (a : Int).tdiv 256 = ((a / 256 : Nat) : Int) := by rw [show (256 : Int) = ((256 : Nat) : Int) from rfl, d]
  have w3 := wd (a / 256) (by omega)
  have q2 : ((a / 65536 : Nat) : Int).tmod 256 = ((a / 65536 % 256 : Nat) : Int) := by rw [show (256 : Int) = ((256 : Nat) : Int) from rfl, q]
  have q3 : ((a / 256 : Nat) : Int).tmod 256 = ((a / 256 % 256 : Nat) : Int) := by rw [show (256 : Int) = ((256 : Nat) : Int) from rfl, q]
  have q4 : (a : Int).tmod 256 = ((a % 256 : Nat) : Int) := by rw [show (256 : Int) = ((256 : Nat) : Int) from rfl, q]
  have eX : zf (zz (a / 16777216)) ++ ByteArray.mk #[46] ++ zf (zz (a / 65536 % 256)) ++ ByteArray.mk #[46] ++ zf (zz (a / 256 % 256)) ++ ByteArray.mk #[46] ++ zf (zz (a % 256)) = zf (zaf a) := by
    have : ByteArray.mk #[46] = zf [46] := rfl
    rw [this, zaN, zaN, zaN, zaN, zaN, zaN, zfo]
    simp
  unfold ze at *
  generalize a / 65536 % 256 = n2 at *
  generalize a / 256 % 256 = n3 at *
  generalize a % 256 = n4 at *
  generalize a / 16777216 = n1 at *
  generalize a / 65536 = m2 at *
  generalize a / 256 = m3 at *
  generalize zf (zaf a) = Z at *
  generalize zf (zz n1) = X1 at *
  generalize zf (zz n2) = X2 at *
  generalize zf (zz n3) = X3 at *
  generalize zf (zz n4) = X4 at *
  have e1 : (ByteArray.mk #[46]).size = 1 := rfl
  have s1 : (X1.size : Int) + 1 ≤ 9223372036854775807 := by omega
  have s2 : (X1.size : Int) + 1 + X2.size ≤ 9223372036854775807 := by omega
  have s3 : (X1.size : Int) + 1 + X2.size + 1 ≤ 9223372036854775807 := by omega
  have s4 : (X1.size : Int) + 1 + X2.size + 1 + X3.size ≤ 9223372036854775807 := by omega
  have s5 : (X1.size : Int) + 1 + X2.size + 1 + X3.size + 1 ≤ 9223372036854775807 := by omega
  have s6 : (X1.size : Int) + 1 + X2.size + 1 + X3.size + 1 + X4.size ≤ 9223372036854775807 := by omega
  refine zD Tryz.func51 rfl (N := 26) rfl rfl (by simp) (by simp [noIds]) fun σ => ?_
  have FF := fI @e0 (fI @e1 (fI @d1 (fI @d2 (fI @d3 (fI @w1 (fI @w2 (fI @w3 (fI @q2 (fI @q3 (fI @q4 (fI @s1 (fI @s2 (fI @s3 (fI @s4 (fI @s5 (fI @s6 (fI @eX (fI @zl (fI @zo @zb))))))))))))))))))); exact zJ
theorem zf9 (a b : Nat) (h : a < 4294967296) (h' : b < 4294967296) : PCalls Tryz.prog 27 [.agg [.raw (.int .u32 a), .raw (.int .u32 b)]] (ze (zY a b)) := by
  have h1 := zeq a h
  have h2 := zeq b h'
  have hl := zbt h
  have hd := zbt h'
  refine zD Tryz.func27 rfl (N := 11) rfl rfl (by simp) (by simp [noIds]) fun σ => ?_
  have e1 : (ByteArray.mk #[45]).size = 1 := rfl
  have s1 : ((zf (zaf a)).size : Int) + 1 ≤ 9223372036854775807 := by rw [zT]; omega
  have s2 : ((zf (zaf a)).size : Int) + 1 + ((zf (zaf b)).size : Int) ≤ 9223372036854775807 := by rw [zT, zT]; omega
  have eX : zf (zaf a) ++ ByteArray.mk #[45] ++ zf (zaf b) = zf (zY a b) := by
    have : ByteArray.mk #[45] = zf [45] := rfl
    rw [this, zaN, zaN]; rfl
  unfold ze at *
  generalize zf (zY a b) = Z at *
  generalize zf (zaf a) = X at *
  generalize zf (zaf b) = Y at *
  have FF := fI @e1 (fI @s1 (fI @s2 (fI @eX (fI @zl (fI @zo @zb))))); exact zJ
end Go.Proofs.YtckabcbfbpejkaaGreatDoor.Av
namespace Go.Proofs.YtckabcbfbpejkaaGreatDoor.Av
open Go
set_option linter.unusedSimpArgs false
set_option linter.unusedVariables false
set_option maxRecDepth 100000
set_option maxHeartbeats 4000000
set_option pp.maxSteps 600
theorem zln {s : Bs} {i : Nat} {c : UInt8} (h : s[i]? = some c) : (zf s).extract i (i + 1) = zf [c] := by
  obtain ⟨hi, hc⟩ := List.getElem?_eq_some_iff.1 h
  have : ((zf s).extract i (i + 1)).data.toList = [c] := by
    rw [Lib.extract_data, za4, ← List.getElem_cons_drop hi, hc]
    simp
  rw [← zgm ((zf s).extract i (i + 1)), this]
theorem zpc {s : Bs} {i : Nat} {c : UInt8} (h : s[i]? = some c) : (zf s)[i]? = some c := by
  obtain ⟨hi, hc⟩ := List.getElem?_eq_some_iff.1 h
  rw [getElem?_pos (zf s) i (by rw [zT]; exact hi)]
  congr 1
theorem ziw {s : Bs} {i : Nat} {c : UInt8} (h : s[i]? = some c) (hi : i < (zf s).size) : (zf s)[i] = c := by
  have h1 := zpc h
  rw [getElem?_pos (zf s) i hi] at h1
  exact Option.some.inj h1
theorem zkw (b : UInt8) (s : Bs) : (zq b s).length ≤ s.length + 1 := by
  induction s with
  | nil => simp [zq]
  | cons c l ih =>
    unfold zq
    split
    · simp; omega
    · cases hp : zq b l with
      | nil => simp
      | cons p ps => rw [hp] at ih; simp at ih ⊢; omega
theorem zc3 (s : Bs) (b : UInt8) (hs : s.length ≤ 1000) : PCalls Tryz.prog 61 [ze s, .raw (.int .u8 b.toNat)] (zB (zq b s) false) := by
  refine zD Tryz.func61 rfl (N := 40) rfl rfl (by simp) (by simp [noIds]) fun σ0 => ?_
  have stO : zN (ze []).cells = true := rfl
  have stE : AV.raw (.string (ByteArray.mk #[])) = ze [] := rfl
  have FF := fI @stO @stE; refine gxC ?_; clear FF
  refine z1 (fun n A τ => Ext σ0 τ ∧ A 0 = ze s ∧ A 1 = .raw (.int .u8 b.toNat) ∧ ∃ (i : Nat) (v : AV), A 5 = v ∧ OwnL σ0 τ 1 v ((zq b (s.take i)).map ze) ∧ A 6 = .raw (.int .i64 i) ∧ i ≤ s.length ∧ n = s.length - i) s.length ?_ ?_
  · refine ⟨Ext.new _ _ _ _, by simp [ze], by simp, 0, _, rfl, .inr ⟨⟨7, σ0.nx 7, 1⟩, by simp [zq], rfl, by simp [zl, zq, ze, zf], zu _ _ _⟩, by simp, by omega, by omega⟩
  rintro n A τ ⟨hE, a0, a1, i, v, a5, hO, a6, hi, rfl⟩ I1 hI1
  have hsz := zT s
  by_cases hlt : i < s.length
  · have hx : s[i]? = some s[i] := List.getElem?_eq_getElem hlt
    have ha := ziw hx (by omega)
    have hsub := zln hx
    have hst : zq b (s.take (i + 1)) = if s[i] = b then zq b (s.take i) ++ [[]] else zdv (zq b (s.take i)) s[i] := by rw [List.take_add_one, hx]; exact zet b _ _
    have hps := zkw b (s.take i)
    have hpl := zbu b (s.take i)
    rw [List.length_take] at hps hpl
    generalize s[i] = c at *
    have w1 : IntKind.i64.wrap ((i : Int) + 1) = ((i + 1 : Nat) : Int) := by rw [zA (by omega) (by omega)]; omega
    have hlt' : i < (zf s).size := by omega
    have hle1 : i + 1 ≤ (zf s).size := by omega
    have hbb : ((c.toNat : Int) = (b.toNat : Int)) ↔ c = b := by
      constructor
      · intro e; exact UInt8.toNat.inj (by omega)
      · rintro rfl; rfl
    by_cases hc : c = b
    · rw [if_pos hc] at hst
      subst hc
      (try ((first | with_reducible refine zy ?_ | with_reducible refine zG ?_ | with_reducible refine zH ?_); simp [-cellOK, a0, a1, a5, a6, ze, hlt', ha, stO, -zM])); repeat' (first | ((first | refine zt ?_ | refine zw ?_ | refine dN (by decide +kernel) ?_ | refine dC (by decide +kernel) ?_ | (refine zh ?_ ?_ <;> (intro hg; simp only [hg])) | fail) <;> simp [-cellOK, a0, a1, a5, a6, ze, hlt', ha, stO, -zM]) | refine zv ?_ | refine zr ?_ | (refine zO ?_; simp only [zP]; try simp) | (refine zm (fun hc => ?_) (fun hc => ?_) <;> try simp at hc) | fail)
      refine zbM zjn (hO.ext (Ext.new _ _ _ _)) (hE.trans (Ext.new _ _ _ _)) (ys := [ze []]) (by simp [ze, zf]) (.inr rfl) (by simp [ze]) (by simp [zq]; omega) ?_
      intro v' τ' hO' hE' _ _
      have FF := fI @a0 (fI @a1 (fI @a5 (fI @a6 @w1))); refine gxC ?_; clear FF
      exact hI1 (s.length - (i + 1)) _ _ (by omega) ⟨hE', by simp [a0], by simp [a1], i + 1, v', by simp, by rw [hst]; simpa using hO', by simp, by omega, rfl⟩
    · rw [if_neg hc] at hst
      have hcc : ¬ (c.toNat : Int) = (b.toNat : Int) := fun e => hc (hbb.1 e)
      have hcn : ¬ c.toNat = b.toNat := fun e => hc (UInt8.toNat.inj e)
      obtain ⟨qs, p, hqp⟩ : ∃ qs p, zq b (s.take i) = qs ++ [p] := ⟨_, _, (List.dropLast_concat_getLast (zaY b _)).symm⟩
      rw [hqp, zdw] at hst
      rw [hqp] at hO hps hpl
      have hp := hpl p (by simp)
      rcases hO with ⟨h0, _⟩ | ⟨j, rfl, hjs, hm, hn⟩
      · simp at h0
      · obtain ⟨k, hqk⟩ : ∃ k, qs.length = k := ⟨_, rfl⟩
        obtain ⟨L, hL⟩ : ∃ L, (qs ++ [p]).map ze = L := ⟨_, rfl⟩
        have hLl : L.length = k + 1 := by rw [← hL, ← hqk]; simp
        have hLk : L[k]'(by omega) = ze p := by simp [← hL, ← hqk]
        have hLs : L.set k (ze (p ++ [c])) = (qs ++ [p ++ [c]]).map ze := by rw [← hL, ← hqk]; simp
        rw [hL] at hm a5
        rw [hLl] at a5
        have w2 : IntKind.i64.wrap (k : Int) = (k : Int) := zA (by omega) (by simp at hps; omega)
        have c3 : (0 : Int) ≤ (i : Int) + 1 := by omega
        have c2 : (k : Int) < (k : Int) + 1 := by omega
        have sz2 : ((zf p).size : Int) + ((zf [c]).size : Int) ≤ 9223372036854775807 := by rw [zT, zT]; simp; omega
        have hcat : zf p ++ zf [c] = zf (p ++ [c]) := zaN _ _
        have hsp : setPart (.raw (.string (zf p))) 0 [.raw (.string (zf (p ++ [c])))] = ze (p ++ [c]) := rfl
        have hcl : (AV.raw (.string (zf p))).cells = [.raw (.string (zf p))] := rfl
        have hck : zN [AV.raw (.string (zf (p ++ [c])))] = true := rfl
        unfold ze at hLk
        have FF := fI @a0 (fI @a1 (fI @a5 (fI @a6 (fI ze.eq_1 (fI @hlt' (fI @hle1 (fI @ha (fI @hcc (fI @c2 (fI @c3 (fI @w1 (fI @w2 (fI @hm (fI @hLk (fI @hLl (fI @hjs (fI @hsub (fI @sz2 (fI @hcat (fI @hsp (fI @hcl @hck))))))))))))))))))))); refine gxC ?_; clear FF
        refine hI1 (s.length - (i + 1)) _ _ (by omega) ⟨⟨fun i' o h' => ?_, hE.nx⟩, by simp [a0, ze], by simp [a1], i + 1, .rs j 0 (k + 1), by simp [a5], ?_, by simp, by omega, rfl⟩
        · rw [zQ (fun e => by rw [e, hn] at h'; cases h')]; exact hE.m i' o h'
        · rw [hst, ← hLs]
          exact OwnL.of hjs (by simp [hm, ze]) hn (by simp [hLl])
  · have : i = s.length := by omega
    subst this
    rw [List.take_length] at hO
    have FF := fI @a0 (fI @a1 (fI @a5 (fI @a6 (fI ze.eq_1 @hsz)))); refine gxC ?_; clear FF
    exact zfd (.inr rfl) (by simp) hO hE
theorem znJ {s : Bs} {i : Nat} {c : UInt8} (h : s[i]? = some c) : val (s.take (i + 1)) = 10 * val (s.take i) + (c.toNat - 48) := by
  rw [List.take_add_one, h]; exact zju _ _
theorem zfr {most : Nat} {s : Bs} (hm : most ≤ 1048576) (h : (∃ c ∈ s, c.toNat < 48 ∨ 57 < c.toNat) ∨ 10 < s.length) : zab most s = -1 := by
  unfold zab
  cases hn : zaC most s with
  | none => rfl
  | some n =>
    obtain ⟨rfl, h2⟩ := zbI.1 hn
    rcases h with ⟨c, hc, h⟩ | h
    · have := zfF n c hc; omega
    · have := zaM n 10 (by omega) (by omega); omega
theorem zmZ (most : Nat) (s : Bs) : zab most s = if s = zz (val s) ∧ val s ≤ most then (val s : Int) else -1 := by
  unfold zab zaC
  by_cases h : s = zz (val s) ∧ val s ≤ most
  · rw [if_pos h, if_pos h]
  · rw [if_neg h, if_neg h]
theorem zap (s : Bs) (most : Nat) (hs : s.length ≤ 1000) (hm : most ≤ 1048576) : PCalls Tryz.prog 36 [ze s, .raw (.int .i64 most)] (.raw (.int .i64 (zab most s))) := by
  refine zD Tryz.func36 rfl (N := 49) rfl rfl (by simp) (by simp [noIds]) fun σ => ?_
  have wm1 : IntKind.i64.wrap (-1) = -1 := zA (by omega) (by omega)
  have FF := ze.eq_1; refine gxC ?_; clear FF
  refine z1 (fun n A τ => τ = σ ∧ A 0 = ze s ∧ A 1 = .raw (.int .i64 most) ∧ ∃ (i m : Nat), A 5 = .raw (.int .i64 m) ∧ A 6 = .raw (.int .i64 i) ∧ i ≤ s.length ∧ i ≤ 10 ∧ m = val (s.take i) ∧ m < 10 ^ i ∧ (∀ c ∈ s.take i, 48 ≤ c.toNat ∧ c.toNat ≤ 57) ∧ n = s.length - i) s.length ?_ ?_
  · exact ⟨rfl, by simp [ze], by simp, 0, 0, by simp, by simp, by omega, by omega, rfl, by decide, by simp, by omega⟩
  rintro n A τ ⟨rfl, a0, a1, i, m, a5, a6, hi, hi10, hmv, hm10, hdig, rfl⟩ I1 hI1
  have hsz := zT s
  by_cases hlt : i < s.length
  · have hx : s[i]? = some s[i] := List.getElem?_eq_getElem hlt
    have hmem : s[i] ∈ s := List.getElem_mem hlt
    have ha := ziw hx (by omega)
    have hv := znJ hx
    have hdt : ∀ c ∈ s.take (i + 1), c ∈ s.take i ∨ c = s[i] := by
      intro c hc
      rw [List.take_add_one, hx] at hc
      rcases List.mem_append.1 hc with h | h
      · exact .inl h
      · exact .inr (by simpa using h)
    generalize s[i] = c at *
    have hlt' : i < (zf s).size := by omega
    have w1 : IntKind.i64.wrap ((i : Int) + 1) = ((i + 1 : Nat) : Int) := by rw [zA (by omega) (by omega)]; omega
    by_cases h1 : c.toNat < 48
    · have hr := zfr (s := s) hm (.inl ⟨c, hmem, .inl h1⟩)
      have h1' : ((c.toNat : Int) < 48) = True := by simp; omega
      rw [hr]
      have FF := fI @a0 (fI @a1 (fI @a5 (fI @a6 (fI ze.eq_1 (fI @hlt' (fI @ha (fI @h1' @wm1))))))); exact zJ
    · have h1' : ((c.toNat : Int) < 48) = False := by simp; omega
      by_cases h2 : 57 < c.toNat
      · have hr := zfr (s := s) hm (.inl ⟨c, hmem, .inr h2⟩)
        have h2' : ((57 : Int) < (c.toNat : Int)) = True := by simp; omega
        rw [hr]
        have FF := fI @a0 (fI @a1 (fI @a5 (fI @a6 (fI ze.eq_1 (fI @hlt' (fI @ha (fI @h1' (fI @h2' @wm1)))))))); exact zJ
      · have h2' : ((57 : Int) < (c.toNat : Int)) = False := by simp; omega
        by_cases h3 : 9 < i
        · have hr := zfr (s := s) hm (.inr (by omega))
          have h3' : ((9 : Int) < (i : Int)) = True := by simp; omega
          rw [hr]
          have FF := fI @a0 (fI @a1 (fI @a5 (fI @a6 (fI ze.eq_1 (fI @hlt' (fI @ha (fI @h1' (fI @h2' (fI @h3' @wm1))))))))); exact zJ
        · have h3' : ((9 : Int) < (i : Int)) = False := by simp; omega
          have p10 : 10 ^ i ≤ 10 ^ 9 := Nat.pow_le_pow_right (by omega) (by omega)
          have hp : 10 ^ (i + 1) = 10 * 10 ^ i := by rw [Nat.pow_succ, Nat.mul_comm]
          obtain ⟨d, hd⟩ : ∃ d, c.toNat - 48 = d := ⟨_, rfl⟩
          have e1 : IntKind.u8.wrap ((c.toNat : Int) - 48) = (d : Int) := by
            have : IntKind.u8.wrap ((c.toNat : Int) - 48) = ((c.toNat : Int) - 48) % 256 := by simp [IntKind.wrap, IntKind.bits, IntKind.signed]
            rw [this]; omega
          have e2 : IntKind.i64.wrap (d : Int) = d := zA (by omega) (by omega)
          have e3 : IntKind.i64.wrap (10 * (m : Int)) = 10 * (m : Int) := zA (by omega) (by omega)
          have e4 : IntKind.i64.wrap (10 * (m : Int) + (d : Int)) = ((10 * m + d : Nat) : Int) := by rw [zA (by omega) (by omega)]; omega
          have hnew : 10 * m + d = val (s.take (i + 1)) ∧ 10 * m + d < 10 ^ (i + 1) := by rw [hv, hd, hmv, hp, ← hmv]; omega
          obtain ⟨m', hm'⟩ : ∃ m', 10 * m + d = m' := ⟨_, rfl⟩
          rw [hm'] at e4 hnew
          have FF := fI @a0 (fI @a1 (fI @a5 (fI @a6 (fI ze.eq_1 (fI @hlt' (fI @ha (fI @h1' (fI @h2' (fI @h3' (fI @e1 (fI @e2 (fI @e3 (fI @e4 @w1))))))))))))); refine gxC ?_; clear FF
          exact hI1 (s.length - (i + 1)) _ _ (by omega) ⟨rfl, by simp [a0, ze], by simp [a1], i + 1, m', by simp, by simp, by omega, by omega, hnew.1, hnew.2, fun c' hc' => by rcases hdt c' hc' with h | h; exact hdig c' h; subst h; omega, rfl⟩
  · have : i = s.length := by omega
    subst this
    rw [List.take_length] at hmv hdig
    have p10 : 10 ^ s.length ≤ 10 ^ 10 := Nat.pow_le_pow_right (by omega) hi10
    have hD := zb7 m (by omega)
    have hE := zf8 s
    have hB := zbW s (zz m)
    rw [zmZ, ← hmv]
    have hnl : ¬ s.length < (zf s).size := by omega
    by_cases h1 : s = []
    · have hne : ¬ (s = zz m ∧ m ≤ most) := fun h => zjv m (by rw [← h.1, h1])
      rw [if_neg hne]
      have hE' : (zf s).toList.isEmpty = true := by rw [hE]; simp [h1]
      unfold ze at *
      have FF := fI @a0 (fI @a1 (fI @a5 (fI @a6 (fI @hnl (fI @hsz (fI @hE' @wm1)))))); exact zJ
    · have hE' : (zf s).toList.isEmpty = false := by rw [hE]; simp [h1]
      by_cases h2 : s = zz m
      · have hB' : ((zf s).toList == (zf (zz m)).toList) = true := by rw [hB]; simpa using h2
        unfold ze at *
        generalize zf (zz m) = X at *
        by_cases h3 : m ≤ most
        · rw [if_pos ⟨h2, h3⟩]
          have h3' : ¬ most < m := by omega
          clear h2
          have FF := fI @a0 (fI @a1 (fI @a5 (fI @a6 (fI @hnl (fI @hsz (fI @hE' (fI @hB' (fI @h3 (fI @h3' @wm1))))))))); exact zJ
        · rw [if_neg (fun h => h3 h.2)]
          have h3' : most < m := by omega
          clear h2
          have FF := fI @a0 (fI @a1 (fI @a5 (fI @a6 (fI @hnl (fI @hsz (fI @hE' (fI @hB' (fI @h3 (fI @h3' @wm1))))))))); exact zJ
      · have hB' : ((zf s).toList == (zf (zz m)).toList) = false := by rw [hB]; simpa using h2
        rw [if_neg (fun h => h2 h.1)]
        unfold ze at *
        generalize zf (zz m) = X at *
        have FF := fI @a0 (fI @a1 (fI @a5 (fI @a6 (fI @hnl (fI @hsz (fI @hE' (fI @hB' @wm1))))))); exact zJ
end Go.Proofs.YtckabcbfbpejkaaGreatDoor.Av
namespace Go.Proofs.YtckabcbfbpejkaaGreatDoor.Av
open Go
set_option linter.unusedSimpArgs false
set_option linter.unusedVariables false
set_option maxRecDepth 100000
set_option maxHeartbeats 4000000
set_option pp.maxSteps 600
theorem zgN {m : Nat} {x : Bs} (h : zaC m x = none) : zab m x = -1 := by unfold zab; rw [h]
theorem zgO {m : Nat} {x : Bs} {n : Nat} (h : zaC m x = some n) : zab m x = n := by unfold zab; rw [h]
theorem zb8 (s : Bs) (hs : s.length ≤ 1000) : PCalls Tryz.prog 62 [ze s] (zdr (zam s)) := by
  have hS := zc3 s 46 hs
  have hlen := zbu 46 s
  refine zD Tryz.func62 rfl (N := 30) rfl rfl (by simp) (zko _) fun σ => ?_
  unfold zam
  generalize zq 46 s = ps at *
  have e46 : (((46 : UInt8).toNat : Nat) : Int) = 46 := rfl
  rw [e46] at hS
  by_cases h4 : ps.length = 4
  · rw [if_pos h4]
    obtain ⟨T, hT⟩ : ∃ T, zby ps 0 = T := ⟨_, rfl⟩
    rw [hT]
    have h4' : (ps.length : Int) = 4 := by omega
    have FF := fI zB.eq_1 @h4'; refine gxC ?_; clear FF
    refine z1 (fun n B ρ => Ext σ ρ ∧ B 4 = zB ps false ∧ ∃ k a : Nat, B 6 = .raw (.int .i64 k) ∧ k ≤ 4 ∧ n = 4 - k ∧ B 5 = .raw (.int .i64 a) ∧ a < 256 ^ k ∧ zby (ps.drop k) a = T) 4 ?_ ?_
    · exact ⟨by simp (maxDischargeDepth := 30), by simp [zB], 0, 0, by simp, by omega, by omega, by simp, by decide, by simpa using hT⟩
    rintro n B ρ ⟨hE, a4, k, a, a6, hk, rfl, a5, ha, hf⟩ I1 hI1
    by_cases hlt : k < 4
    · have hkl : k < ps.length := by omega
      have hx : ps[k]? = some ps[k] := List.getElem?_eq_getElem hkl
      have w1 : IntKind.i64.wrap ((k : Int) + 1) = ((k + 1 : Nat) : Int) := by rw [zA (by omega) (by omega)]; omega
      have hlt' : (k : Int) < 4 := by omega
      have hN := zap ps[k] 255 (by have := hlen _ (List.getElem_mem hkl); omega) (by omega)
      have hd : ps.drop k = ps[k] :: ps.drop (k + 1) := (List.getElem_cons_drop hkl).symm
      rw [hd] at hf
      generalize ps[k] = x at *
      have ha24 : a < 16777216 := Nat.lt_of_lt_of_le ha (by have : 256 ^ k ≤ 256 ^ 3 := Nat.pow_le_pow_right (by omega) (by omega); simpa using this)
      cases hn : zaC 255 x with
      | none =>
        rw [zgN hn] at hN
        rw [zdF, hn] at hf
        simp only [] at hf
        subst hf
        have hr : zdr none = .tup [.raw (.int .u32 0), .raw (.int .i64 21)] := rfl
        rw [hr]
        have FF := fI zB.eq_1 (fI @a4 (fI @a5 (fI @a6 (fI @hlt' (fI @hx @zai))))); exact zJ
      | some c =>
        have hc := zfj hn
        rw [zgO hn] at hN
        rw [zdF, hn] at hf
        simp only [] at hf
        obtain ⟨y, hy⟩ : ∃ y, a * 256 + c = y := ⟨_, rfl⟩
        have e1 : IntKind.i64.wrap (256 * (a : Int)) = 256 * (a : Int) := zA (by omega) (by omega)
        have e3 : IntKind.i64.wrap (256 * (a : Int) + (c : Int)) = (y : Int) := by rw [zA (by omega) (by omega)]; omega
        have c0 : ((c : Int) < 0) = False := by simp
        have hy2 : y < 256 ^ (k + 1) := by rw [Nat.pow_succ]; omega
        rw [hy] at hf
        have FF := fI zB.eq_1 (fI @a4 (fI @a5 (fI @a6 (fI @hlt' (fI @hx (fI @zai (fI @c0 (fI @e1 (fI @e3 @w1))))))))); refine gxC ?_; clear FF
        exact hI1 (4 - (k + 1)) _ _ (by omega) ⟨hE, by simp [a4, zB], k + 1, y, by simp, by omega, rfl, by simp, hy2, hf⟩
    · have : k = 4 := by omega
      subst this
      rw [List.drop_eq_nil_of_le (by omega)] at hf
      subst hf
      have hf0 : zby [] a = some a := rfl
      rw [hf0]
      have hr : zdr (some a) = .tup [.raw (.int .u32 a), .raw (.int .i64 0)] := rfl
      have p4 : 256 ^ 4 = 4294967296 := by decide
      have wa : IntKind.u32.wrap (a : Int) = a := zcZ (by omega) (by omega)
      rw [hr]
      have FF := fI @a4 (fI @a5 (fI @a6 @wa)); exact zJ
  · rw [if_neg h4]
    have h4' : ¬ (ps.length : Int) = 4 := by omega
    have hr : zdr none = .tup [.raw (.int .u32 0), .raw (.int .i64 21)] := rfl
    rw [hr]
    have FF := fI zB.eq_1 @h4'; exact zJ
theorem zi4 (l : List Bs) : (∃ h t, l = [h, t]) ∨ ¬ (l.length : Int) = 2 := by
  match l with
  | [] => right; simp
  | [a] => right; simp
  | [a, b] => left; exact ⟨a, b, rfl⟩
  | a :: b :: c :: r => right; simp; omega
theorem zl9 {s : Bs} (h : ¬ ((zq 47 s).length : Int) = 2) : zea s = none := by
  unfold zea
  split
  · rename_i e; rw [e] at h; simp at h
  · rfl
theorem zk6 {s : Bs} (hp : zbP s = none) (h : ¬ ((zq 45 s).length : Int) = 2) : zcA s = none := by
  unfold zcA
  rw [hp]
  try simp only []
  split
  · rename_i e; rw [e] at h; simp at h
  · rfl
theorem zix (s : Bs) (hs : s.length ≤ 1000) : PCalls Tryz.prog 59 [ze s] (zgn (zbP s)) := by
  have hS := zc3 s 47 hs
  have hlen := zbu 47 s
  have e47 : (((47 : UInt8).toNat : Nat) : Int) = 47 := rfl
  rw [e47] at hS
  rw [← zk3]
  refine zD Tryz.func59 rfl (N := 38) rfl rfl (by simp) (ziX _) fun σ => ?_
  rcases zi4 (zq 47 s) with ⟨h, t, hps⟩ | hne
  · unfold zea
    rw [hps] at hS hlen ⊢
    have hA := zb8 h (by have := hlen h (by simp); omega)
    have hN := zap t 32 (by have := hlen t (by simp); omega) (by omega)
    have lt := fun a => zcr (s := h) (a := a)
    try simp only []
    cases ha : zam h with
    | none =>
      rw [ha, zbG] at hA
      have hR := zcs ⟨0, zab 32 t⟩ (by simp) (by simp)
      unfold zbl at hR
      generalize zab 32 t = z at *
      generalize rightB ⟨0, z⟩ = b at *
      try simp only []
      rw [zaW]
      cases b
      all_goals
        have FF := fI zB.eq_1 (fI @zai (fI @zl (fI @zo @zb))); exact zJ
    | some a =>
      have la := lt a ha
      rw [ha, zbH] at hA
      have hR := zcs ⟨a, zab 32 t⟩ (by simp) (by simp; omega)
      unfold zbl at hR
      try simp only []
      cases hn : zaC 32 t with
      | none =>
        rw [zgN hn] at hN hR
        have hr : rightB ⟨a, -1⟩ = false := by simp [rightB]
        rw [hr] at hR
        try simp only []
        rw [zaW]
        have FF := fI zB.eq_1 (fI @zai (fI @zl (fI @zo @zb))); exact zJ
      | some n =>
        rw [zgO hn] at hN hR
        rw [zcQ] at hR
        try simp only []
        cases hr : zbX a n with
        | true =>
          rw [hr] at hR
          rw [if_pos rfl, zdG]
          have FF := fI zB.eq_1 (fI @zai (fI @zl (fI @zo @zb))); exact zJ
        | false =>
          rw [hr] at hR
          rw [if_neg (by simp), zaW]
          have FF := fI zB.eq_1 (fI @zai (fI @zl (fI @zo @zb))); exact zJ
  · rw [zl9 hne, zaW]
    generalize zq 47 s = ps at *
    have FF := fI zB.eq_1 (fI @hne (fI @zl (fI @zo @zb))); exact zJ
theorem zcU (s : Bs) (hs : s.length ≤ 1000) : PCalls Tryz.prog 37 [ze s] (zfk (zbi s)) := by
  have hP := zix s hs
  rw [← zkt]
  refine zD Tryz.func37 rfl (N := 57) rfl rfl (by simp) (ziY _) fun σ => ?_
  cases hp : zbP s with
  | some p =>
    unfold zcA
    rw [hp]
    obtain ⟨a, n⟩ := p
    obtain ⟨h1, _, _, h4⟩ := zfl hp
    have la := zcr h1
    have hR := zg9 ⟨a, n⟩ (by simp) (by simp; omega)
    rw [zfm h4] at hR
    rw [hp, zdG] at hP
    try simp only []
    unfold zbl at hR
    generalize a + 2 ^ (32 - n) - 1 = e at *
    rw [zaX] at hR ⊢
    have FF := fI @zl (fI @zo @zb); exact zJ
  | none =>
    rw [hp, zaW] at hP
    have hS := zc3 s 45 hs
    have hlen := zbu 45 s
    have e45 : (((45 : UInt8).toNat : Nat) : Int) = 45 := rfl
    rw [e45] at hS
    rcases zi4 (zq 45 s) with ⟨h, t, hps⟩ | hne
    · unfold zcA
      rw [hp]
      try simp only []
      clear hp
      rw [hps] at hS hlen ⊢
      have hA := zb8 h (by have := hlen h (by simp); omega)
      have hB := zb8 t (by have := hlen t (by simp); omega)
      try simp only []
      cases ha : zam h with
      | none =>
        rw [ha, zbG] at hA
        try simp only []
        rw [zaE]
        cases hb : zam t with
        | none =>
          rw [hb, zbG] at hB
          have FF := fI zB.eq_1 (fI @zai (fI @zl (fI @zo @zb))); exact zJ
        | some c =>
          rw [hb, zbH] at hB
          have FF := fI zB.eq_1 (fI @zai (fI @zl (fI @zo @zb))); exact zJ
      | some a =>
        rw [ha, zbH] at hA
        try simp only []
        cases hb : zam t with
        | none =>
          rw [hb, zbG] at hB
          try simp only []
          rw [zaE]
          have FF := fI zB.eq_1 (fI @zai (fI @zl (fI @zo @zb))); exact zJ
        | some c =>
          rw [hb, zbH] at hB
          try simp only []
          by_cases hle : a ≤ c
          · have hle' : ¬ c < a := by omega
            rw [if_pos hle, zaX]
            have FF := fI zB.eq_1 (fI @zai (fI @hle (fI @hle' (fI @zl (fI @zo @zb))))); exact zJ
          · have hle' : c < a := by omega
            rw [if_neg hle, zaE]
            have FF := fI zB.eq_1 (fI @zai (fI @hle (fI @hle' (fI @zl (fI @zo @zb))))); exact zJ
    · rw [zk6 hp hne, zaE]
      generalize zq 45 s = ps at *
      have FF := fI zB.eq_1 (fI @hne (fI @zl (fI @zo @zb))); exact zJ
end Go.Proofs.YtckabcbfbpejkaaGreatDoor.Av
