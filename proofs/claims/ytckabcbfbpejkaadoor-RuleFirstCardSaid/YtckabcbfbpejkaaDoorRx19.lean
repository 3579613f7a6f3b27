/- Rules: the laws RuleTells, RuleBack, RuleApart, RuleFirst. Part 19 of 22: AvS6, AvS7, AvS8, AvP7, AvP8, AvP9, AvRA, AvRB. -/
import Derived.Test.YtckabcbfbpejkaaDoorRx8
import Derived.Test.YtckabcbfbpejkaaDoorRx9
import Derived.Test.YtckabcbfbpejkaaDoorRx11
import Derived.Test.YtckabcbfbpejkaaDoorRx18
import Derived.Lib.TrailingZeros
namespace Go.Proofs.YtckabcbfbpejkaaDoor.Av
open Go
set_option linter.unusedSimpArgs false
set_option linter.unusedVariables false
set_option maxRecDepth 100000
set_option maxHeartbeats 4000000
set_option pp.maxSteps 600
def zeK (a b : Nat) : Nat := min (min (Lib.ctz 64 a) 32) (Sort.bitsLen (b + 1 - a) - 1)
def zcD (a b : Nat) : List (Nat × Nat) := if a ≤ b then (a, 32 - zeK a b) :: zcD (a + 2 ^ zeK a b) b else []
termination_by b + 1 - a
decreasing_by have : 0 < 2 ^ zeK a b := Nat.pow_pos (by omega); omega
def pfN (p : Nat × Nat) : AV := .agg [.raw (.int .u32 p.1), .raw (.int .i64 p.2)]
theorem zkg {a b : Nat} (h : a ≤ b) : zcD a b = (a, 32 - zeK a b) :: zcD (a + 2 ^ zeK a b) b := by rw [zcD, if_pos h]
theorem zk8 {a b : Nat} (h : ¬ a ≤ b) : zcD a b = [] := by rw [zcD, if_neg h]
theorem zk9 (a b : Nat) : (zcD a b).length ≤ b + 1 - a := by
  by_cases h : a ≤ b
  · rw [zkg h, List.length_cons]
    have h2 : 0 < 2 ^ zeK a b := Nat.pow_pos (by omega)
    have := zk9 (a + 2 ^ zeK a b) b
    omega
  · rw [zk8 h]; simp
termination_by b + 1 - a
decreasing_by omega
def zpG (l : List (Nat × Nat)) (f : Bool) : AV := .sl 2 (l.map pfN) f
def zr8 (a b : Nat) : AV := if a ≤ b then .tup [zpG (zcD a b) false, .raw (.int .i64 0)] else .tup [.sl 0 [] true, .raw (.int .i64 21)]
end Go.Proofs.YtckabcbfbpejkaaDoor.Av
namespace Go.Proofs.YtckabcbfbpejkaaDoor.Av
open Go
set_option linter.unusedSimpArgs false
set_option linter.unusedVariables false
set_option maxRecDepth 100000
set_option maxHeartbeats 4000000
set_option pp.maxSteps 600
def ofP (a b : Nat) : Option (Nat × Nat) := match zcD a b with | [p] => some p | _ => none
def ofA (o : Option (Nat × Nat)) : AV := match o with | some p => .tup [pfN p, .raw (.bool true)] | none => .tup [pfN (0, 0), .raw (.bool false)]
end Go.Proofs.YtckabcbfbpejkaaDoor.Av
namespace Go.Proofs.YtckabcbfbpejkaaDoor.Av
open Go
set_option linter.unusedSimpArgs false
set_option linter.unusedVariables false
set_option maxRecDepth 100000
set_option maxHeartbeats 4000000
set_option pp.maxSteps 600
theorem zf6 {a n : Nat} : zbU a n = true ↔ n ≤ 32 ∧ a % 2 ^ (32 - n) = 0 := by simp [zbU]
end Go.Proofs.YtckabcbfbpejkaaDoor.Av
namespace Go.Proofs.YtckabcbfbpejkaaDoor.Av
open Go
set_option linter.unusedSimpArgs false
set_option linter.unusedVariables false
theorem zfv {b : UInt8} : ∀ {x : Bs}, b ∉ x → zP b x = [x]
  | [], _ => rfl
  | c :: x, h => by
    have h1 : ¬ c = b := fun e => h (by simp [e])
    have h2 : b ∉ x := fun e => h (by simp [e])
    unfold zP
    rw [if_neg h1, zfv h2]
theorem zc4 {b : UInt8} : ∀ {x : Bs} (y : Bs), b ∉ x → zP b (x ++ b :: y) = x :: zP b y
  | [], y, _ => by simp [zP]
  | c :: x, y, h => by
    have h1 : ¬ c = b := fun e => h (by simp [e])
    have h2 : b ∉ x := fun e => h (by simp [e])
    rw [List.cons_append]
    conv => lhs; unfold zP
    rw [if_neg h1, zc4 y h2]
theorem zit {b : UInt8} : ∀ {x x' y y' : Bs}, b ∉ x → b ∉ x' → x ++ b :: y = x' ++ b :: y' → x = x' ∧ y = y'
  | [], [], y, y', _, _, e => by simpa using e
  | [], c :: x', y, y', _, h, e => by simp at e; exact absurd (by simp [e.1]) h
  | c :: x, [], y, y', h, _, e => by simp at e; exact absurd (by simp [e.1]) h
  | c :: x, d :: x', y, y', h, h', e => by
    simp only [List.cons_append, List.cons.injEq] at e
    obtain ⟨e1, e2⟩ := zit (fun k => h (by simp [k])) (fun k => h' (by simp [k])) e.2
    exact ⟨by rw [e.1, e1], e2⟩
theorem zns {b : UInt8} {x : Bs} (y : Bs) (h : b ∉ x) : Lib.cut (x ++ b :: y) [b] = (x, y, true) := by
  rcases zhX b (x ++ b :: y) with ⟨_, _, k⟩ | ⟨x', y', e, h', k, _⟩
  · exact absurd (by simp) k
  · obtain ⟨rfl, rfl⟩ := zit h h' e
    exact k
theorem zhs {n : Nat} {b : UInt8} (h : b.toNat < 48) : b ∉ dec n := fun k => by have := zh7 n b k; omega
theorem zgu (a : Nat) : zaA a = dec (a / 16777216) ++ 46 :: (dec (a / 65536 % 256) ++ 46 :: (dec (a / 256 % 256) ++ 46 :: dec (a % 256))) := by
  simp [zaA, zaZ, Lib.join_cons, Lib.joinTail]
theorem zjL {a : Nat} {b : UInt8} (h : b.toNat < 46) : b ∉ zaA a := by
  have h' : b.toNat < 48 := by omega
  have h2 : ¬ b = 46 := fun e => by subst e; exact absurd h (by decide)
  rw [zgu]
  simp [zhs h', h2]
theorem zla {a : Nat} : (47 : UInt8) ∉ zaA a := by
  have h2 : ¬ (47 : UInt8) = 46 := by decide
  have h3 : ∀ n, (47 : UInt8) ∉ dec n := fun n => zhs (by decide)
  rw [zgu]
  simp [h3, h2]
theorem zf7 {a : Nat} (h : a < 4294967296) : zbh (zaA a) = some a := by
  have h3 : ∀ n, (46 : UInt8) ∉ dec n := fun n => zhs (by decide)
  unfold zbh
  rw [zgu, zc4 _ (h3 _), zc4 _ (h3 _), zc4 _ (h3 _), zfv (h3 _)]
  refine (if_pos rfl).trans ?_
  simp only [zcz, zdL (show a / 16777216 ≤ 255 by omega), zdL (show a / 65536 % 256 ≤ 255 by omega), zdL (show a / 256 % 256 ≤ 255 by omega), zdL (show a % 256 ≤ 255 by omega)]
  congr 1
  omega
theorem zjM {a b : Nat} : zdk (zaN a b) = none := by
  have hno : (47 : UInt8) ∉ zaN a b := by
    have h2 : ¬ (47 : UInt8) = 45 := by decide
    simp [zaN, zla, h2]
  rcases zhX 47 (zaN a b) with ⟨k, _, _⟩ | ⟨x, y, e, _⟩
  · unfold zdk
    rw [k]
    simp only []
    split <;> simp
  · rw [e] at hno
    exact absurd (by simp) hno
theorem ziI {a b : Nat} (h : a < 4294967296) (h' : b < 4294967296) (hab : a ≤ b) : zb3 (zaN a b) = some (a, b) := by
  have e : zaN a b = zaA a ++ 45 :: zaA b := by simp [zaN]
  unfold zb3
  rw [zjM]
  simp only []
  rw [e, zns _ (zjL (by decide))]
  simp only [zf7 h, zf7 h', hab, and_self, if_true]
end Go.Proofs.YtckabcbfbpejkaaDoor.Av
namespace Go.Proofs.YtckabcbfbpejkaaDoor.Av
open Go
set_option linter.unusedSimpArgs false
set_option linter.unusedVariables false
def zqX (s : Bs) : Option (Nat × Nat) := match zP 47 s with
  | [h, t] => match zbh h, zbl 32 t with
    | some a, some n => if zbU a n = true then some (a, n) else none
    | _, _ => none
  | _ => none
def zp7 (s : Bs) : Option (Nat × Nat) := match zdk s with
  | some (a, n) => some (a, a + 2 ^ (32 - n) - 1)
  | none => match zP 45 s with
    | [h, t] => match zbh h, zbh t with
      | some a, some b => if a ≤ b then some (a, b) else none
      | _, _ => none
    | _ => none
end Go.Proofs.YtckabcbfbpejkaaDoor.Av
namespace Go.Proofs.YtckabcbfbpejkaaDoor.Av
open Go
set_option linter.unusedSimpArgs false
set_option linter.unusedVariables false
def zq : Nat → Bs
  | 0 => [102, 111, 114, 119, 97, 114, 100]
  | 1 => [100, 114, 111, 112]
  | 2 => [112, 101, 114, 109, 105, 116]
  | _ => [100, 101, 110, 121]
def zal (r : Ru) : List Bs := [dec r.id.toNat, dec r.dev.toNat, dec r.prio.toNat, zq r.kind.toNat, zaN r.r.lo.toNat r.r.hi.toNat] ++ if r.kind = 0 then [dec r.port.toNat] else []
def z1 (r : Ru) : Bs := Lib.join (zal r) [32]
structure RuOK (r : Ru) : Prop where
  b : zaC r = true
  lo : 0 ≤ r.r.lo
  hi : r.r.hi < 4294967296
structure RuN (r : Ru) : Prop where
  id0 : 1 ≤ r.id
  id1 : r.id ≤ 1048576
  dev0 : 0 ≤ r.dev
  dev1 : r.dev ≤ 7
  prio0 : 0 ≤ r.prio
  prio1 : r.prio ≤ 1024
  kind0 : 0 ≤ r.kind
  kind1 : r.kind ≤ 3
  port0 : 0 ≤ r.port
  port1 : r.port ≤ 3
  kp : r.kind = 0 ∨ r.port = 0
  le : r.r.lo ≤ r.r.hi
theorem ruN {r : Ru} (h : zaC r = true) : RuN r := by
  unfold zaC at h
  simp only [Bool.and_eq_true, Bool.or_eq_true, decide_eq_true_eq] at h
  obtain ⟨⟨⟨⟨⟨⟨⟨h1, h2⟩, h3, h4⟩, h5, h6⟩, h7, h8⟩, h9, h10⟩, h11⟩, h12⟩ := h
  exact ⟨h1, h2, h3, h4, h5, h6, h7, h8, h9, h10, h11, h12⟩
theorem zlb (n : Nat) : (32 : UInt8) ∉ dec n := zhs (by decide)
theorem zmM (k : Nat) : (32 : UInt8) ∉ zq k := by
  unfold zq
  split <;> decide
theorem zkh (a b : Nat) : (32 : UInt8) ∉ zaN a b := by
  have h2 : ¬ (32 : UInt8) = 45 := by decide
  have h3 : ∀ a, (32 : UInt8) ∉ zaA a := fun a => zjL (by decide)
  simp [zaN, h3, h2]
theorem zmN (r : Ru) : ∀ x ∈ zal r, (32 : UInt8) ∉ x := by
  intro x hx
  unfold zal at hx
  rw [List.mem_append] at hx
  rcases hx with hx | hx
  · simp only [List.mem_cons, List.not_mem_nil, or_false] at hx
    rcases hx with rfl | rfl | rfl | rfl | rfl
    · exact zlb _
    · exact zlb _
    · exact zlb _
    · exact zmM _
    · exact zkh _ _
  · split at hx
    · simp only [List.mem_cons, List.not_mem_nil, or_false] at hx
      subst hx; exact zlb _
    · simp at hx
theorem zht {b : UInt8} : ∀ {x : Bs} {l : List Bs}, (∀ y ∈ x :: l, b ∉ y) → zP b (Lib.join (x :: l) [b]) = x :: l
  | x, [], h => by
    have : Lib.join [x] [b] = x := by simp [Lib.join_cons, Lib.joinTail]
    rw [this]
    exact zfv (h x (by simp))
  | x, y :: l, h => by
    have ih := zht (b := b) (x := y) (l := l) fun z hz => h z (by simp at hz ⊢; right; exact hz)
    have e : Lib.join (x :: y :: l) [b] = x ++ b :: Lib.join (y :: l) [b] := by simp [Lib.join_cons, Lib.joinTail]
    rw [e, zc4 _ (h x (by simp)), ih]
theorem zki (r : Ru) : zP 32 (z1 r) = zal r := zht (zmN r)
theorem ziu (r : Ru) : (zal r).length = 5 ∨ (zal r).length = 6 := by
  unfold zal
  split <;> simp
theorem zhu (r : Ru) : (zal r).length = 6 ↔ r.kind = 0 := by
  unfold zal
  split <;> simp [*]
structure Cand (c : List Bs → Option Ru) : Prop where
  back : ∀ r, RuOK r → c (zal r) = some r
  ok : ∀ w r, c w = some r → 0 ≤ r.r.lo ∧ r.r.hi < 4294967296
def zhv (c : List Bs → Option Ru) (s : Bs) : Option Ru := match c (zP 32 s) with
  | some r => if zaC r = true ∧ z1 r = s then some r else none
  | none => none
theorem zfw {c : List Bs → Option Ru} (hc : Cand c) (s : Bs) (r : Ru) : zhv c s = some r ↔ RuOK r ∧ z1 r = s := by
  unfold zhv
  constructor
  · intro h
    split at h
    · rename_i q hq
      split at h
      · rename_i hk
        simp only [Option.some.injEq] at h
        subst h
        have := hc.ok _ _ hq
        exact ⟨⟨hk.1, this.1, this.2⟩, hk.2⟩
      · cases h
    · cases h
  · rintro ⟨h, rfl⟩
    rw [zki, hc.back r h]
    simp only []
    simp [h.b]
def zbZ (s : Bs) : Int := match Lib.atoiAll s with | .ok v => if Lib.itoa v = s then v else -1 | _ => -1
theorem zeL {n : Nat} (h : n < 9223372036854775808) : zbZ (dec n) = n := by
  have e : Lib.itoa (n : Int) = dec n := by
    unfold Lib.itoa
    rw [if_neg (by omega)]
    simp [dec]
  unfold zbZ
  rw [zgb n h]
  simp only []
  rw [if_pos e]
def zhw (most : Nat) (s : Bs) : Int := match zbl most s with | some n => n | none => -1
def zfK (s : Bs) : Int := if s = zq 0 then 0 else if s = zq 1 then 1 else if s = zq 2 then 2 else if s = zq 3 then 3 else -1
def zm3 (s : Bs) : Int := if s = zq 1 then 1 else if s = zq 2 then 2 else if s = zq 3 then 3 else 0
theorem zlc {k : Int} (h0 : 0 ≤ k) (h1 : k ≤ 3) : zfK (zq k.toNat) = k ∧ zm3 (zq k.toNat) = k := by
  have : k = 0 ∨ k = 1 ∨ k = 2 ∨ k = 3 := by omega
  rcases this with rfl | rfl | rfl | rfl <;> decide
def zeM (w : List Bs) : Option Ru :=
  if w.length = 5 ∨ w.length = 6 then
    match zb3 (w.getD 4 []) with
    | some (a, b) => some ⟨zbZ (w.getD 0 []), zbZ (w.getD 1 []), zbZ (w.getD 2 []), zfK (w.getD 3 []), ⟨a, b⟩, if w.length = 6 then zbZ (w.getD 5 []) else 0⟩
    | none => none
  else none
def ztF (w : List Bs) : Option Ru :=
  if w.length = 5 ∨ w.length = 6 then
    match zb3 (w.getD 4 []) with
    | some (a, b) => some ⟨zhw 1048576 (w.getD 0 []), zhw 9 (w.getD 1 []), zhw 1024 (w.getD 2 []), zm3 (w.getD 3 []), ⟨a, b⟩, if w.length = 6 then zhw 9 (w.getD 5 []) else 0⟩
    | none => none
  else none
theorem zfx {s : Bs} {a b : Nat} (h : zb3 s = some (a, b)) : a < 4294967296 ∧ b < 4294967296 := by
  unfold zb3 at h
  split at h
  · rename_i a' n hp
    obtain ⟨h1, h2, _, h4⟩ := zhr hp
    have ha := zdI h1
    have hm := (zf6.1 h4).1
    simp only [Option.some.injEq, Prod.mk.injEq] at h
    obtain ⟨rfl, rfl⟩ := h
    refine ⟨ha, ?_⟩
    obtain ⟨q, hq⟩ := Nat.dvd_of_mod_eq_zero (zf6.1 h4).2
    have e32 : 4294967296 = 2 ^ (32 - n) * 2 ^ n := by rw [← Nat.pow_add, show 32 - n + n = 32 by omega]
    have hp : 0 < 2 ^ (32 - n) := Nat.pow_pos (by omega)
    rw [hq, e32] at ha
    have hq2 : q < 2 ^ n := Nat.lt_of_mul_lt_mul_left ha
    have := Nat.mul_le_mul_left (2 ^ (32 - n)) (show q + 1 ≤ 2 ^ n from hq2)
    rw [Nat.mul_add, Nat.mul_one] at this
    omega
  · split at h
    · rename_i a' b' h1 h2
      split at h
      · simp only [Option.some.injEq, Prod.mk.injEq] at h
        obtain ⟨rfl, rfl⟩ := h
        exact ⟨zdI h1, zdI h2⟩
      · cases h
    · cases h
theorem znt : ∀ w r, zeM w = some r → 0 ≤ r.r.lo ∧ r.r.hi < 4294967296 := by
  intro w r h
  unfold zeM at h
  split at h
  · split at h
    · rename_i a b hr
      simp only [Option.some.injEq] at h
      subst h
      have := zfx hr
      exact ⟨by simp, by simp; omega⟩
    · cases h
  · cases h
theorem zmO (r : Ru) : (zal r).getD 0 [] = dec r.id.toNat ∧ (zal r).getD 1 [] = dec r.dev.toNat ∧ (zal r).getD 2 [] = dec r.prio.toNat ∧ (zal r).getD 3 [] = zq r.kind.toNat ∧ (zal r).getD 4 [] = zaN r.r.lo.toNat r.r.hi.toNat ∧ (r.kind = 0 → (zal r).getD 5 [] = dec r.port.toNat) := by
  refine ⟨rfl, rfl, rfl, rfl, rfl, fun h => ?_⟩
  unfold zal
  rw [if_pos h]; rfl
theorem zeN : Cand zeM := by
  refine ⟨fun r h => ?_, znt⟩
  have n := ruN h.b
  obtain ⟨id0, id1, dev0, dev1, prio0, prio1, kind0, kind1, port0, port1, kp, le⟩ := n
  obtain ⟨e0, e1, e2, e3, e4, e5⟩ := zmO r
  obtain ⟨hb, hlo, hhi⟩ := h
  unfold zeM
  rw [if_pos (ziu r), e0, e1, e2, e3, e4, ziI (by omega) (by omega) (by omega), zeL (by omega), zeL (by omega), zeL (by omega), (zlc kind0 kind1).1]
  simp only []
  have hp : (if (zal r).length = 6 then zbZ ((zal r).getD 5 []) else 0) = r.port := by
    by_cases hk : r.kind = 0
    · rw [if_pos ((zhu r).2 hk), e5 hk, zeL (by omega)]; omega
    · rw [if_neg (fun e => hk ((zhu r).1 e))]; omega
  rw [hp]
  obtain ⟨id, dev, prio, kind, ⟨lo, hi⟩, port⟩ := r
  simp only [Option.some.injEq, Ru.mk.injEq, Rg.mk.injEq, and_true, true_and] at *
  omega
theorem zl5 {r q : Ru} (hr : RuOK r) (hq : RuOK q) (h : z1 r = z1 q) : r = q := by
  have h1 := (zfw zeN (z1 r) r).2 ⟨hr, rfl⟩
  have h2 := (zfw zeN (z1 r) q).2 ⟨hq, h.symm⟩
  rw [h1] at h2
  exact Option.some.inj h2
theorem ziv {r : Ru} (h : RuOK r) : (z1 r).length ≤ 80 := by
  obtain ⟨id0, id1, dev0, dev1, prio0, prio1, kind0, kind1, port0, port1, kp, le⟩ := ruN h.b
  obtain ⟨hb, hlo, hhi⟩ := h
  have d1 := zeb r.id.toNat 7 (by omega) (by omega)
  have d2 := zeb r.dev.toNat 1 (by omega) (by omega)
  have d3 := zeb r.prio.toNat 4 (by omega) (by omega)
  have d4 : (zq r.kind.toNat).length ≤ 7 := by unfold zq; split <;> decide
  have d5 := zc3 (a := r.r.lo.toNat) (by omega)
  have d6 := zc3 (a := r.r.hi.toNat) (by omega)
  have d7 := zeb r.port.toNat 1 (by omega) (by omega)
  unfold z1 zal
  split
  · simp [Lib.join_cons, Lib.joinTail, zaN]; omega
  · simp [Lib.join_cons, Lib.joinTail, zaN]; omega
end Go.Proofs.YtckabcbfbpejkaaDoor.Av
namespace Go.Proofs.YtckabcbfbpejkaaDoor.Av
open Go
set_option linter.unusedSimpArgs false
set_option linter.unusedVariables false
set_option maxRecDepth 100000
set_option maxHeartbeats 4000000
set_option pp.maxSteps 600
theorem zf8 : PCalls Tryd.prog 59 [] (.agg [zo (zq 0), zo (zq 1), zo (zq 2), zo (zq 3)]) := by
  refine zM Tryd.func59 rfl (N := 2) rfl rfl (by simp) (by simp [noIds, AV.ids, zt]) fun σ => ?_
  unfold zo zq zF
  have FF := fI @zs (fI @zv @zh); exact gxA
theorem zld {s : Bs} {v : Int} (h : Lib.atoiAll s = .ok v) : -9223372036854775808 ≤ v ∧ v ≤ 9223372036854775807 := by
  unfold Lib.atoiAll at h
  split at h
  · cases h
  · dsimp only at h
    split at h
    · cases h
    · cases h
    · split at h
      · cases h
      · split at h
        · cases h
        · injection h with h
          subst h
          split <;> omega
theorem zaH (s : Bs) (hl : s.length ≤ 1000) : PCalls Tryd.prog 61 [zo s] (.raw (.int .i64 (zbZ s))) := by
  have hA := zhi s hl
  have wm1 : IntKind.i64.wrap (-1) = -1 := zS (by omega) (by omega)
  refine zM Tryd.func61 rfl (N := 19) rfl rfl (by simp) (by simp [noIds]) fun σ => ?_
  unfold zhh at hA
  unfold zbZ
  cases hq : Lib.atoiAll s with
  | ok v =>
    rw [hq] at hA
    simp only [] at hA ⊢
    have hv : -9223372036854775808 ≤ v ∧ v ≤ 9223372036854775807 := zld hq
    have hI := zbw v (by omega) (by omega)
    have c3 := zdp (Lib.itoa v) s
    by_cases hb : Lib.itoa v = s
    · have c4 : ((zF (Lib.itoa v)).toList == (zF s).toList) = true := by rw [c3]; simpa using hb
      rw [if_pos hb]
      unfold zo at *
      generalize zF (Lib.itoa v) = X at *
      clear hb c3
      have FF := @c4; exact gxA
    · have c4 : ((zF (Lib.itoa v)).toList == (zF s).toList) = false := by rw [c3]; simpa using hb
      rw [if_neg hb]
      unfold zo at *
      generalize zF (Lib.itoa v) = X at *
      clear hb c3
      have FF := fI @c4 @wm1; exact gxA
  | _ =>
    rw [hq] at hA
    simp only [] at hA ⊢
    have FF := fI zo.eq_1 @wm1; exact gxA
theorem zbr (r : Ru) (h : RuOK r) : PCalls Tryd.prog 37 [ze r] (zo (z1 r)) := by
  have n := ruN h.b
  have hlen := ziv h
  have hwl := ziu r
  obtain ⟨hb, hlo, hhi⟩ := h
  obtain ⟨id, dev, prio, kind, ⟨lo, hi⟩, port⟩ := r
  obtain ⟨id0, id1, dev0, dev1, prio0, prio1, kind0, kind1, port0, port1, kp, le⟩ := n
  simp only [] at *
  obtain ⟨id, rfl⟩ : ∃ k : Nat, id = k := ⟨id.toNat, by omega⟩
  obtain ⟨dev, rfl⟩ : ∃ k : Nat, dev = k := ⟨dev.toNat, by omega⟩
  obtain ⟨prio, rfl⟩ : ∃ k : Nat, prio = k := ⟨prio.toNat, by omega⟩
  obtain ⟨port, rfl⟩ : ∃ k : Nat, port = k := ⟨port.toNat, by omega⟩
  obtain ⟨lo, rfl⟩ : ∃ k : Nat, lo = k := ⟨lo.toNat, by omega⟩
  obtain ⟨hi, rfl⟩ : ∃ k : Nat, hi = k := ⟨hi.toNat, by omega⟩
  have i1 := zbw id (by omega) (by omega)
  have i2 := zbw dev (by omega) (by omega)
  have i3 := zbw prio (by omega) (by omega)
  have i4 := zbw port (by omega) (by omega)
  rw [zjH] at i1 i2 i3 i4
  have hR := zhm lo hi (by omega) (by omega)
  have hN := zf8
  have hW := zbq kind 0 3
  have hk : (decide (0 ≤ kind) && decide (kind ≤ 3)) = true := by simp; omega
  rw [hk] at hW
  have hc1 : ∀ l : Bs, (zo l).cells = [zo l] := fun _ => rfl
  have hc2 : ∀ l : Bs, cellOK (zo l) = true := fun _ => rfl
  have hJ : ∀ l : List Bs, zal ⟨id, dev, prio, kind, ⟨lo, hi⟩, port⟩ = l → PCalls Tryd.prog 48 [.sl 1 (l.map zo) false, zo [32]] (zo (z1 ⟨id, dev, prio, kind, ⟨lo, hi⟩, port⟩)) := fun l hl => by
    subst hl
    exact zf4 (zal ⟨id, dev, prio, kind, ⟨lo, hi⟩, port⟩) false [32] (by omega) (by unfold z1 at hlen; omega) (by intro e; rw [e] at hwl; simp at hwl)
  generalize z1 ⟨id, dev, prio, kind, ⟨lo, hi⟩, port⟩ = T at *
  have e32 : AV.raw (.string (ByteArray.mk #[32])) = zo [32] := rfl
  refine zM Tryd.func37 rfl (N := 37) rfl rfl (by simp) (by simp [noIds]) fun σ => ?_
  unfold zal at hJ
  simp only [Int.toNat_natCast] at hJ
  have hkk : kind = 0 ∨ kind = 1 ∨ kind = 2 ∨ kind = 3 := by omega
  clear hlen hwl hk hb kp
  generalize dec id = X1 at *
  generalize dec dev = X2 at *
  generalize dec prio = X3 at *
  generalize dec port = X4 at *
  generalize zaN lo hi = X5 at *
  rcases hkk with rfl | hkk
  · have hj := hJ [X1, X2, X3, zq 0, X5, X4] rfl
    clear hJ
    generalize zq 0 = W0 at *
    generalize zq 1 = W1 at *
    generalize zq 2 = W2 at *
    generalize zq 3 = W3 at *
    (try ((first | with_reducible refine zu ?_ | with_reducible refine zA ?_ | with_reducible refine zB ?_); simp [-cellOK, ze, hc1, hc2, e32, -zI])); repeat' (first | ((first | refine zn ?_ | refine zr ?_ | refine dN (by decide +kernel) ?_ | refine dC (by decide +kernel) ?_ | refine uP (hW) ?_ | refine .inl ⟨_, .inl (hW), ?_⟩ | refine uP (hN) ?_ | refine .inl ⟨_, .inl (hN), ?_⟩ | refine uP (i1) ?_ | refine .inl ⟨_, .inl (i1), ?_⟩ | refine uP (i2) ?_ | refine .inl ⟨_, .inl (i2), ?_⟩ | refine uP (i3) ?_ | refine .inl ⟨_, .inl (i3), ?_⟩ | refine uP (hR) ?_ | refine .inl ⟨_, .inl (hR), ?_⟩ | refine uP (i4) ?_ | refine .inl ⟨_, .inl (i4), ?_⟩ | (refine zd ?_ ?_ <;> (intro hg; simp only [hg])) | fail) <;> simp [-cellOK, ze, hc1, hc2, e32, -zI]) | refine zp ?_ | refine zl ?_ | (refine zG ?_; simp only [zH]; try simp) | (refine zg (fun hc => ?_) (fun hc => ?_) <;> try simp at hc) | fail)
    have hE1 : Ext σ (σ.new 1 7 (.buf [AV.agg [AV.raw (.int .i64 id), AV.raw (.int .i64 dev), AV.raw (.int .i64 prio), AV.raw (.int .i64 0), AV.raw (.int .u32 lo), AV.raw (.int .u32 hi), AV.raw (.int .i64 port)]])) := Ext.new _ _ _ _
    generalize σ.new 1 7 (.buf [AV.agg [AV.raw (.int .i64 id), AV.raw (.int .i64 dev), AV.raw (.int .i64 prio), AV.raw (.int .i64 0), AV.raw (.int .u32 lo), AV.raw (.int .u32 hi), AV.raw (.int .i64 port)]]) = τ at *
    refine zcq zmZ (σ0 := σ) (es := [zo X1, zo X2, zo X3, zo W0, zo X5]) (OwnL.of rfl (by simp [zs, zh]) (zai hE1) rfl) (by exact exA) (ys := [zo X4]) (by simp [zs, zh]) (.inr rfl) (by simp [zo]) (by simp) ?_
    intro v' τ' hO' hE' _ _
    have FF := @e32; refine gxC ?_; clear FF
    refine PCalls.useLent1 (b := zo [32]) hj rfl hO' ?_
    unfold zo
    exact zhN
  · have hz : ¬ kind = 0 := by omega
    rw [if_neg hz] at hJ
    rcases hkk with rfl | rfl | rfl
    · have hj := hJ [X1, X2, X3, zq 1, X5] rfl
      (try ((first | with_reducible refine zu ?_ | with_reducible refine zA ?_ | with_reducible refine zB ?_); simp [-cellOK, ze, hc1, hc2, e32, -zI])); repeat' (first | ((first | refine zn ?_ | refine zr ?_ | refine dN (by decide +kernel) ?_ | refine dC (by decide +kernel) ?_ | refine uP (hW) ?_ | refine .inl ⟨_, .inl (hW), ?_⟩ | refine uP (hN) ?_ | refine .inl ⟨_, .inl (hN), ?_⟩ | refine uP (i1) ?_ | refine .inl ⟨_, .inl (i1), ?_⟩ | refine uP (i2) ?_ | refine .inl ⟨_, .inl (i2), ?_⟩ | refine uP (i3) ?_ | refine .inl ⟨_, .inl (i3), ?_⟩ | refine uP (hR) ?_ | refine .inl ⟨_, .inl (hR), ?_⟩ | refine uP (i4) ?_ | refine .inl ⟨_, .inl (i4), ?_⟩ | (refine zd ?_ ?_ <;> (intro hg; simp only [hg])) | fail) <;> simp [-cellOK, ze, hc1, hc2, e32, -zI]) | refine zp ?_ | refine zl ?_ | (refine zG ?_; simp only [zH]; try simp) | (refine zg (fun hc => ?_) (fun hc => ?_) <;> try simp at hc) | fail)
      refine PCalls.useLent1 (b := zo [32]) hj rfl (OwnL.of rfl (by simp [zs, zh]) (zai (Ext.new _ _ _ _)) rfl) ?_
      unfold zo
      exact zhN
    · have hj := hJ [X1, X2, X3, zq 2, X5] rfl
      (try ((first | with_reducible refine zu ?_ | with_reducible refine zA ?_ | with_reducible refine zB ?_); simp [-cellOK, ze, hc1, hc2, e32, -zI])); repeat' (first | ((first | refine zn ?_ | refine zr ?_ | refine dN (by decide +kernel) ?_ | refine dC (by decide +kernel) ?_ | refine uP (hW) ?_ | refine .inl ⟨_, .inl (hW), ?_⟩ | refine uP (hN) ?_ | refine .inl ⟨_, .inl (hN), ?_⟩ | refine uP (i1) ?_ | refine .inl ⟨_, .inl (i1), ?_⟩ | refine uP (i2) ?_ | refine .inl ⟨_, .inl (i2), ?_⟩ | refine uP (i3) ?_ | refine .inl ⟨_, .inl (i3), ?_⟩ | refine uP (hR) ?_ | refine .inl ⟨_, .inl (hR), ?_⟩ | refine uP (i4) ?_ | refine .inl ⟨_, .inl (i4), ?_⟩ | (refine zd ?_ ?_ <;> (intro hg; simp only [hg])) | fail) <;> simp [-cellOK, ze, hc1, hc2, e32, -zI]) | refine zp ?_ | refine zl ?_ | (refine zG ?_; simp only [zH]; try simp) | (refine zg (fun hc => ?_) (fun hc => ?_) <;> try simp at hc) | fail)
      refine PCalls.useLent1 (b := zo [32]) hj rfl (OwnL.of rfl (by simp [zs, zh]) (zai (Ext.new _ _ _ _)) rfl) ?_
      unfold zo
      exact zhN
    · have hj := hJ [X1, X2, X3, zq 3, X5] rfl
      (try ((first | with_reducible refine zu ?_ | with_reducible refine zA ?_ | with_reducible refine zB ?_); simp [-cellOK, ze, hc1, hc2, e32, -zI])); repeat' (first | ((first | refine zn ?_ | refine zr ?_ | refine dN (by decide +kernel) ?_ | refine dC (by decide +kernel) ?_ | refine uP (hW) ?_ | refine .inl ⟨_, .inl (hW), ?_⟩ | refine uP (hN) ?_ | refine .inl ⟨_, .inl (hN), ?_⟩ | refine uP (i1) ?_ | refine .inl ⟨_, .inl (i1), ?_⟩ | refine uP (i2) ?_ | refine .inl ⟨_, .inl (i2), ?_⟩ | refine uP (i3) ?_ | refine .inl ⟨_, .inl (i3), ?_⟩ | refine uP (hR) ?_ | refine .inl ⟨_, .inl (hR), ?_⟩ | refine uP (i4) ?_ | refine .inl ⟨_, .inl (i4), ?_⟩ | (refine zd ?_ ?_ <;> (intro hg; simp only [hg])) | fail) <;> simp [-cellOK, ze, hc1, hc2, e32, -zI]) | refine zp ?_ | refine zl ?_ | (refine zG ?_; simp only [zH]; try simp) | (refine zg (fun hc => ?_) (fun hc => ?_) <;> try simp at hc) | fail)
      refine PCalls.useLent1 (b := zo [32]) hj rfl (OwnL.of rfl (by simp [zs, zh]) (zai (Ext.new _ _ _ _)) rfl) ?_
      unfold zo
      exact zhN
end Go.Proofs.YtckabcbfbpejkaaDoor.Av
namespace Go.Proofs.YtckabcbfbpejkaaDoor.Av
open Go
set_option linter.unusedSimpArgs false
set_option linter.unusedVariables false
set_option maxRecDepth 100000
set_option maxHeartbeats 4000000
set_option pp.maxSteps 600
def zjN (x : Bs) (l : List Bs) : Int := idxOf (fun y => decide (x = y)) l
theorem zej (x : Bs) (l : List Bs) (f : Bool) (hl : l.length < 2 ^ 60) : PCalls Tryd.prog 60 [zZ l f, zo x] (.raw (.int .i64 (zjN x l))) := by
  refine zM Tryd.func60 rfl (N := 19) rfl rfl (by simp) (by simp [noIds]) fun σ => ?_
  have wm1 : IntKind.i64.wrap (-1) = -1 := zS (by omega) (by omega)
  have FF := zZ.eq_1; refine gxC ?_; clear FF
  refine zao (fun n A τ => τ = σ ∧ A 0 = zZ l f ∧ A 1 = zo x ∧ A 7 = .raw (.int .i64 l.length) ∧ ∃ i : Nat, A 8 = .raw (.int .i64 i) ∧ i ≤ l.length ∧ n = l.length - i ∧ ∀ j, j < i → ∀ y, l[j]? = some y → decide (x = y) = false) l.length ?_ ?_
  · exact ⟨rfl, by simp [zZ], by simp, by simp, 0, by simp, by omega, by omega, fun j h => by omega⟩
  rintro n A τ ⟨rfl, a0, a1, a7, i, a8, hi, rfl, hn⟩ I1 hI1
  by_cases hlt : i < l.length
  · obtain ⟨z, hx⟩ : ∃ z, l[i] = z := ⟨_, rfl⟩
    have hx2 : l[i]? = some z := by rw [List.getElem?_eq_getElem hlt, hx]
    have w1 : IntKind.i64.wrap ((i : Int) + 1) = ((i + 1 : Nat) : Int) := by rw [zS (by omega) (by omega)]; omega
    have hB := zdp x z
    have hlt' : (i : Int) < (l.length : Int) := by omega
    by_cases hq : x = z
    · have hi' := zg8 (p := fun y => decide (x = y)) hx2 (by simpa using hq) hn
      have hB' : ((zF x).toList == (zF z).toList) = true := by rw [hB]; simpa using hq
      unfold zjN
      rw [hi']
      clear hq hx2 hB
      have FF := fI zZ.eq_1 (fI @zcg (fI @a0 (fI @a1 (fI @a7 (fI @a8 (fI @hlt' (fI @hlt (fI @hx (fI zo.eq_1 @hB'))))))))); exact gxA
    · have hB' : ((zF x).toList == (zF z).toList) = false := by rw [hB]; simpa using hq
      have FF := fI zZ.eq_1 (fI @zcg (fI @a0 (fI @a1 (fI @a7 (fI @a8 (fI @hlt' (fI @hlt (fI @hx (fI zo.eq_1 (fI @hB' @w1)))))))))); refine gxC ?_; clear FF
      refine hI1 (l.length - (i + 1)) _ _ (by omega) ⟨rfl, by simp [a0, zZ], by simp [a1, zo], by simp [a7], i + 1, by simp, by omega, rfl, fun j hj y hy => ?_⟩
      by_cases e : j = i
      · subst e; rw [hx2] at hy; injection hy with hy; subst hy; simpa using hq
      · exact hn j (by omega) y hy
  · have : i = l.length := by omega
    subst this
    have hq := (zg9 hn).1
    unfold zjN
    rw [hq]
    have FF := fI @a0 (fI @a1 (fI @a7 (fI @a8 @wm1))); exact gxA
theorem ziw (x : Bs) : zjN x [zq 0, zq 1, zq 2, zq 3] = zfK x := by
  unfold zjN idxOf zfK
  by_cases h0 : x = zq 0
  · subst h0; decide
  by_cases h1 : x = zq 1
  · subst h1; decide
  by_cases h2 : x = zq 2
  · subst h2; decide
  by_cases h3 : x = zq 3
  · subst h3; decide
  simp [h0, h1, h2, h3]
theorem zof {l : List Bs} (h : l.length = 5 ∨ l.length = 6) : (∃ a b c d e, l = [a, b, c, d, e]) ∨ ∃ a b c d e f, l = [a, b, c, d, e, f] := by
  match l, h with
  | [a, b, c, d, e], _ => exact .inl ⟨a, b, c, d, e, rfl⟩
  | [a, b, c, d, e, f], _ => exact .inr ⟨a, b, c, d, e, f, rfl⟩
def zfL (o : Option Ru) : AV := match o with | some r => .tup [ze r, .raw (.int .i64 0)] | none => .tup [ze ⟨0, 0, 0, 0, ⟨0, 0⟩, 0⟩, .raw (.int .i64 71)]
theorem zl6 (o : Option Ru) : noIds (zfL o) := by unfold zfL noIds; split <;> simp [AV.ids, zt, ze]
theorem zbW : zfL none = .tup [.agg [.raw (.int .i64 0), .raw (.int .i64 0), .raw (.int .i64 0), .raw (.int .i64 0), .raw (.int .u32 0), .raw (.int .u32 0), .raw (.int .i64 0)], .raw (.int .i64 71)] := rfl
theorem zeO (r : Ru) : zfL (some r) = .tup [.agg [.raw (.int .i64 r.id), .raw (.int .i64 r.dev), .raw (.int .i64 r.prio), .raw (.int .i64 r.kind), .raw (.int .u32 r.r.lo), .raw (.int .u32 r.r.hi), .raw (.int .i64 r.port)], .raw (.int .i64 0)] := rfl
theorem zdW (s : Bs) (hs : s.length ≤ 1000) : PCalls Tryd.prog 36 [zo s] (zfL (zhv zeM s)) := by
  have hS := zf3 s [32] (by omega) (by simp)
  rw [zfs] at hS
  have hlen := zft 32 s
  have e32 : AV.raw (.string (ByteArray.mk #[32])) = zo [32] := rfl
  refine zM Tryd.func36 rfl (N := 72) rfl rfl (by simp) (zl6 _) fun σ => ?_
  unfold zhv zeM
  generalize zP 32 s = ps at *
  have hN := zf8
  have hc1 : ∀ l : Bs, (zo l).cells = [zo l] := fun _ => rfl
  have hc2 : ∀ l : Bs, cellOK (zo l) = true := fun _ => rfl
  by_cases hc : ps.length = 5 ∨ ps.length = 6
  · rw [if_pos hc]
    rcases zof hc with ⟨p0, p1, p2, p3, p4, rfl⟩ | ⟨p0, p1, p2, p3, p4, p5, rfl⟩
    · have hI := zej p3 [zq 0, zq 1, zq 2, zq 3] true (by simp)
      rw [ziw] at hI
      simp only [zZ, List.map_cons, List.map_nil] at hI
      have n0 := zaH p0 (by have := hlen p0 (by simp); omega)
      have n1 := zaH p1 (by have := hlen p1 (by simp); omega)
      have n2 := zaH p2 (by have := hlen p2 (by simp); omega)
      have hR := zdJ p4 (by have := hlen p4 (by simp); omega)
      simp only [List.getD_cons_zero, List.getD_cons_succ, List.length_cons, List.length_nil]
      generalize zbZ p0 = id at *
      generalize zbZ p1 = dev at *
      generalize zbZ p2 = prio at *
      generalize zfK p3 = kind at *
      iterate 13 (first | ((first | refine zn ?_ | refine zr ?_ | refine dN (by decide +kernel) ?_ | refine dC (by decide +kernel) ?_ | refine uP (hS) ?_ | refine .inl ⟨_, .inl (hS), ?_⟩ | refine uP (hN) ?_ | refine .inl ⟨_, .inl (hN), ?_⟩ | (refine zd ?_ ?_ <;> (intro hg; simp only [hg])) | fail) <;> simp [-cellOK, zZ, e32, hc1, hc2, zs, zh]) | refine zp ?_ | refine zl ?_ | (refine zG ?_; simp only [zH]; try simp) | (refine zg (fun hc => ?_) (fun hc => ?_) <;> try simp at hc) | fail)
      generalize hA0 : put 72 _ _ _ = A0
      have d0 : A0 0 = zo s := by rw [← hA0]; simp
      have d2 : A0 2 = .rp ⟨2, σ.nx 2, 7⟩ 0 0 := by rw [← hA0]; simp
      have d4 : A0 4 = .sl 1 [zo p0, zo p1, zo p2, zo p3, zo p4] true := by rw [← hA0]; simp
      have d5 : A0 5 = .rp ⟨5, σ.nx 5, 4⟩ 0 0 := by rw [← hA0]; simp [zh]
      clear hA0
      refine zf0 ⟨5, σ.nx 5, 4⟩ (a := .agg [zo (zq 0), zo (zq 1), zo (zq 2), zo (zq 3)]) (by simp [zs, zh, zv]) fun A kp fz => ?_
      have a0 := kp 0 _ d0 trivial
      have a2 := kp 2 _ d2 (by simp [zha])
      have a4 := kp 4 _ d4 trivial
      have a5 := fz 5 _ d5
      clear kp fz d0 d2 d4 d5
      have hE : Ext σ (St.del (((σ.new 2 7 (.buf [ze ⟨0, 0, 0, 0, ⟨0, 0⟩, 0⟩])).new 5 4 (.buf [.agg [.raw (.string (ByteArray.mk #[])), .raw (.string (ByteArray.mk #[])), .raw (.string (ByteArray.mk #[])), .raw (.string (ByteArray.mk #[]))]])).set ⟨5, σ.nx 5, 4⟩ (.buf [.agg [zo (zq 0), zo (zq 1), zo (zq 2), zo (zq 3)]])) ⟨5, σ.nx 5, 4⟩) := Ext.delZ (Ext.setF (by exact exA) (zw _ _ _)) (zw _ _ _)
      have m2 : (St.del (((σ.new 2 7 (.buf [ze ⟨0, 0, 0, 0, ⟨0, 0⟩, 0⟩])).new 5 4 (.buf [.agg [.raw (.string (ByteArray.mk #[])), .raw (.string (ByteArray.mk #[])), .raw (.string (ByteArray.mk #[])), .raw (.string (ByteArray.mk #[]))]])).set ⟨5, σ.nx 5, 4⟩ (.buf [.agg [zo (zq 0), zo (zq 1), zo (zq 2), zo (zq 3)]])) ⟨5, σ.nx 5, 4⟩).m ⟨2, σ.nx 2, 7⟩ = some (.buf [ze ⟨0, 0, 0, 0, ⟨0, 0⟩, 0⟩]) := by simp [St.del, zv, zs]
      unfold ze at hE m2
      generalize St.del _ _ = τ at *
      generalize zq 0 = k0 at *
      generalize zq 1 = k1 at *
      generalize zq 2 = k2 at *
      generalize zq 3 = k3 at *
      cases hq : zb3 p4 with
      | none =>
        rw [hq, zbV] at hR
        simp only []
        rw [zbW]
        have FF := fI @a0 (fI @a2 (fI @a4 (fI @a5 (fI @m2 (fI @hc1 (fI @hc2 (fI zZ.eq_1 (fI @zs (fI @zv @zh))))))))); exact gxA
      | some ab =>
        obtain ⟨lo, hi⟩ := ab
        have hlt := zfx hq
        rw [hq, zcC] at hR
        simp only []
        have hB := zaO ⟨id, dev, prio, kind, ⟨lo, hi⟩, 0⟩
        cases hb : zaC ⟨id, dev, prio, kind, ⟨lo, hi⟩, 0⟩ with
        | false =>
          rw [hb] at hB
          rw [if_neg (fun e => by simp [hb] at e), zbW]
          unfold ze at hB
          have FF := fI @a0 (fI @a2 (fI @a4 (fI @a5 (fI @m2 (fI @hc1 (fI @hc2 (fI zZ.eq_1 (fI @zs (fI @zv @zh))))))))); exact gxA
        | true =>
          rw [hb] at hB
          have hT := zbr ⟨id, dev, prio, kind, ⟨lo, hi⟩, 0⟩ ⟨hb, by simp, by simp; omega⟩
          have hQ := zdp (z1 ⟨id, dev, prio, kind, ⟨lo, hi⟩, 0⟩) s
          by_cases he : z1 ⟨id, dev, prio, kind, ⟨lo, hi⟩, 0⟩ = s
          · have hQ' : ((zF (z1 ⟨id, dev, prio, kind, ⟨lo, hi⟩, 0⟩)).toList == (zF s).toList) = true := by rw [hQ]; simpa using he
            rw [if_pos ⟨hb, he⟩, zeO]
            clear hQ he hb
            generalize z1 ⟨id, dev, prio, kind, ⟨lo, hi⟩, 0⟩ = T at *
            have hT' : PCalls Tryd.prog 37 [ze ⟨id, dev, prio, kind, ⟨lo, hi⟩, 0⟩] (.raw (.string (zF T))) := hT
            have a0' : A 0 = .raw (.string (zF s)) := a0
            unfold ze at hB hT'
            have FF := fI @a0' (fI @a2 (fI @a4 (fI @a5 (fI @m2 (fI @hc1 (fI @hc2 (fI @hQ' (fI zZ.eq_1 (fI @zs (fI @zv @zh)))))))))); exact gxA
          · have hQ' : ((zF (z1 ⟨id, dev, prio, kind, ⟨lo, hi⟩, 0⟩)).toList == (zF s).toList) = false := by rw [hQ]; simpa using he
            rw [if_neg (fun e => he e.2), zbW]
            clear hQ he hb
            generalize z1 ⟨id, dev, prio, kind, ⟨lo, hi⟩, 0⟩ = T at *
            have hT' : PCalls Tryd.prog 37 [ze ⟨id, dev, prio, kind, ⟨lo, hi⟩, 0⟩] (.raw (.string (zF T))) := hT
            have a0' : A 0 = .raw (.string (zF s)) := a0
            unfold ze at hB hT'
            have FF := fI @a0' (fI @a2 (fI @a4 (fI @a5 (fI @m2 (fI @hc1 (fI @hc2 (fI @hQ' (fI zZ.eq_1 (fI @zs (fI @zv @zh)))))))))); exact gxA
    · have hI := zej p3 [zq 0, zq 1, zq 2, zq 3] true (by simp)
      rw [ziw] at hI
      simp only [zZ, List.map_cons, List.map_nil] at hI
      have n0 := zaH p0 (by have := hlen p0 (by simp); omega)
      have n1 := zaH p1 (by have := hlen p1 (by simp); omega)
      have n2 := zaH p2 (by have := hlen p2 (by simp); omega)
      have hR := zdJ p4 (by have := hlen p4 (by simp); omega)
      have n5 := zaH p5 (by have := hlen p5 (by simp); omega)
      simp only [List.getD_cons_zero, List.getD_cons_succ, List.length_cons, List.length_nil]
      generalize zbZ p0 = id at *
      generalize zbZ p1 = dev at *
      generalize zbZ p2 = prio at *
      generalize zfK p3 = kind at *
      generalize zbZ p5 = port at *
      iterate 13 (first | ((first | refine zn ?_ | refine zr ?_ | refine dN (by decide +kernel) ?_ | refine dC (by decide +kernel) ?_ | refine uP (hS) ?_ | refine .inl ⟨_, .inl (hS), ?_⟩ | refine uP (hN) ?_ | refine .inl ⟨_, .inl (hN), ?_⟩ | (refine zd ?_ ?_ <;> (intro hg; simp only [hg])) | fail) <;> simp [-cellOK, zZ, e32, hc1, hc2, zs, zh]) | refine zp ?_ | refine zl ?_ | (refine zG ?_; simp only [zH]; try simp) | (refine zg (fun hc => ?_) (fun hc => ?_) <;> try simp at hc) | fail)
      generalize hA0 : put 72 _ _ _ = A0
      have d0 : A0 0 = zo s := by rw [← hA0]; simp
      have d2 : A0 2 = .rp ⟨2, σ.nx 2, 7⟩ 0 0 := by rw [← hA0]; simp
      have d4 : A0 4 = .sl 1 [zo p0, zo p1, zo p2, zo p3, zo p4, zo p5] true := by rw [← hA0]; simp
      have d5 : A0 5 = .rp ⟨5, σ.nx 5, 4⟩ 0 0 := by rw [← hA0]; simp [zh]
      clear hA0
      refine zf0 ⟨5, σ.nx 5, 4⟩ (a := .agg [zo (zq 0), zo (zq 1), zo (zq 2), zo (zq 3)]) (by simp [zs, zh, zv]) fun A kp fz => ?_
      have a0 := kp 0 _ d0 trivial
      have a2 := kp 2 _ d2 (by simp [zha])
      have a4 := kp 4 _ d4 trivial
      have a5 := fz 5 _ d5
      clear kp fz d0 d2 d4 d5
      have hE : Ext σ (St.del (((σ.new 2 7 (.buf [ze ⟨0, 0, 0, 0, ⟨0, 0⟩, 0⟩])).new 5 4 (.buf [.agg [.raw (.string (ByteArray.mk #[])), .raw (.string (ByteArray.mk #[])), .raw (.string (ByteArray.mk #[])), .raw (.string (ByteArray.mk #[]))]])).set ⟨5, σ.nx 5, 4⟩ (.buf [.agg [zo (zq 0), zo (zq 1), zo (zq 2), zo (zq 3)]])) ⟨5, σ.nx 5, 4⟩) := Ext.delZ (Ext.setF (by exact exA) (zw _ _ _)) (zw _ _ _)
      have m2 : (St.del (((σ.new 2 7 (.buf [ze ⟨0, 0, 0, 0, ⟨0, 0⟩, 0⟩])).new 5 4 (.buf [.agg [.raw (.string (ByteArray.mk #[])), .raw (.string (ByteArray.mk #[])), .raw (.string (ByteArray.mk #[])), .raw (.string (ByteArray.mk #[]))]])).set ⟨5, σ.nx 5, 4⟩ (.buf [.agg [zo (zq 0), zo (zq 1), zo (zq 2), zo (zq 3)]])) ⟨5, σ.nx 5, 4⟩).m ⟨2, σ.nx 2, 7⟩ = some (.buf [ze ⟨0, 0, 0, 0, ⟨0, 0⟩, 0⟩]) := by simp [St.del, zv, zs]
      unfold ze at hE m2
      generalize St.del _ _ = τ at *
      generalize zq 0 = k0 at *
      generalize zq 1 = k1 at *
      generalize zq 2 = k2 at *
      generalize zq 3 = k3 at *
      cases hq : zb3 p4 with
      | none =>
        rw [hq, zbV] at hR
        simp only []
        rw [zbW]
        have FF := fI @a0 (fI @a2 (fI @a4 (fI @a5 (fI @m2 (fI @hc1 (fI @hc2 (fI zZ.eq_1 (fI @zs (fI @zv @zh))))))))); exact gxA
      | some ab =>
        obtain ⟨lo, hi⟩ := ab
        have hlt := zfx hq
        rw [hq, zcC] at hR
        simp only []
        have hB := zaO ⟨id, dev, prio, kind, ⟨lo, hi⟩, port⟩
        cases hb : zaC ⟨id, dev, prio, kind, ⟨lo, hi⟩, port⟩ with
        | false =>
          rw [hb] at hB
          rw [if_neg (fun e => by simp [hb] at e), zbW]
          unfold ze at hB
          have FF := fI @a0 (fI @a2 (fI @a4 (fI @a5 (fI @m2 (fI @hc1 (fI @hc2 (fI zZ.eq_1 (fI @zs (fI @zv @zh))))))))); exact gxA
        | true =>
          rw [hb] at hB
          have hT := zbr ⟨id, dev, prio, kind, ⟨lo, hi⟩, port⟩ ⟨hb, by simp, by simp; omega⟩
          have hQ := zdp (z1 ⟨id, dev, prio, kind, ⟨lo, hi⟩, port⟩) s
          by_cases he : z1 ⟨id, dev, prio, kind, ⟨lo, hi⟩, port⟩ = s
          · have hQ' : ((zF (z1 ⟨id, dev, prio, kind, ⟨lo, hi⟩, port⟩)).toList == (zF s).toList) = true := by rw [hQ]; simpa using he
            rw [if_pos ⟨hb, he⟩, zeO]
            clear hQ he hb
            generalize z1 ⟨id, dev, prio, kind, ⟨lo, hi⟩, port⟩ = T at *
            have hT' : PCalls Tryd.prog 37 [ze ⟨id, dev, prio, kind, ⟨lo, hi⟩, port⟩] (.raw (.string (zF T))) := hT
            have a0' : A 0 = .raw (.string (zF s)) := a0
            unfold ze at hB hT'
            have FF := fI @a0' (fI @a2 (fI @a4 (fI @a5 (fI @m2 (fI @hc1 (fI @hc2 (fI @hQ' (fI zZ.eq_1 (fI @zs (fI @zv @zh)))))))))); exact gxA
          · have hQ' : ((zF (z1 ⟨id, dev, prio, kind, ⟨lo, hi⟩, port⟩)).toList == (zF s).toList) = false := by rw [hQ]; simpa using he
            rw [if_neg (fun e => he e.2), zbW]
            clear hQ he hb
            generalize z1 ⟨id, dev, prio, kind, ⟨lo, hi⟩, port⟩ = T at *
            have hT' : PCalls Tryd.prog 37 [ze ⟨id, dev, prio, kind, ⟨lo, hi⟩, port⟩] (.raw (.string (zF T))) := hT
            have a0' : A 0 = .raw (.string (zF s)) := a0
            unfold ze at hB hT'
            have FF := fI @a0' (fI @a2 (fI @a4 (fI @a5 (fI @m2 (fI @hc1 (fI @hc2 (fI @hQ' (fI zZ.eq_1 (fI @zs (fI @zv @zh)))))))))); exact gxA
  · rw [if_neg hc]
    have h5 : ¬ (ps.length : Int) = 5 := by omega
    have h6 : ¬ (ps.length : Int) = 6 := by omega
    have hr : zfL none = .tup [.agg [.raw (.int .i64 0), .raw (.int .i64 0), .raw (.int .i64 0), .raw (.int .i64 0), .raw (.int .u32 0), .raw (.int .u32 0), .raw (.int .i64 0)], .raw (.int .i64 71)] := rfl
    rw [hr]
    have FF := fI zZ.eq_1 (fI @e32 (fI @h5 (fI @h6 (fI @zs (fI @zv @zh))))); exact gxA
end Go.Proofs.YtckabcbfbpejkaaDoor.Av
