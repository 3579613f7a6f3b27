/- Rules: the laws RuleTexts, RuleMatches. Part 18 of 22: AvS1, AvS2, AvS3, AvP6, AvS4, AvS5. -/
import Derived.Test.YtckabcbfbpejkaaGreatDoorRy3
import Derived.Test.YtckabcbfbpejkaaGreatDoorRy8
import Derived.Test.YtckabcbfbpejkaaGreatDoorRy9
import Derived.Test.YtckabcbfbpejkaaGreatDoorRy10
import Derived.Test.YtckabcbfbpejkaaGreatDoorRy17
import Derived.Lib.SmallJoins
import Derived.Lib.AppendIntMem
import Derived.Lib.SplitLaws
namespace Go.Proofs.YtckabcbfbpejkaaGreatDoor.Av
open Go Go.RowKit
set_option linter.unusedSimpArgs false
set_option linter.unusedVariables false
set_option maxRecDepth 100000
set_option maxHeartbeats 4000000
def zf (l : Bs) : ByteArray := ⟨l.toArray⟩
def ze (l : Bs) : AV := .raw (.string (zf l))
theorem za4 (l : Bs) : (zf l).data.toList = l := by simp [zf]
theorem zT (l : Bs) : (zf l).size = l.length := by simp [zf, ByteArray.size]
theorem zgm (b : ByteArray) : zf b.data.toList = b := by cases b; simp [zf]
@[simp] theorem zoh (K : Id → Prop) (l : Bs) : (ze l).ids K := by simp [ze, AV.ids]
theorem znW {S : Ctx} (g : GlobOK S) (b : Nat) (h : b < zhc) : ∃ c : Array Value, (∀ i, S.w.cell? ⟨b, i, none⟩ = c[i]?) ∧ znN b c := by
  obtain ⟨_, c, t, fz, e, q⟩ := g b h
  exact ⟨c, fun i => by simp [World.cell?, e], q⟩
theorem zpa {S : Ctx} (g : GlobOK S) : Lib.TabIs Tryz.prog S.w "internal/strconv.uint64pow10" .u64 Lib.pow10Tab := by
  obtain ⟨_, c, t, fz, h, q⟩ := g 0 (by decide)
  have hg : Tryz.prog.globalNamed "internal/strconv.uint64pow10" = some 0 := by kernel_rfl
  unfold Lib.TabIs World.var?
  rw [hg]
  simp only [Option.bind_some, h]
  rw [q.2.1 rfl]
theorem zmT {S : Ctx} (g : GlobOK S) : ∃ m, S.w.cell? ⟨1, 0, none⟩ = some (.int .i64 m) := by
  obtain ⟨c, h, q⟩ := znW g 1 (by decide)
  obtain ⟨m, hm⟩ := q.1 rfl
  exact ⟨m, (h 0).trans hm⟩
theorem zmU {S : Ctx} (g : GlobOK S) (b : Nat) (hb : b = 2 ∨ b = 3) : ∃ ev, S.w.cell? ⟨b, 0, none⟩ = some ev ∧ (ev = .nilIface ∨ ∃ te pe, ev = .iface te pe) := by
  obtain ⟨c, h, q⟩ := znW g b (by rcases hb with rfl | rfl <;> decide)
  obtain ⟨ev, h1, h2⟩ := q.2.2.2 hb
  exact ⟨ev, (h 0).trans h1, h2⟩
theorem zbO (n : Int) (h0 : -9223372036854775808 ≤ n) (h1 : n ≤ 9223372036854775807) : PCalls Tryz.prog 22 [.raw (.int .i64 n)] (ze (Lib.itoa n)) :=
  zcO (zb3 Tryz.func22 (by kernel_rfl) rfl) (by simp [noIds]) fun S vs g hl => by
    simp only [LRel, VRel] at hl
    obtain ⟨v, us, rfl, rfl, rfl⟩ := hl
    refine (Tryz.strconv_Itoa n h0 h1 S.w (zpa g)).mono ?_
    rintro e w' ⟨rfl, k, os, rfl⟩
    exact ⟨_, rfl, Lib.below_grow _ _ (Nat.le_refl _) _ _, by simp [VRel, ze, zf]⟩
def zhZ (s : Bs) : AV := match Lib.atoiAll s with | .ok v => .tup [.raw (.int .i64 v), .raw .nilIface] | .range => .tup [.raw (.int .i64 (Lib.atoiSat s)), .ifc 123 .any] | _ => .tup [.raw (.int .i64 0), .ifc 123 .any]
theorem zh0 (s : Bs) (hl : s.length ≤ 1000) : PCalls Tryz.prog 57 [ze s] (zhZ s) :=
  zcO (zb3 Tryz.func57 (by kernel_rfl) rfl) (by unfold zhZ noIds; split <;> simp [AV.ids, zx]) fun S vs g hl' => by
    simp only [LRel, VRel, ze] at hl'
    obtain ⟨v, us, rfl, rfl, rfl⟩ := hl'
    have hsz := zT s
    unfold zhZ
    split
    · rename_i v hv
      refine (Tryz.strconv_Atoi_ok (zf s) (by omega) v (by rw [za4]; exact hv) S.w).mono ?_
      rintro e w' ⟨rfl, h⟩
      refine ⟨_, rfl, ?_, by simp [VRel, LRel]⟩
      rcases h with rfl | ⟨t, rfl⟩
      · exact Below.refl _ _
      · exact Joins.below_bytesWorld _ _ _ _ (Nat.le_refl _)
    · rename_i hv
      obtain ⟨ev, q1, q2⟩ := zmU g 3 (.inr rfl)
      refine (Tryz.strconv_Atoi_range (zf s) (by omega) (by rw [za4]; exact hv) ev S.w q1 q2).mono ?_
      rintro e w' ⟨M, rfl, h1, h2, h3⟩
      refine ⟨_, rfl, h3, ?_⟩
      simp only [VRel, LRel, za4]
      exact ⟨_, rfl, _, _, rfl, rfl, _, _, rfl, ⟨_, rfl, trivial⟩, rfl⟩
    · rename_i h1' h2'
      have hv : Lib.atoiAll s = Lib.atoiAll [] := by
        have e0 : ∀ r : Lib.NumEnd Int, (∀ v, r = .ok v → False) → (r = .range → False) → r = Lib.atoiAll [] := fun r k1 k2 => by cases r; exact (k1 _ rfl).elim; rfl; exact (k2 rfl).elim
        exact e0 _ h1' h2'
      obtain ⟨ev, q1, q2⟩ := zmU g 2 (.inl rfl)
      refine (Tryz.strconv_Atoi_syntax (zf s) (by omega) (by rw [za4]; exact hv) ev S.w q1 q2).mono ?_
      rintro e w' ⟨M, rfl, h1, h2, h3⟩
      refine ⟨_, rfl, h3, ?_⟩
      simp only [VRel, LRel]
      exact ⟨_, rfl, _, _, rfl, rfl, _, _, rfl, ⟨_, rfl, trivial⟩, rfl⟩
theorem zh1 (s sep : Bs) (hs : s.length < 4294967281) : PCalls Tryz.prog 55 [ze s, ze sep] (.tup [ze (Lib.cut s sep).1, ze (Lib.cut s sep).2.1, .raw (.bool (Lib.cut s sep).2.2)]) :=
  zcO (zb3 Tryz.func55 (by kernel_rfl) rfl) (by simp [noIds, AV.ids, zx]) fun S vs g hl => by
    simp only [LRel, VRel, ze] at hl
    obtain ⟨v, us, rfl, rfl, v2, us2, rfl, rfl, rfl⟩ := hl
    obtain ⟨m, hm⟩ := zmT g
    refine (Tryz.strings_Cut (zf s) (zf sep) m S.w (by rw [zT]; exact hs) hm).mono ?_
    rintro e w' ⟨rfl, n, rfl⟩
    exact ⟨_, rfl, ⟨rfl, rfl, rfl, Nat.le_refl _, fun _ _ => rfl⟩, by simp [VRel, LRel, ze, za4]; simp [zf]⟩
def zB (l : List Bs) (f : Bool) : AV := .sl 1 (l.map ze) f
theorem zki (K : Id → Prop) : ∀ l : List Bs, zx K (l.map ze)
  | [] => by simp [zx]
  | a :: l => by simp only [List.map_cons, zx]; exact ⟨zoh K a, zki K l⟩
@[simp] theorem zsi (K : Id → Prop) (l : List Bs) (f : Bool) : (zB l f).ids K := by simp only [zB, AV.ids]; exact zki K l
def zf3 (s sep : Bs) : List Bs := (Lib.splitB (zf sep) 0 (Lib.countB (zf s) (zf sep)) (zf s)).map (·.data.toList)
theorem zgI (s sep : Bs) (hs : s.length < 4294967281) (h1 : 1 ≤ sep.length) : PCalls Tryz.prog 30 [ze s, ze sep] (zB (zf3 s sep) true) :=
  zcO (zb3 Tryz.func30 (by kernel_rfl) rfl) (by simp [noIds]) fun S vs g hl => by
    simp only [LRel, VRel, ze] at hl
    obtain ⟨v, us, rfl, rfl, v2, us2, rfl, rfl, rfl⟩ := hl
    obtain ⟨m, hm⟩ := zmT g
    have hlen := Lib.splitB_all (zf sep) (by rw [zT]; exact h1) 0 _ (zf s) rfl
    refine (Tryz.strings_Split (zf s) (zf sep) m S.w (by rw [zT]; exact hs) hm (by rw [zT]; exact h1)).mono ?_
    rintro e w' ⟨rfl, rfl⟩
    refine ⟨_, rfl, (Below.refl _ _).alloc (Nat.le_refl _) _, ?_⟩
    have hes : (zf3 s sep).map ze = ((Lib.splitB (zf sep) 0 (Lib.countB (zf s) (zf sep)) (zf s)).map Value.string).map .raw := by
      simp only [zf3, List.map_map]
      refine List.map_congr_left fun b _ => ?_
      simp only [Function.comp, ze, zgm]
    simp only [VRel, zB, hes]
    refine ⟨_, _, by simp only [List.length_map, hlen]; rfl, by simp only [List.length_map, hlen]; exact Nat.le_refl _, fun _ => by simp only [List.length_map, hlen], fun _ => ⟨_, 0, rfl, zlZ (Nat.le_refl _) (by simp), ERel.raws fun j v hj => ?_⟩⟩
    show (S.w.alloc _).cell? _ = _
    simp only [World.cell?, World.alloc, Nat.zero_add]
    simp at hj ⊢
    exact hj
theorem zgJ (l : List Bs) (f : Bool) (sep : Bs) (h1 : l.length ≤ 140737488355328) (h2 : (Lib.join l sep).length ≤ 140737488355328) (hne : l ≠ []) : PCalls Tryz.prog 24 [zB l f, ze sep] (ze (Lib.join l sep)) :=
  zcO (zb3 Tryz.func24 (by kernel_rfl) rfl) (by simp [noIds]) fun S vs g hl => by
    simp only [LRel, VRel, ze, zB, List.length_map] at hl
    obtain ⟨v, us, rfl, ⟨base, cap, rfl, hc, _, hb⟩, v2, us2, rfl, rfl, rfl⟩ := hl
    obtain ⟨b, o, rfl, hfz, hE⟩ := hb (by simpa using hne)
    have hxs : (l.map zf).map (·.data.toList) = l := by
      rw [List.map_map]
      conv => rhs; rw [← List.map_id l]
      exact List.map_congr_left fun x _ => za4 x
    have hj := Tryz.strings_Join b o cap (l.map zf) (zf sep) S.w (fun j x hx => ?_) hfz.1 (by simpa using h1) (by simpa using hc) (by rw [hxs, za4]; exact h2)
    · rw [hxs, za4, List.length_map] at hj
      refine hj.mono ?_
      rintro e w' ⟨rfl, h⟩
      exact ⟨_, rfl, h, by simp [VRel, ze, zf]⟩
    · rw [List.getElem?_map] at hx
      obtain ⟨y, hy, rfl⟩ := Option.map_eq_some_iff.1 hx
      have hg := hE.get (i := j) (e := ze y) (by rw [List.getElem?_map, hy]; rfl)
      simp only [ze, AV.cells, CRel, VRel, Nat.mul_one] at hg
      obtain ⟨u, h3, h4⟩ := hg.2.1
      rw [h3, h4]
end Go.Proofs.YtckabcbfbpejkaaGreatDoor.Av
namespace Go.Proofs.YtckabcbfbpejkaaGreatDoor.Av
open Go
set_option linter.unusedSimpArgs false
set_option linter.unusedVariables false
set_option maxRecDepth 100000
set_option maxHeartbeats 4000000
set_option pp.maxSteps 600
structure Pf where
  addr : Int
  len : Int
deriving DecidableEq
def zbl (p : Pf) : AV := .agg [.raw (.int .u32 p.addr), .raw (.int .i64 p.len)]
def rgA (a b : Int) : AV := .agg [.raw (.int .u32 a), .raw (.int .u32 b)]
@[simp] theorem zlk (K : Id → Prop) (a b : Int) : (rgA a b).ids K := by simp [rgA, AV.ids, zx]
theorem zc2 {a : Int} (h0 : 0 ≤ a) (h1 : a < 4294967296) : (a % 2 ^ IntKind.u32.bits).toNat = a.toNat := by
  have : (2 : Int) ^ IntKind.u32.bits = 4294967296 := by decide
  rw [this]; omega
theorem zkj {m : Nat} (hm : m ≤ 32) : (0 : Int) ≤ 2 ^ m - 1 ∧ (2 : Int) ^ m - 1 < 4294967296 ∧ ((2 : Int) ^ m - 1).toNat = 2 ^ m - 1 ∧ (2 : Int) ^ m = ((2 ^ m : Nat) : Int) ∧ 0 < 2 ^ m ∧ 2 ^ m ≤ 2 ^ 32 := by
  have hp : (2 : Int) ^ m = ((2 ^ m : Nat) : Int) := by simp
  have hb : 2 ^ m ≤ 2 ^ 32 := Nat.pow_le_pow_right (by omega) hm
  have h2 : 0 < 2 ^ m := Nat.pow_pos (by omega)
  exact ⟨by omega, by omega, by omega, hp, h2, hb⟩
theorem znC (a : Int) (m : Nat) (h0 : 0 ≤ a) (h1 : a < 4294967296) (hm : m ≤ 32) : IntKind.u32.wrap (((a % 2 ^ IntKind.u32.bits).toNat &&& (((2 : Int) ^ m - 1) % 2 ^ IntKind.u32.bits).toNat : Nat) : Int) = a % 2 ^ m := by
  obtain ⟨p1, p2, p3, p4, p5, p6⟩ := zkj hm
  obtain ⟨n, rfl⟩ : ∃ n : Nat, a = n := ⟨a.toNat, by omega⟩
  rw [zc2 h0 h1, zc2 p1 p2, p3, Nat.and_two_pow_sub_one_eq_mod, Int.toNat_natCast]
  have := Nat.mod_le n (2 ^ m)
  rw [zcZ (by omega) (by omega), p4]
  rfl
theorem zoi (a : Int) (m : Nat) (h0 : 0 ≤ a) (h1 : a < 4294967296) (hm : m ≤ 32) (hd : a % 2 ^ m = 0) : IntKind.u32.wrap (((a % 2 ^ IntKind.u32.bits).toNat ||| (((2 : Int) ^ m - 1) % 2 ^ IntKind.u32.bits).toNat : Nat) : Int) = a + 2 ^ m - 1 := by
  obtain ⟨p1, p2, p3, p4, p5, p6⟩ := zkj hm
  obtain ⟨n, rfl⟩ : ∃ n : Nat, a = n := ⟨a.toNat, by omega⟩
  rw [zc2 h0 h1, zc2 p1 p2, p3]
  have hd' : n % 2 ^ m = 0 := by rw [p4] at hd; omega
  have e3 : ((n : Int).toNat ||| (2 ^ m - 1)) = n + (2 ^ m - 1) := by
    rw [Int.toNat_natCast]
    obtain ⟨q, rfl⟩ := Nat.dvd_of_mod_eq_zero hd'
    exact (Nat.two_pow_add_eq_or_of_lt (by omega) q).symm
  have h3 : ((n : Int).toNat ||| (2 ^ m - 1)) < 2 ^ 32 := Nat.or_lt_two_pow (by omega) (by omega)
  rw [e3] at h3 ⊢
  rw [zcZ (by omega) (by omega), p4]
  omega
theorem zh2 (n : Nat) (hn : n ≤ 32) : PCalls Tryz.prog 77 [.raw (.int .i64 n)] (.raw (.int .u32 (2 ^ (32 - n) - 1))) := by
  refine zD Tryz.func77 rfl (N := 8) rfl rfl (by simp) (by simp [noIds]) fun σ => ?_
  have hall : ∀ m, m < 33 → IntKind.u64.wrap (2 ^ min m IntKind.u64.bits) = 2 ^ m ∧ IntKind.u64.wrap ((2 : Int) ^ m - 1) = 2 ^ m - 1 ∧ IntKind.u32.wrap ((2 : Int) ^ m - 1) = 2 ^ m - 1 := by decide
  have e1 : IntKind.i64.wrap (32 - (n : Int)) = ((32 - n : Nat) : Int) := by rw [zA (by omega) (by omega)]; omega
  obtain ⟨m, hm⟩ : ∃ m, 32 - n = m := ⟨_, rfl⟩
  obtain ⟨q1, q2, q3⟩ := hall m (by omega)
  rw [hm] at e1 ⊢
  have e0 : (0 : Int) ≤ m := by omega
  have e9 : ((m : Int)).toNat = m := by omega
  have FF := fI @e1 (fI @e0 (fI @e9 (fI @q1 (fI @q2 @q3)))); exact zJ
def rightB (p : Pf) : Bool := decide (0 ≤ p.len) && (decide (p.len ≤ 32) && decide (p.addr % 2 ^ (32 - p.len.toNat) = 0))
theorem zgK (p : Pf) (h0 : 0 ≤ p.addr) (h1 : p.addr < 4294967296) : PCalls Tryz.prog 76 [zbl p] (.raw (.bool (rightB p))) := by
  refine zD Tryz.func76 rfl (N := 20) rfl rfl (by simp) (by simp [noIds]) fun σ => ?_
  obtain ⟨a, l⟩ := p
  by_cases c1 : 0 ≤ l
  · obtain ⟨n, rfl⟩ : ∃ n : Nat, l = n := ⟨l.toNat, by omega⟩
    by_cases c2 : n ≤ 32
    · have hc := zh2 n c2
      have e := znC a (32 - n) h0 h1 (by omega)
      have c3 : (a % 2 ^ (32 - n) = 0) = True ∨ (a % 2 ^ (32 - n) = 0) = False := by by_cases h : a % 2 ^ (32 - n) = 0 <;> simp [h]
      have c2' : (n : Int) ≤ 32 := by omega
      have hr : rightB ⟨a, n⟩ = decide (a % 2 ^ (32 - n) = 0) := by simp [rightB]; omega
      rw [hr]
      rcases c3 with c3 | c3
      all_goals
        have FF := fI zbl.eq_1 (fI @c1 (fI @c2' (fI @e (fI @c3 (fI @zl (fI @zo @zb)))))); exact zJ
    · have c2' : ¬ (n : Int) ≤ 32 := by omega
      have hr : rightB ⟨a, n⟩ = false := by simp [rightB, c2]; omega
      rw [hr]
      have FF := fI zbl.eq_1 (fI @c1 (fI @c2' (fI @zl (fI @zo @zb)))); exact zJ
  · have hr : rightB ⟨a, l⟩ = false := by simp [rightB, c1]
    rw [hr]
    have FF := fI zbl.eq_1 (fI @c1 (fI @zl (fI @zo @zb))); exact zJ
def zbS (p : Pf) : AV := if rightB p then .tup [rgA p.addr (p.addr + 2 ^ (32 - p.len.toNat) - 1), .raw (.int .i64 0)] else .tup [rgA 0 0, .raw (.int .i64 21)]
theorem zkY (p : Pf) (h0 : 0 ≤ p.addr) (h1 : p.addr < 4294967296) : PCalls Tryz.prog 54 [zbl p] (zbS p) := by
  have hr := zgK p h0 h1
  refine zD Tryz.func54 rfl (N := 17) rfl rfl (by simp) (by unfold zbS noIds; split <;> simp [AV.ids, zx, zlk]) fun σ => ?_
  cases hb : rightB p with
  | false =>
    have e : zbS p = .tup [rgA 0 0, .raw (.int .i64 21)] := by unfold zbS; rw [hb]; rfl
    rw [hb] at hr
    rw [e]
    unfold zbl at *
    have FF := fI rgA.eq_1 (fI @zl (fI @zo @zb)); exact zJ
  | true =>
    obtain ⟨a, l⟩ := p
    have e : zbS ⟨a, l⟩ = .tup [rgA a (a + 2 ^ (32 - l.toNat) - 1), .raw (.int .i64 0)] := by unfold zbS; rw [hb]; rfl
    rw [hb] at hr
    rw [e]
    unfold rightB at hb
    simp only [Bool.and_eq_true, decide_eq_true_eq] at hb
    obtain ⟨k1, k2, k3⟩ := hb
    obtain ⟨n, rfl⟩ : ∃ n : Nat, l = n := ⟨l.toNat, by omega⟩
    have k4 : ((n : Int)).toNat = n := by omega
    simp only [k4] at k3 ⊢
    have hc := zh2 n (by omega)
    have e2 := zoi a (32 - n) h0 h1 (by omega) k3
    unfold zbl at *
    have FF := fI rgA.eq_1 (fI @e2 (fI @zl (fI @zo @zb))); exact zJ
end Go.Proofs.YtckabcbfbpejkaaGreatDoor.Av
namespace Go.Proofs.YtckabcbfbpejkaaGreatDoor.Av
open Go
set_option linter.unusedSimpArgs false
set_option linter.unusedVariables false
set_option maxRecDepth 100000
set_option maxHeartbeats 4000000
set_option pp.maxSteps 600
def zkk (most : Nat) (s : Bs) : AV := .tup [.raw (.int .i64 (zjk s)), .raw (.bool (zaC most s).isSome)]
theorem zbW (a b : Bs) : ((zf a).toList == (zf b).toList) = decide (a = b) := by
  have h : ∀ l : Bs, (zf l).toList = l := fun l => by rw [ByteArray.toList_eq, za4]
  rw [h, h]
  by_cases e : a = b <;> simp [e]
theorem zf4 (most : Nat) (s : Bs) (hm : most < 9223372036854775808) (hl : s.length ≤ 1000) : PCalls Tryz.prog 75 [ze s, .raw (.int .i64 most)] (zkk most s) := by
  have hA := zh0 s hl
  have hN := zme most s hm
  refine zD Tryz.func75 rfl (N := 31) rfl rfl (by simp) (by simp [noIds, zkk, AV.ids, zx]) fun σ => ?_
  unfold zkk
  rw [← hN]
  clear hN
  unfold zhZ at hA
  unfold zjk
  cases hq : Lib.atoiAll s with
  | ok v =>
    rw [hq] at hA
    simp only [] at hA ⊢
    by_cases c1 : 0 ≤ v
    · by_cases c2 : v ≤ most
      · have hI := zbO v (by omega) (by omega)
        have c3 := zbW (Lib.itoa v) s
        have hr : (decide (0 ≤ v) && (decide (v ≤ (most : Int)) && decide (Lib.itoa v = s))) = decide (Lib.itoa v = s) := by simp [c1, c2]
        rw [hr]
        clear hr
        generalize decide (Lib.itoa v = s) = bb at *
        have FF := fI ze.eq_1 (fI @c1 (fI @c2 @c3)); exact zJ
      · have hr : (decide (0 ≤ v) && (decide (v ≤ (most : Int)) && decide (Lib.itoa v = s))) = false := by simp [c1, c2]
        rw [hr]
        clear hr
        have FF := fI ze.eq_1 (fI @c1 @c2); exact zJ
    · have hr : (decide (0 ≤ v) && (decide (v ≤ (most : Int)) && decide (Lib.itoa v = s))) = false := by simp [c1]
      rw [hr]
      clear hr
      have FF := fI ze.eq_1 @c1; exact zJ
  | _ =>
    rw [hq] at hA
    simp only [] at hA ⊢
    have FF := ze.eq_1; exact zJ
def za9 (a : Nat) : List Nat := [a / 16777216, a / 65536 % 256, a / 256 % 256, a % 256]
def zaf (a : Nat) : Bs := Lib.join ((za9 a).map zz) [46]
theorem zkl (n : Nat) : Lib.itoa n = zz n := by
  unfold Lib.itoa
  rw [if_neg (by omega)]
  simp [zz]
theorem zll {a : Nat} (h : a < 4294967296) : ∀ c ∈ za9 a, c < 256 := by
  intro c hc
  simp only [za9, List.mem_cons, List.not_mem_nil, or_false] at hc
  omega
theorem zbt {a : Nat} (h : a < 4294967296) : (zaf a).length ≤ 15 := by
  have h3 : ∀ c ∈ za9 a, (zz c).length ≤ 3 := fun c hc => zaM c 3 (by have := zll h c hc; omega) (by omega)
  simp only [za9, List.mem_cons, List.not_mem_nil, or_false, forall_eq_or_imp, forall_eq] at h3
  simp only [zaf, za9, List.map_cons, List.map_nil, Lib.join_cons, Lib.joinTail, List.flatten_cons, List.flatten_nil, List.length_nil, List.length_append, List.length_singleton]
  omega
theorem zai (l : Bs) : (ze l).cells = [ze l] := rfl
theorem zmV (l : Bs) : cellOK (ze l) = true := rfl
theorem zkZ {P : Program} {f : FuncId} {as_ bs : List AV} {σ : St} {K : AV → St → Prop} (hw : ∀ S vs, LRel S as_ vs → LRel S bs vs) (h : ACalls P f bs σ K) : ACalls P f as_ σ K :=
  ⟨h.1, fun S vs hS hl => h.2 S vs hS (hw S vs hl)⟩
theorem PCalls.useLent1 {P : Program} {f : FuncId} {σ0 σ : St} {n : Nat} {b v r : AV} {es : List AV} {K : AV → St → Prop} (h : PCalls P f [.sl n es false, b] r) (hr : r.plain = true) (hO : OwnL σ0 σ n v es) (k : K r σ) : ACalls P f [v, b] σ K := by
  rcases hO with ⟨rfl, rfl⟩ | ⟨j, rfl, hj, hm, hn⟩
  · refine zkZ (bs := [.sl n [] false, b]) (fun S vs hl => ?_) (h.use k)
    simp only [LRel] at hl ⊢
    obtain ⟨v, us, e, h1, w, ws, e2, h2, h3⟩ := hl
    exact ⟨v, us, e, zcx _ _ h1, w, ws, e2, h2, h3⟩
  · refine RCalls.use (.inr ⟨[.sl n es false, b], ?_, h, hr⟩) k
    simp only [zce]
    exact ⟨_, _, rfl, .inr ⟨es, hm, by simp, by simp [hj]⟩, _, _, rfl, .inl rfl, rfl⟩
theorem zh3 (a : Nat) (h : a < 4294967296) : PCalls Tryz.prog 47 [.raw (.int .u32 a)] (ze (zaf a)) := by
  refine zD Tryz.func47 rfl (N := 32) rfl rfl (by simp) (by simp [noIds]) fun σ => ?_
  have p1 : (2 : Int) ^ min 24 IntKind.u32.bits = (16777216 : Nat) := by decide
  have p2 : (2 : Int) ^ min 16 IntKind.u32.bits = (65536 : Nat) := by decide
  have p3 : (2 : Int) ^ min 8 IntKind.u32.bits = (256 : Nat) := by decide
  have w8 : ∀ n : Nat, IntKind.u8.wrap (n : Int) = ((n % 256 : Nat) : Int) := fun n => by simp [IntKind.wrap, IntKind.bits, IntKind.signed]
  have fd : ∀ n b : Nat, Int.fdiv (n : Int) (b : Int) = ((n / b : Nat) : Int) := fun x b => by rw [Int.fdiv_eq_ediv_of_nonneg _ (by omega)]; exact (Int.natCast_ediv x b).symm
  have q1 : IntKind.u8.wrap (Int.fdiv a (2 ^ min 24 IntKind.u32.bits)) = ((a / 16777216 : Nat) : Int) := by rw [p1, fd, w8, Nat.mod_eq_of_lt (by omega)]
  have q2 : IntKind.u8.wrap (Int.fdiv a (2 ^ min 16 IntKind.u32.bits)) = ((a / 65536 % 256 : Nat) : Int) := by rw [p2, fd, w8]
  have q3 : IntKind.u8.wrap (Int.fdiv a (2 ^ min 8 IntKind.u32.bits)) = ((a / 256 % 256 : Nat) : Int) := by rw [p3, fd, w8]
  have q4 : IntKind.u8.wrap (a : Int) = ((a % 256 : Nat) : Int) := w8 a
  have FF := fI @q1 (fI @q2 (fI @q3 (fI @q4 (fI @zl (fI @zo @zb))))); refine gxC ?_; clear FF
  refine z1 (fun n B ρ => Ext σ ρ ∧ B 19 = .agg ((za9 a).map fun c => .raw (.int .u8 (c : Nat))) ∧ ∃ (k : Nat) (v : AV), B 4 = v ∧ OwnL σ ρ 1 v (((za9 a).take k).map fun c => ze (zz c)) ∧ B 20 = .raw (.int .i64 k) ∧ k ≤ 4 ∧ n = 4 - k) 4 ?_ ?_
  · refine ⟨by simp (maxDischargeDepth := 30), by simp [za9, q1, q2, q3, q4], 0, _, rfl, .inl ⟨by simp, by simp⟩, by simp, by omega, by omega⟩
  clear q1 q2 q3 q4 p1 p2 p3 w8 fd
  rintro n B ρ ⟨hE, a19, k, v, a4, hO, a20, hk, rfl⟩ I1 hI1
  have ho4 : (za9 a).length = 4 := rfl
  have hlt4 := zll h
  by_cases hlt : k < 4
  · have hx : (za9 a)[k]? = some ((za9 a)[k]'(by omega)) := List.getElem?_eq_getElem (by omega)
    have hb := hlt4 _ (List.getElem_mem (l := za9 a) (n := k) (by omega))
    generalize (za9 a)[k]'(by omega) = c at hx hb
    have w1 : IntKind.i64.wrap ((k : Int) + 1) = ((k + 1 : Nat) : Int) := by rw [zA (by omega) (by omega)]; omega
    have w2 : IntKind.i64.wrap (c : Int) = (c : Int) := zA (by omega) (by omega)
    have hI := zbO (c : Int) (by omega) (by omega)
    rw [zkl] at hI
    have hlt' : (k : Int) < 4 := by omega
    have hst : ((za9 a).take (k + 1)).map (fun c => ze (zz c)) = ((za9 a).take k).map (fun c => ze (zz c)) ++ [ze (zz c)] := by rw [List.take_add_one, hx]; simp
    (try ((first | with_reducible refine zy ?_ | with_reducible refine zG ?_ | with_reducible refine zH ?_); simp [-cellOK, a19, a4, a20, hlt', hx, w1, w2, zai, zmV, -zM])); repeat' (first | ((first | refine zt ?_ | refine zw ?_ | refine dN (by decide +kernel) ?_ | refine dC (by decide +kernel) ?_ | refine uP (hI) ?_ | refine .inl ⟨_, .inl (hI), ?_⟩ | (refine zh ?_ ?_ <;> (intro hg; simp only [hg])) | fail) <;> simp [-cellOK, a19, a4, a20, hlt', hx, w1, w2, zai, zmV, -zM]) | refine zv ?_ | refine zr ?_ | (refine zO ?_; simp only [zP]; try simp) | (refine zm (fun hc => ?_) (fun hc => ?_) <;> try simp at hc) | fail)
    refine zbM zjn (hO.ext (Ext.new _ _ _ _)) (hE.trans (Ext.new _ _ _ _)) (ys := [ze (zz c)]) (by simp) (.inr rfl) (by simp [ze]) (by simp [ho4, Nat.min_eq_left hk]; omega) ?_
    intro v' τ' hO' hE' _ _
    have FF := fI @a19 (fI @a4 (fI @a20 @w1)); refine gxC ?_; clear FF
    exact hI1 (4 - (k + 1)) _ _ (by omega) ⟨hE', by simp [a19], k + 1, v', by simp, by rw [hst]; exact hO', by simp, by omega, rfl⟩
  · have : k = 4 := by omega
    subst this
    have ht : (za9 a).take 4 = za9 a := rfl
    rw [ht] at hO
    have hj := zgJ ((za9 a).map zz) false [46] (by simp [za9]) (by have := zbt h; unfold zaf at this; omega) (by simp [za9])
    have hls : zB ((za9 a).map zz) false = .sl 1 ((za9 a).map fun c => ze (zz c)) false := by simp [zB]
    rw [hls] at hj
    have FF := fI @a19 (fI @a4 @a20); refine gxC ?_; clear FF
    refine PCalls.useLent1 (b := ze [46]) hj rfl hO ?_
    unfold zaf ze
    exact zj1
def zuA (a n : Nat) : Bs := zaf a ++ [47] ++ zz n
theorem zaN (a b : Bs) : zf a ++ zf b = zf (a ++ b) := by
  rw [← zgm (zf a ++ zf b)]
  congr 1
def zY (a b : Nat) : Bs := zaf a ++ [45] ++ zaf b
theorem zh4 (a b : Nat) (h : a < 4294967296) (h' : b < 4294967296) : PCalls Tryz.prog 23 [.agg [.raw (.int .u32 a), .raw (.int .u32 b)]] (ze (zY a b)) := by
  have h1 := zh3 a h
  have h2 := zh3 b h'
  have hl := zbt h
  have hd := zbt h'
  refine zD Tryz.func23 rfl (N := 11) rfl rfl (by simp) (by simp [noIds]) fun σ => ?_
  have e1 : (ByteArray.mk #[45]).size = 1 := rfl
  have s1 : ((zf (zaf a)).size : Int) + 1 ≤ 9223372036854775807 := by rw [zT]; omega
  have s2 : ((zf (zaf a)).size : Int) + 1 + ((zf (zaf b)).size : Int) ≤ 9223372036854775807 := by rw [zT, zT]; omega
  have eX : zf (zaf a) ++ ByteArray.mk #[45] ++ zf (zaf b) = zf (zY a b) := by
    have : ByteArray.mk #[45] = zf [45] := rfl
    rw [this, zaN, zaN]; rfl
  unfold ze at *
  generalize zf (zY a b) = Z at *
  generalize zf (zaf a) = X at *
  generalize zf (zaf b) = Y at *
  have FF := fI @e1 (fI @s1 (fI @s2 (fI @eX (fI @zl (fI @zo @zb))))); exact zJ
end Go.Proofs.YtckabcbfbpejkaaGreatDoor.Av
namespace Go.Proofs.YtckabcbfbpejkaaGreatDoor.Av
open Go
set_option linter.unusedSimpArgs false
set_option linter.unusedVariables false
theorem zoj (b : UInt8) : Lib.index [] [b] = -1 := by simp [Lib.index]
theorem zkm (b c : UInt8) (l : Bs) : Lib.index (c :: l) [b] = if c = b then 0 else if Lib.index l [b] = -1 then -1 else Lib.index l [b] + 1 := by
  have : ([b] : Bs).isPrefixOf (c :: l) = decide (c = b) := by
    by_cases h : c = b
    · subst h; simp [List.isPrefixOf]
    · have h' : ¬ b = c := fun e => h e.symm
      simp [List.isPrefixOf, h, h']
  rw [Lib.index, this]
  by_cases h : c = b <;> simp [h]
theorem zdc (b : UInt8) : ∀ l : Bs, (Lib.index l [b] = -1 ∧ zq b l = [l] ∧ b ∉ l) ∨ ∃ i : Nat, Lib.index l [b] = i ∧ i < l.length ∧ b ∉ l.take i ∧ zq b l = l.take i :: zq b (l.drop (i + 1))
  | [] => .inl ⟨zoj b, rfl, by simp⟩
  | c :: l => by
    rw [zkm]
    by_cases hc : c = b
    · refine .inr ⟨0, by simp [hc], by simp, by simp, ?_⟩
      simp [zq, hc]
    · rw [if_neg hc]
      have hc' : ¬ b = c := fun e => hc e.symm
      rcases zdc b l with ⟨h1, h2, h3⟩ | ⟨i, h1, h2, h3, h4⟩
      · refine .inl ⟨by simp [h1], ?_, by simp [h3, hc']⟩
        simp [zq, hc, h2]
      · refine .inr ⟨i + 1, ?_, by simp [h2], by simp [h3, hc'], ?_⟩
        · rw [if_neg (by omega), h1]; simp
        · simp [zq, hc, h4]
theorem zk0 (b : UInt8) : ∀ (k : Nat) (s : ByteArray), Lib.countB s (zf [b]) = k → (Lib.splitB (zf [b]) 0 k s).map (·.data.toList) = zq b s.data.toList := by
  intro k
  induction k with
  | zero =>
    intro s hk
    rcases zdc b s.data.toList with ⟨h1, h2, _⟩ | ⟨i, h1, h2, _, h3⟩
    · rw [h2]; rfl
    · have := Lib.countB_hit s (zf [b]) i (by simp [zf, ByteArray.size]) h1
      omega
  | succ k ih =>
    intro s hk
    rcases zdc b s.data.toList with ⟨h1, h2, _⟩ | ⟨i, h1, h2, _, h3⟩
    · have := Lib.countB_miss s (zf [b]) h1
      omega
    · have := Lib.countB_hit s (zf [b]) i (by simp [zf, ByteArray.size]) h1
      rw [Lib.splitB_hit (zf [b]) 0 k s i h1, List.map_cons, ih _ (by omega), h3]
      have e1 : (zf [b]).size = 1 := rfl
      rw [e1, Lib.extract_to_end, Nat.add_zero]
      congr 1
      rw [Lib.extract_data]; simp
theorem zf5 (b : UInt8) (s : Bs) : zf3 s [b] = zq b s := by
  unfold zf3
  rw [zk0 b _ (zf s) rfl, za4]
theorem zeO (b : UInt8) (s : Bs) : (Lib.cut s [b] = (s, [], false) ∧ zq b s = [s] ∧ b ∉ s) ∨ ∃ h t, s = h ++ b :: t ∧ b ∉ h ∧ Lib.cut s [b] = (h, t, true) ∧ zq b s = h :: zq b t := by
  rcases zdc b s with ⟨h1, h2, h3⟩ | ⟨i, h1, h2, h3, h4⟩
  · refine .inl ⟨?_, h2, h3⟩
    unfold Lib.cut; rw [h1, if_neg (by omega)]
  · refine .inr ⟨s.take i, s.drop (i + 1), ?_, h3, ?_, h4⟩
    · have hb : s[i] = b := by
        have : ∀ (l : Bs) (i : Nat) (hi : i < l.length), Lib.index l [b] = i → l[i] = b := by
          intro l
          induction l with
          | nil => intro i hi; simp at hi
          | cons c l ih =>
            intro i hi hx
            rw [zkm] at hx
            by_cases hc : c = b
            · rw [if_pos hc] at hx
              have : i = 0 := by omega
              subst this; simpa using hc
            · rw [if_neg hc] at hx
              split at hx
              · omega
              · obtain ⟨j, rfl⟩ : ∃ j, i = j + 1 := ⟨i - 1, by have := Lib.index_ge l [b]; omega⟩
                simp only [List.getElem_cons_succ]
                exact ih j (by simpa using hi) (by omega)
        exact this s i h2 h1
      rw [← hb, List.getElem_cons_drop, List.take_append_drop]
    · unfold Lib.cut; rw [h1, if_pos (by omega)]; simp
theorem zbu (b : UInt8) : ∀ (l : Bs), ∀ x ∈ zq b l, x.length ≤ l.length
  | [] => by simp [zq]
  | c :: l => by
    have ih := zbu b l
    intro x hx
    unfold zq at hx
    split at hx
    · rcases List.mem_cons.1 hx with rfl | hx
      · simp
      · have := ih x hx; simp; omega
    · cases hp : zq b l with
      | nil => exact absurd hp (zaY b l)
      | cons p ps =>
        rw [hp] at hx ih
        simp only [List.mem_cons] at hx ih
        rcases hx with rfl | hx
        · have := ih p (.inl rfl); simp; omega
        · have := ih x (.inr hx); simp; omega
def zby : List Bs → Nat → Option Nat
  | [], a => some a
  | x :: r, a => match zaC 255 x with | some n => zby r (a * 256 + n) | none => none
def zam (s : Bs) : Option Nat := if (zq 46 s).length = 4 then zby (zq 46 s) 0 else none
theorem zfj {m : Nat} {x : Bs} {n : Nat} (h : zaC m x = some n) : n ≤ m := (zbI.1 h).2
theorem zkn : ∀ (l : List Bs) (a k r : Nat), a < 256 ^ k → zby l a = some r → r < 256 ^ (k + l.length)
  | [], a, k, r, h, e => by simp only [zby, Option.some.injEq] at e; subst e; simpa using h
  | x :: l, a, k, r, h, e => by
    unfold zby at e
    split at e
    · rename_i n hn
      have := zkn l _ (k + 1) r (by have := zfj hn; rw [Nat.pow_succ]; omega) e
      rw [List.length_cons]
      rwa [show k + (l.length + 1) = k + 1 + l.length by omega]
    · cases e
theorem zcr {s : Bs} {a : Nat} (h : zam s = some a) : a < 4294967296 := by
  unfold zam at h
  split at h
  · rename_i hl
    have := zkn _ 0 0 a (by decide) h
    rw [hl] at this
    simpa using this
  · cases h
def zbX (a n : Nat) : Bool := decide (n ≤ 32) && decide (a % 2 ^ (32 - n) = 0)
def zbP (s : Bs) : Option (Nat × Nat) := match zam (Lib.cut s [47]).1, zaC 32 (Lib.cut s [47]).2.1 with
  | some a, some n => if (Lib.cut s [47]).2.2 = true ∧ zbX a n = true then some (a, n) else none
  | _, _ => none
def zbi (s : Bs) : Option (Nat × Nat) := match zbP s with
  | some (a, n) => some (a, a + 2 ^ (32 - n) - 1)
  | none => match zam (Lib.cut s [45]).1, zam (Lib.cut s [45]).2.1 with
    | some a, some b => if (Lib.cut s [45]).2.2 = true ∧ a ≤ b then some (a, b) else none
    | _, _ => none
def zdr (o : Option Nat) : AV := match o with | some a => .tup [.raw (.int .u32 a), .raw (.int .i64 0)] | none => .tup [.raw (.int .u32 0), .raw (.int .i64 21)]
def zgn (o : Option (Nat × Nat)) : AV := match o with | some (a, n) => .tup [.agg [.raw (.int .u32 a), .raw (.int .i64 n)], .raw (.int .i64 0)] | none => .tup [.agg [.raw (.int .u32 0), .raw (.int .i64 0)], .raw (.int .i64 21)]
def zfk (o : Option (Nat × Nat)) : AV := match o with | some (a, b) => .tup [.agg [.raw (.int .u32 a), .raw (.int .u32 b)], .raw (.int .i64 0)] | none => .tup [.agg [.raw (.int .u32 0), .raw (.int .u32 0)], .raw (.int .i64 21)]
end Go.Proofs.YtckabcbfbpejkaaGreatDoor.Av
namespace Go.Proofs.YtckabcbfbpejkaaGreatDoor.Av
open Go
set_option linter.unusedSimpArgs false
set_option linter.unusedVariables false
set_option maxRecDepth 100000
set_option maxHeartbeats 4000000
set_option pp.maxSteps 600
theorem zok {a n : Nat} (ha : a < 16777216) (hn : n < 256) : IntKind.u32.wrap (((((a * 256 : Nat) : Int) % 2 ^ IntKind.u32.bits).toNat ||| ((n : Int) % 2 ^ IntKind.u32.bits).toNat : Nat) : Int) = ((a * 256 + n : Nat) : Int) := by
  rw [zc2 (by omega) (by omega), zc2 (by omega) (by omega), Int.toNat_natCast, Int.toNat_natCast]
  have e : a * 256 ||| n = a * 256 + n := by
    have := Nat.two_pow_add_eq_or_of_lt (b := n) (i := 8) (by omega) a
    rw [Nat.mul_comm]; exact this.symm
  rw [e, zcZ (by omega) (by omega)]
theorem zdF (x : Bs) (r : List Bs) (a : Nat) : zby (x :: r) a = match zaC 255 x with | some n => zby r (a * 256 + n) | none => none := rfl
theorem zko (o : Option Nat) : noIds (zdr o) := by unfold zdr noIds; split <;> simp [AV.ids, zx]
theorem zcP (s : Bs) (hs : s.length ≤ 1000) : PCalls Tryz.prog 56 [ze s] (zdr (zam s)) := by
  have hS := zgI s [46] (by omega) (by simp)
  rw [zf5] at hS
  have hlen := zbu 46 s
  refine zD Tryz.func56 rfl (N := 35) rfl rfl (by simp) (zko _) fun σ => ?_
  unfold zam
  generalize zq 46 s = ps at *
  by_cases h4 : ps.length = 4
  · rw [if_pos h4]
    obtain ⟨T, hT⟩ : ∃ T, zby ps 0 = T := ⟨_, rfl⟩
    rw [hT]
    have h4' : (ps.length : Int) = 4 := by omega
    have FF := fI zB.eq_1 @h4'; refine gxC ?_; clear FF
    refine z1 (fun n B ρ => Ext σ ρ ∧ B 15 = zB ps true ∧ B 16 = .raw (.int .i64 4) ∧ ∃ k a : Nat, B 17 = .raw (.int .i64 k) ∧ k ≤ 4 ∧ n = 4 - k ∧ B 5 = .raw (.int .u32 a) ∧ a < 256 ^ k ∧ zby (ps.drop k) a = T) 4 ?_ ?_
    · exact ⟨by simp (maxDischargeDepth := 30), by simp [zB], by simp [h4'], 0, 0, by simp, by omega, by omega, by simp, by decide, by simpa using hT⟩
    rintro n B ρ ⟨hE, a15, a16, k, a, a17, hk, rfl, a5, ha, hf⟩ I1 hI1
    by_cases hlt : k < 4
    · have hkl : k < ps.length := by omega
      have hx : ps[k]? = some ps[k] := List.getElem?_eq_getElem hkl
      have w1 : IntKind.i64.wrap ((k : Int) + 1) = ((k + 1 : Nat) : Int) := by rw [zA (by omega) (by omega)]; omega
      have hlt' : (k : Int) < 4 := by omega
      have hN := zf4 255 ps[k] (by omega) (by have := hlen _ (List.getElem_mem hkl); omega)
      have hd : ps.drop k = ps[k] :: ps.drop (k + 1) := (List.getElem_cons_drop hkl).symm
      rw [hd] at hf
      generalize ps[k] = x at *
      unfold zkk at hN
      have ha24 : a < 16777216 := Nat.lt_of_lt_of_le ha (by have : 256 ^ k ≤ 256 ^ 3 := Nat.pow_le_pow_right (by omega) (by omega); simpa using this)
      cases hn : zaC 255 x with
      | none =>
        rw [hn] at hN
        rw [zdF, hn] at hf
        simp only [] at hf
        subst hf
        have hr : zdr none = .tup [.raw (.int .u32 0), .raw (.int .i64 21)] := rfl
        rw [hr]
        have FF := fI zB.eq_1 (fI @a15 (fI @a16 (fI @a17 (fI @a5 (fI @hlt' (fI @hx @zai)))))); exact zJ
      | some c =>
        have e0 := zjx hn (by omega)
        have hc := zfj hn
        rw [hn, e0] at hN
        rw [zdF, hn] at hf
        simp only [] at hf
        obtain ⟨y, hy⟩ : ∃ y, a * 256 + c = y := ⟨_, rfl⟩
        have p8 : (2 : Int) ^ min 8 IntKind.u32.bits = (256 : Nat) := by decide
        have e1 : IntKind.u32.wrap ((a : Int) * 2 ^ min 8 IntKind.u32.bits) = ((a * 256 : Nat) : Int) := by rw [p8, zcZ (by omega) (by omega)]; omega
        have e2 : IntKind.u32.wrap (c : Int) = c := zcZ (by omega) (by omega)
        have e3 := zok ha24 (n := c) (by omega)
        rw [hy] at e3 hf
        have hy2 : y < 256 ^ (k + 1) := by rw [Nat.pow_succ]; omega
        generalize a * 256 = m at *
        have FF := fI zB.eq_1 (fI @a15 (fI @a16 (fI @a17 (fI @a5 (fI @hlt' (fI @hx (fI @zai (fI @e1 (fI @e2 (fI @e3 @w1)))))))))); refine gxC ?_; clear FF
        exact hI1 (4 - (k + 1)) _ _ (by omega) ⟨hE, by simp [a15, zB], by simp [a16], k + 1, y, by simp, by omega, rfl, by simp, hy2, hf⟩
    · have : k = 4 := by omega
      subst this
      rw [List.drop_eq_nil_of_le (by omega)] at hf
      subst hf
      have hf0 : zby [] a = some a := rfl
      rw [hf0]
      have hr : zdr (some a) = .tup [.raw (.int .u32 a), .raw (.int .i64 0)] := rfl
      rw [hr]
      have FF := fI @a15 (fI @a16 (fI @a17 @a5)); exact zJ
  · rw [if_neg h4]
    have h4' : ¬ (ps.length : Int) = 4 := by omega
    have hr : zdr none = .tup [.raw (.int .u32 0), .raw (.int .i64 21)] := rfl
    rw [hr]
    have FF := fI zB.eq_1 @h4'; exact zJ
theorem cut_len (s : Bs) (b : UInt8) : (Lib.cut s [b]).1.length ≤ s.length ∧ (Lib.cut s [b]).2.1.length ≤ s.length := by
  rcases zeO b s with ⟨h, _, _⟩ | ⟨x, y, e, _, h, _⟩
  · rw [h]; simp
  · rw [h, e]; simp; omega
theorem zcQ (a n : Nat) : rightB ⟨a, n⟩ = zbX a n := by
  have e : (2 : Int) ^ (32 - n) = ((2 ^ (32 - n) : Nat) : Int) := by simp
  have e2 : ((a : Int) % 2 ^ (32 - n) = 0) ↔ a % 2 ^ (32 - n) = 0 := by rw [e]; omega
  simp only [rightB, zbX, Int.toNat_natCast, e2]
  rw [Bool.eq_iff_iff]
  simp only [Bool.and_eq_true, decide_eq_true_eq]
  constructor
  · rintro ⟨_, h, k⟩; exact ⟨by omega, k⟩
  · rintro ⟨h, k⟩; exact ⟨by omega, by omega, k⟩
theorem ziX (o : Option (Nat × Nat)) : noIds (zgn o) := by unfold zgn noIds; split <;> simp [AV.ids, zx]
theorem ziY (o : Option (Nat × Nat)) : noIds (zfk o) := by unfold zfk noIds; split <;> simp [AV.ids, zx]
theorem zaW : zgn none = .tup [.agg [.raw (.int .u32 0), .raw (.int .i64 0)], .raw (.int .i64 21)] := rfl
theorem zdG (a n : Nat) : zgn (some (a, n)) = .tup [.agg [.raw (.int .u32 a), .raw (.int .i64 n)], .raw (.int .i64 0)] := rfl
theorem zaE : zfk none = .tup [.agg [.raw (.int .u32 0), .raw (.int .u32 0)], .raw (.int .i64 21)] := rfl
theorem zaX (a n : Nat) : zfk (some (a, n)) = .tup [.agg [.raw (.int .u32 a), .raw (.int .u32 n)], .raw (.int .i64 0)] := rfl
theorem zbG : zdr none = .tup [.raw (.int .u32 0), .raw (.int .i64 21)] := rfl
theorem zbH (a : Nat) : zdr (some a) = .tup [.raw (.int .u32 a), .raw (.int .i64 0)] := rfl
theorem zk1 (s : Bs) (hs : s.length ≤ 1000) : PCalls Tryz.prog 53 [ze s] (zgn (zbP s)) := by
  have hC := zh1 s [47] (by omega)
  obtain ⟨l1, l2⟩ := cut_len s 47
  have hA := zcP (Lib.cut s [47]).1 (by omega)
  have hN := zf4 32 (Lib.cut s [47]).2.1 (by omega) (by omega)
  have lt := fun a => zcr (s := (Lib.cut s [47]).1) (a := a)
  have ai := fun n => zjx (most := 32) (s := (Lib.cut s [47]).2.1) (n := n)
  unfold zbP
  unfold zkk at hN
  generalize (Lib.cut s [47]).1 = h at *
  generalize (Lib.cut s [47]).2.1 = t at *
  generalize (Lib.cut s [47]).2.2 = b at *
  refine zD Tryz.func53 rfl (N := 48) rfl rfl (by simp) (ziX _) fun σ => ?_
  cases ha : zam h with
  | none =>
    rw [ha, zbG] at hA
    generalize zaC 32 t = o at *
    rw [zaW]
    cases b
    all_goals
      have FF := fI @zl (fI @zo @zb); exact zJ
  | some a =>
    have la := lt a ha
    rw [ha, zbH] at hA
    cases hn : zaC 32 t with
    | none =>
      rw [hn] at hN
      simp only []
      rw [zaW]
      cases b
      all_goals
        have FF := fI @zl (fI @zo @zb); exact zJ
    | some n =>
      rw [hn, ai n hn (by omega)] at hN
      have hR := zgK ⟨a, n⟩ (by simp) (by simp; omega)
      rw [zcQ] at hR
      unfold zbl at hR
      simp only []
      cases b with
      | false =>
        rw [if_neg (by simp), zaW]
        have FF := fI @zl (fI @zo @zb); exact zJ
      | true =>
        cases hr : zbX a n with
        | true =>
          rw [hr] at hR
          rw [if_pos ⟨rfl, rfl⟩, zdG]
          have FF := fI @zl (fI @zo @zb); exact zJ
        | false =>
          rw [hr] at hR
          rw [if_neg (by simp), zaW]
          have FF := fI @zl (fI @zo @zb); exact zJ
end Go.Proofs.YtckabcbfbpejkaaGreatDoor.Av
namespace Go.Proofs.YtckabcbfbpejkaaGreatDoor.Av
open Go
set_option linter.unusedSimpArgs false
set_option linter.unusedVariables false
set_option maxRecDepth 100000
set_option maxHeartbeats 4000000
set_option pp.maxSteps 600
theorem zfl {s : Bs} {a n : Nat} (h : zbP s = some (a, n)) : zam (Lib.cut s [47]).1 = some a ∧ zaC 32 (Lib.cut s [47]).2.1 = some n ∧ (Lib.cut s [47]).2.2 = true ∧ zbX a n = true := by
  unfold zbP at h
  split at h
  · rename_i a' n' h1 h2
    split at h
    · rename_i hc
      simp only [Option.some.injEq, Prod.mk.injEq] at h
      obtain ⟨rfl, rfl⟩ := h
      exact ⟨h1, h2, hc.1, hc.2⟩
    · cases h
  · cases h
theorem zfm {a n : Nat} (h : zbX a n = true) : zbS ⟨a, n⟩ = zfk (some (a, a + 2 ^ (32 - n) - 1)) := by
  unfold zbS
  rw [zcQ, h, if_pos rfl, zaX]
  have h2 : 0 < 2 ^ (32 - n) := Nat.pow_pos (by omega)
  have e : (a : Int) + 2 ^ (32 - n) - 1 = ((a + 2 ^ (32 - n) - 1 : Nat) : Int) := by
    have : (2 : Int) ^ (32 - n) = ((2 ^ (32 - n) : Nat) : Int) := by simp
    rw [this]; omega
  simp only [Int.toNat_natCast, e]; rfl
theorem zd9 (s : Bs) (hs : s.length ≤ 1000) : PCalls Tryz.prog 32 [ze s] (zfk (zbi s)) := by
  have hP := zk1 s hs
  refine zD Tryz.func32 rfl (N := 59) rfl rfl (by simp) (ziY _) fun σ => ?_
  unfold zbi
  cases hp : zbP s with
  | some p =>
    obtain ⟨a, n⟩ := p
    obtain ⟨h1, _, _, h4⟩ := zfl hp
    have la := zcr h1
    have hR := zkY ⟨a, n⟩ (by simp) (by simp; omega)
    rw [zfm h4] at hR
    rw [hp, zdG] at hP
    simp only []
    unfold zbl at hR
    generalize a + 2 ^ (32 - n) - 1 = e at *
    rw [zaX] at hR ⊢
    have FF := fI @zl (fI @zo @zb); exact zJ
  | none =>
    rw [hp, zaW] at hP
    simp only []
    clear hp
    have hC := zh1 s [45] (by omega)
    obtain ⟨l1, l2⟩ := cut_len s 45
    have hA := zcP (Lib.cut s [45]).1 (by omega)
    have hB := zcP (Lib.cut s [45]).2.1 (by omega)
    generalize (Lib.cut s [45]).1 = h at *
    generalize (Lib.cut s [45]).2.1 = t at *
    generalize (Lib.cut s [45]).2.2 = b at *
    cases ha : zam h with
    | none =>
      rw [ha, zbG] at hA
      rw [zaE]
      cases hb : zam t with
      | none =>
        rw [hb, zbG] at hB
        cases b
        all_goals
          have FF := fI @zl (fI @zo @zb); exact zJ
      | some c =>
        rw [hb, zbH] at hB
        cases b
        all_goals
          have FF := fI @zl (fI @zo @zb); exact zJ
    | some a =>
      rw [ha, zbH] at hA
      cases hb : zam t with
      | none =>
        rw [hb, zbG] at hB
        simp only []
        rw [zaE]
        cases b
        all_goals
          have FF := fI @zl (fI @zo @zb); exact zJ
      | some c =>
        rw [hb, zbH] at hB
        simp only []
        by_cases hle : a ≤ c
        · have hle' : ¬ c < a := by omega
          cases b
          · rw [if_neg (by simp), zaE]
            have FF := fI @hle (fI @hle' (fI @zl (fI @zo @zb))); exact zJ
          · rw [if_pos ⟨rfl, hle⟩, zaX]
            have FF := fI @hle (fI @hle' (fI @zl (fI @zo @zb))); exact zJ
        · have hle' : c < a := by omega
          rw [if_neg (by simp [hle]), zaE]
          cases b
          all_goals
            have FF := fI @hle (fI @hle' (fI @zl (fI @zo @zb))); exact zJ
end Go.Proofs.YtckabcbfbpejkaaGreatDoor.Av
