/- Prefix: the laws PrefixTexts, PrefixTells, PrefixSplit, PrefixParses, PrefixBack. Part 16 of 19: AvS1, AvS2, AvS3, AvP6, AvS4, AvS5. -/
import Derived.Test.YtckabcbfbpejkaaDoorPx3
import Derived.Test.YtckabcbfbpejkaaDoorPx8
import Derived.Test.YtckabcbfbpejkaaDoorPx9
import Derived.Test.YtckabcbfbpejkaaDoorPx10
import Derived.Test.YtckabcbfbpejkaaDoorPx15
import Derived.Lib.SmallJoins
import Derived.Lib.AppendIntMem
import Derived.Lib.SplitLaws
namespace Go.Proofs.YtckabcbfbpejkaaDoor.Av
open Go Go.RowKit
set_option linter.unusedSimpArgs false
set_option linter.unusedVariables false
set_option maxRecDepth 100000
set_option maxHeartbeats 4000000
def zd (l : Bs) : ByteArray := ⟨l.toArray⟩
def zk (l : Bs) : AV := .raw (.string (zd l))
theorem zaG (l : Bs) : (zd l).data.toList = l := by simp [zd]
theorem zy (l : Bs) : (zd l).size = l.length := by simp [zd, ByteArray.size]
theorem zfd (b : ByteArray) : zd b.data.toList = b := by cases b; simp [zd]
@[simp] theorem zlH (K : Id → Prop) (l : Bs) : (zk l).ids K := by simp [zk, AV.ids]
theorem zjK {S : Ctx} (g : GlobOK S) (b : Nat) (h : b < zfY) : ∃ c : Array Value, (∀ i, S.w.cell? ⟨b, i, none⟩ = c[i]?) ∧ zlk b c := by
  obtain ⟨_, c, t, fz, e, q⟩ := g b h
  exact ⟨c, fun i => by simp [World.cell?, e], q⟩
theorem zmp {S : Ctx} (g : GlobOK S) : Lib.TabIs Tryd.prog S.w "internal/strconv.uint64pow10" .u64 Lib.pow10Tab := by
  obtain ⟨_, c, t, fz, h, q⟩ := g 2 (by decide)
  have hg : Tryd.prog.globalNamed "internal/strconv.uint64pow10" = some 2 := by kernel_rfl
  unfold Lib.TabIs World.var?
  rw [hg]
  simp only [Option.bind_some, h]
  rw [q.2.1 rfl]
theorem zks {S : Ctx} (g : GlobOK S) : ∃ m, S.w.cell? ⟨1, 0, none⟩ = some (.int .i64 m) := by
  obtain ⟨c, h, q⟩ := zjK g 1 (by decide)
  obtain ⟨m, hm⟩ := q.1 rfl
  exact ⟨m, (h 0).trans hm⟩
theorem zkt {S : Ctx} (g : GlobOK S) (b : Nat) (hb : b = 3 ∨ b = 4) : ∃ ev, S.w.cell? ⟨b, 0, none⟩ = some ev ∧ (ev = .nilIface ∨ ∃ te pe, ev = .iface te pe) := by
  obtain ⟨c, h, q⟩ := zjK g b (by rcases hb with rfl | rfl <;> decide)
  obtain ⟨ev, h1, h2⟩ := q.2.2.2 hb
  exact ⟨ev, (h 0).trans h1, h2⟩
theorem zeg (n : Int) (h0 : -9223372036854775808 ≤ n) (h1 : n ≤ 9223372036854775807) : PCalls Tryd.prog 47 [.raw (.int .i64 n)] (zk (Lib.itoa n)) :=
  zbO (zbk Tryd.func47 (by kernel_rfl) rfl) (by simp [noIds]) fun S vs g hl => by
    simp only [LRel, VRel] at hl
    obtain ⟨v, us, rfl, rfl, rfl⟩ := hl
    refine (Tryd.strconv_Itoa n h0 h1 S.w (zmp g)).mono ?_
    rintro e w' ⟨rfl, k, os, rfl⟩
    exact ⟨_, rfl, Lib.below_grow _ _ (Nat.le_refl _) _ _, by simp [VRel, zk, zd]⟩
def zhD (s : Bs) : AV := match Lib.atoiAll s with | .ok v => .tup [.raw (.int .i64 v), .raw .nilIface] | .range => .tup [.raw (.int .i64 (Lib.atoiSat s)), .ifc 133 .any] | _ => .tup [.raw (.int .i64 0), .ifc 133 .any]
theorem zjL (s : Bs) (hl : s.length ≤ 1000) : PCalls Tryd.prog 79 [zk s] (zhD s) :=
  zbO (zbk Tryd.func79 (by kernel_rfl) rfl) (by unfold zhD noIds; split <;> simp [AV.ids, zg]) fun S vs g hl' => by
    simp only [LRel, VRel, zk] at hl'
    obtain ⟨v, us, rfl, rfl, rfl⟩ := hl'
    have hsz := zy s
    unfold zhD
    split
    · rename_i v hv
      refine (Tryd.strconv_Atoi_ok (zd s) (by omega) v (by rw [zaG]; exact hv) S.w).mono ?_
      rintro e w' ⟨rfl, h⟩
      refine ⟨_, rfl, ?_, by simp [VRel, LRel]⟩
      rcases h with rfl | ⟨t, rfl⟩
      · exact Below.refl _ _
      · exact Joins.below_bytesWorld _ _ _ _ (Nat.le_refl _)
    · rename_i hv
      obtain ⟨ev, q1, q2⟩ := zkt g 4 (.inr rfl)
      refine (Tryd.strconv_Atoi_range (zd s) (by omega) (by rw [zaG]; exact hv) ev S.w q1 q2).mono ?_
      rintro e w' ⟨M, rfl, h1, h2, h3⟩
      refine ⟨_, rfl, h3, ?_⟩
      simp only [VRel, LRel, zaG]
      exact ⟨_, rfl, _, _, rfl, rfl, _, _, rfl, ⟨_, rfl, trivial⟩, rfl⟩
    · rename_i h1' h2'
      have hv : Lib.atoiAll s = Lib.atoiAll [] := by
        have e0 : ∀ r : Lib.NumEnd Int, (∀ v, r = .ok v → False) → (r = .range → False) → r = Lib.atoiAll [] := fun r k1 k2 => by cases r; exact (k1 _ rfl).elim; rfl; exact (k2 rfl).elim
        exact e0 _ h1' h2'
      obtain ⟨ev, q1, q2⟩ := zkt g 3 (.inl rfl)
      refine (Tryd.strconv_Atoi_syntax (zd s) (by omega) (by rw [zaG]; exact hv) ev S.w q1 q2).mono ?_
      rintro e w' ⟨M, rfl, h1, h2, h3⟩
      refine ⟨_, rfl, h3, ?_⟩
      simp only [VRel, LRel]
      exact ⟨_, rfl, _, _, rfl, rfl, _, _, rfl, ⟨_, rfl, trivial⟩, rfl⟩
theorem zgB (s sep : Bs) (hs : s.length < 4294967281) : PCalls Tryd.prog 56 [zk s, zk sep] (.tup [zk (Lib.cut s sep).1, zk (Lib.cut s sep).2.1, .raw (.bool (Lib.cut s sep).2.2)]) :=
  zbO (zbk Tryd.func56 (by kernel_rfl) rfl) (by simp [noIds, AV.ids, zg]) fun S vs g hl => by
    simp only [LRel, VRel, zk] at hl
    obtain ⟨v, us, rfl, rfl, v2, us2, rfl, rfl, rfl⟩ := hl
    obtain ⟨m, hm⟩ := zks g
    refine (Tryd.strings_Cut (zd s) (zd sep) m S.w (by rw [zy]; exact hs) hm).mono ?_
    rintro e w' ⟨rfl, n, rfl⟩
    exact ⟨_, rfl, ⟨rfl, rfl, rfl, Nat.le_refl _, fun _ _ => rfl⟩, by simp [VRel, LRel, zk, zaG]; simp [zd]⟩
def zM (l : List Bs) (f : Bool) : AV := .sl 1 (l.map zk) f
theorem zik (K : Id → Prop) : ∀ l : List Bs, zg K (l.map zk)
  | [] => by simp [zg]
  | a :: l => by simp only [List.map_cons, zg]; exact ⟨zlH K a, zik K l⟩
@[simp] theorem zoU (K : Id → Prop) (l : List Bs) (f : Bool) : (zM l f).ids K := by simp only [zM, AV.ids]; exact zik K l
def zeT (s sep : Bs) : List Bs := (Lib.splitB (zd sep) 0 (Lib.countB (zd s) (zd sep)) (zd s)).map (·.data.toList)
theorem ziX (s sep : Bs) (hs : s.length < 4294967281) (h1 : 1 ≤ sep.length) : PCalls Tryd.prog 52 [zk s, zk sep] (zM (zeT s sep) true) :=
  zbO (zbk Tryd.func52 (by kernel_rfl) rfl) (by simp [noIds]) fun S vs g hl => by
    simp only [LRel, VRel, zk] at hl
    obtain ⟨v, us, rfl, rfl, v2, us2, rfl, rfl, rfl⟩ := hl
    obtain ⟨m, hm⟩ := zks g
    have hlen := Lib.splitB_all (zd sep) (by rw [zy]; exact h1) 0 _ (zd s) rfl
    refine (Tryd.strings_Split (zd s) (zd sep) m S.w (by rw [zy]; exact hs) hm (by rw [zy]; exact h1)).mono ?_
    rintro e w' ⟨rfl, rfl⟩
    refine ⟨_, rfl, (Below.refl _ _).alloc (Nat.le_refl _) _, ?_⟩
    have hes : (zeT s sep).map zk = ((Lib.splitB (zd sep) 0 (Lib.countB (zd s) (zd sep)) (zd s)).map Value.string).map .raw := by
      simp only [zeT, List.map_map]
      refine List.map_congr_left fun b _ => ?_
      simp only [Function.comp, zk, zfd]
    simp only [VRel, zM, hes]
    refine ⟨_, _, by simp only [List.length_map, hlen]; rfl, by simp only [List.length_map, hlen]; exact Nat.le_refl _, fun _ => by simp only [List.length_map, hlen], fun _ => ⟨_, 0, rfl, zjF (Nat.le_refl _) (by simp), ERel.raws fun j v hj => ?_⟩⟩
    show (S.w.alloc _).cell? _ = _
    simp only [World.cell?, World.alloc, Nat.zero_add]
    simp at hj ⊢
    exact hj
theorem ziY (l : List Bs) (f : Bool) (sep : Bs) (h1 : l.length ≤ 140737488355328) (h2 : (Lib.join l sep).length ≤ 140737488355328) (hne : l ≠ []) : PCalls Tryd.prog 48 [zM l f, zk sep] (zk (Lib.join l sep)) :=
  zbO (zbk Tryd.func48 (by kernel_rfl) rfl) (by simp [noIds]) fun S vs g hl => by
    simp only [LRel, VRel, zk, zM, List.length_map] at hl
    obtain ⟨v, us, rfl, ⟨base, cap, rfl, hc, _, hb⟩, v2, us2, rfl, rfl, rfl⟩ := hl
    obtain ⟨b, o, rfl, hfz, hE⟩ := hb (by simpa using hne)
    have hxs : (l.map zd).map (·.data.toList) = l := by
      rw [List.map_map]
      conv => rhs; rw [← List.map_id l]
      exact List.map_congr_left fun x _ => zaG x
    have hj := Tryd.strings_Join b o cap (l.map zd) (zd sep) S.w (fun j x hx => ?_) hfz.1 (by simpa using h1) (by simpa using hc) (by rw [hxs, zaG]; exact h2)
    · rw [hxs, zaG, List.length_map] at hj
      refine hj.mono ?_
      rintro e w' ⟨rfl, h⟩
      exact ⟨_, rfl, h, by simp [VRel, zk, zd]⟩
    · rw [List.getElem?_map] at hx
      obtain ⟨y, hy, rfl⟩ := Option.map_eq_some_iff.1 hx
      have hg := hE.get (i := j) (e := zk y) (by rw [List.getElem?_map, hy]; rfl)
      simp only [zk, AV.cells, CRel, VRel, Nat.mul_one] at hg
      obtain ⟨u, h3, h4⟩ := hg.2.1
      rw [h3, h4]
theorem zk6 (x : Nat) (hx : x < 18446744073709551616) : PCalls Tryd.prog 76 [.raw (.int .u64 x)] (.raw (.int .i64 (Lib.ctz 64 x))) :=
  zbO (zbk Tryd.func76 (by kernel_rfl) rfl) (by simp [noIds]) fun S vs g hl => by
    simp only [LRel, VRel] at hl
    obtain ⟨v, us, rfl, rfl, rfl⟩ := hl
    refine (Any7.bits_TrailingZeros64 Tryd.lays7n29 x hx S.w fun _ j hj => ?_).mono ?_
    · obtain ⟨c, h, q⟩ := zjK g 0 (by decide)
      exact (h j).trans (q.2.2.1 rfl j hj)
    · rintro e w' ⟨rfl, rfl⟩
      exact ⟨_, rfl, Below.refl _ _, by simp [VRel]⟩
end Go.Proofs.YtckabcbfbpejkaaDoor.Av
namespace Go.Proofs.YtckabcbfbpejkaaDoor.Av
open Go
set_option linter.unusedSimpArgs false
set_option linter.unusedVariables false
set_option maxRecDepth 100000
set_option maxHeartbeats 4000000
set_option pp.maxSteps 600
structure Pf where
  addr : Int
  len : Int
deriving DecidableEq
def zab (p : Pf) : AV := .agg [.raw (.int .u32 p.addr), .raw (.int .i64 p.len)]
def rgA (a b : Int) : AV := .agg [.raw (.int .u32 a), .raw (.int .u32 b)]
@[simp] theorem zjb (K : Id → Prop) (a b : Int) : (rgA a b).ids K := by simp [rgA, AV.ids, zg]
theorem zcp {a : Int} (h0 : 0 ≤ a) (h1 : a < 4294967296) : (a % 2 ^ IntKind.u32.bits).toNat = a.toNat := by
  have : (2 : Int) ^ IntKind.u32.bits = 4294967296 := by decide
  rw [this]; omega
theorem zil {m : Nat} (hm : m ≤ 32) : (0 : Int) ≤ 2 ^ m - 1 ∧ (2 : Int) ^ m - 1 < 4294967296 ∧ ((2 : Int) ^ m - 1).toNat = 2 ^ m - 1 ∧ (2 : Int) ^ m = ((2 ^ m : Nat) : Int) ∧ 0 < 2 ^ m ∧ 2 ^ m ≤ 2 ^ 32 := by
  have hp : (2 : Int) ^ m = ((2 ^ m : Nat) : Int) := by simp
  have hb : 2 ^ m ≤ 2 ^ 32 := Nat.pow_le_pow_right (by omega) hm
  have h2 : 0 < 2 ^ m := Nat.pow_pos (by omega)
  exact ⟨by omega, by omega, by omega, hp, h2, hb⟩
theorem zk7 (a : Int) (m : Nat) (h0 : 0 ≤ a) (h1 : a < 4294967296) (hm : m ≤ 32) : IntKind.u32.wrap (((a % 2 ^ IntKind.u32.bits).toNat &&& (((2 : Int) ^ m - 1) % 2 ^ IntKind.u32.bits).toNat : Nat) : Int) = a % 2 ^ m := by
  obtain ⟨p1, p2, p3, p4, p5, p6⟩ := zil hm
  obtain ⟨n, rfl⟩ : ∃ n : Nat, a = n := ⟨a.toNat, by omega⟩
  rw [zcp h0 h1, zcp p1 p2, p3, Nat.and_two_pow_sub_one_eq_mod, Int.toNat_natCast]
  have := Nat.mod_le n (2 ^ m)
  rw [zbM (by omega) (by omega), p4]
  rfl
theorem zlI (a : Int) (m : Nat) (h0 : 0 ≤ a) (h1 : a < 4294967296) (hm : m ≤ 32) (hd : a % 2 ^ m = 0) : IntKind.u32.wrap (((a % 2 ^ IntKind.u32.bits).toNat ||| (((2 : Int) ^ m - 1) % 2 ^ IntKind.u32.bits).toNat : Nat) : Int) = a + 2 ^ m - 1 := by
  obtain ⟨p1, p2, p3, p4, p5, p6⟩ := zil hm
  obtain ⟨n, rfl⟩ : ∃ n : Nat, a = n := ⟨a.toNat, by omega⟩
  rw [zcp h0 h1, zcp p1 p2, p3]
  have hd' : n % 2 ^ m = 0 := by rw [p4] at hd; omega
  have e3 : ((n : Int).toNat ||| (2 ^ m - 1)) = n + (2 ^ m - 1) := by
    rw [Int.toNat_natCast]
    obtain ⟨q, rfl⟩ := Nat.dvd_of_mod_eq_zero hd'
    exact (Nat.two_pow_add_eq_or_of_lt (by omega) q).symm
  have h3 : ((n : Int).toNat ||| (2 ^ m - 1)) < 2 ^ 32 := Nat.or_lt_two_pow (by omega) (by omega)
  rw [e3] at h3 ⊢
  rw [zbM (by omega) (by omega), p4]
  omega
theorem zgC (n : Nat) (hn : n ≤ 32) : PCalls Tryd.prog 46 [.raw (.int .i64 n)] (.raw (.int .u32 (2 ^ (32 - n) - 1))) := by
  refine zL Tryd.func46 rfl (N := 8) rfl rfl (by simp) (by simp [noIds]) fun σ => ?_
  have hall : ∀ m, m < 33 → IntKind.u64.wrap (2 ^ min m IntKind.u64.bits) = 2 ^ m ∧ IntKind.u64.wrap ((2 : Int) ^ m - 1) = 2 ^ m - 1 ∧ IntKind.u32.wrap ((2 : Int) ^ m - 1) = 2 ^ m - 1 := by decide
  have e1 : IntKind.i64.wrap (32 - (n : Int)) = ((32 - n : Nat) : Int) := by rw [zq (by omega) (by omega)]; omega
  obtain ⟨m, hm⟩ : ∃ m, 32 - n = m := ⟨_, rfl⟩
  obtain ⟨q1, q2, q3⟩ := hall m (by omega)
  rw [hm] at e1 ⊢
  have e0 : (0 : Int) ≤ m := by omega
  have e9 : ((m : Int)).toNat = m := by omega
  have FF := fI @e1 (fI @e0 (fI @e9 (fI @q1 (fI @q2 @q3)))); exact zr
def zD (p : Pf) : Bool := decide (0 ≤ p.len) && (decide (p.len ≤ 32) && decide (p.addr % 2 ^ (32 - p.len.toNat) = 0))
theorem zcz (p : Pf) (h0 : 0 ≤ p.addr) (h1 : p.addr < 4294967296) : PCalls Tryd.prog 13 [zab p] (.raw (.bool (zD p))) := by
  refine zL Tryd.func13 rfl (N := 20) rfl rfl (by simp) (by simp [noIds]) fun σ => ?_
  obtain ⟨a, l⟩ := p
  by_cases c1 : 0 ≤ l
  · obtain ⟨n, rfl⟩ : ∃ n : Nat, l = n := ⟨l.toNat, by omega⟩
    by_cases c2 : n ≤ 32
    · have hc := zgC n c2
      have e := zk7 a (32 - n) h0 h1 (by omega)
      have c3 : (a % 2 ^ (32 - n) = 0) = True ∨ (a % 2 ^ (32 - n) = 0) = False := by by_cases h : a % 2 ^ (32 - n) = 0 <;> simp [h]
      have c2' : (n : Int) ≤ 32 := by omega
      have hr : zD ⟨a, n⟩ = decide (a % 2 ^ (32 - n) = 0) := by simp [zD]; omega
      rw [hr]
      rcases c3 with c3 | c3
      all_goals
        have FF := fI zab.eq_1 (fI @c1 (fI @c2' (fI @e (fI @c3 (fI @zh (fI @zl @zb)))))); exact zr
    · have c2' : ¬ (n : Int) ≤ 32 := by omega
      have hr : zD ⟨a, n⟩ = false := by simp [zD, c2]; omega
      rw [hr]
      have FF := fI zab.eq_1 (fI @c1 (fI @c2' (fI @zh (fI @zl @zb)))); exact zr
  · have hr : zD ⟨a, l⟩ = false := by simp [zD, c1]
    rw [hr]
    have FF := fI zab.eq_1 (fI @c1 (fI @zh (fI @zl @zb))); exact zr
def zaI (p : Pf) : AV := if zD p then .tup [rgA p.addr (p.addr + 2 ^ (32 - p.len.toNat) - 1), .raw (.int .i64 0)] else .tup [rgA 0 0, .raw (.int .i64 21)]
theorem zbz (p : Pf) (h0 : 0 ≤ p.addr) (h1 : p.addr < 4294967296) : PCalls Tryd.prog 15 [zab p] (zaI p) := by
  have hr := zcz p h0 h1
  refine zL Tryd.func15 rfl (N := 17) rfl rfl (by simp) (by unfold zaI noIds; split <;> simp [AV.ids, zg, zjb]) fun σ => ?_
  cases hb : zD p with
  | false =>
    have e : zaI p = .tup [rgA 0 0, .raw (.int .i64 21)] := by unfold zaI; rw [hb]; rfl
    rw [hb] at hr
    rw [e]
    unfold zab at *
    have FF := fI rgA.eq_1 (fI @zh (fI @zl @zb)); exact zr
  | true =>
    obtain ⟨a, l⟩ := p
    have e : zaI ⟨a, l⟩ = .tup [rgA a (a + 2 ^ (32 - l.toNat) - 1), .raw (.int .i64 0)] := by unfold zaI; rw [hb]; rfl
    rw [hb] at hr
    rw [e]
    unfold zD at hb
    simp only [Bool.and_eq_true, decide_eq_true_eq] at hb
    obtain ⟨k1, k2, k3⟩ := hb
    obtain ⟨n, rfl⟩ : ∃ n : Nat, l = n := ⟨l.toNat, by omega⟩
    have k4 : ((n : Int)).toNat = n := by omega
    simp only [k4] at k3 ⊢
    have hc := zgC n (by omega)
    have e2 := zlI a (32 - n) h0 h1 (by omega) k3
    unfold zab at *
    have FF := fI rgA.eq_1 (fI @e2 (fI @zh (fI @zl @zb))); exact zr
end Go.Proofs.YtckabcbfbpejkaaDoor.Av
namespace Go.Proofs.YtckabcbfbpejkaaDoor.Av
open Go
set_option linter.unusedSimpArgs false
set_option linter.unusedVariables false
set_option maxRecDepth 100000
set_option maxHeartbeats 4000000
set_option pp.maxSteps 600
def zim (most : Nat) (s : Bs) : AV := .tup [.raw (.int .i64 (zhA s)), .raw (.bool (zag most s).isSome)]
theorem zjc (a b : Bs) : ((zd a).toList == (zd b).toList) = decide (a = b) := by
  have h : ∀ l : Bs, (zd l).toList = l := fun l => by rw [ByteArray.toList_eq, zaG]
  rw [h, h]
  by_cases e : a = b <;> simp [e]
theorem zeU (most : Nat) (s : Bs) (hm : most < 9223372036854775808) (hl : s.length ≤ 1000) : PCalls Tryd.prog 53 [zk s, .raw (.int .i64 most)] (zim most s) := by
  have hA := zjL s hl
  have hN := zjW most s hm
  refine zL Tryd.func53 rfl (N := 31) rfl rfl (by simp) (by simp [noIds, zim, AV.ids, zg]) fun σ => ?_
  unfold zim
  rw [← hN]
  clear hN
  unfold zhD at hA
  unfold zhA
  cases hq : Lib.atoiAll s with
  | ok v =>
    rw [hq] at hA
    simp only [] at hA ⊢
    by_cases c1 : 0 ≤ v
    · by_cases c2 : v ≤ most
      · have hI := zeg v (by omega) (by omega)
        have c3 := zjc (Lib.itoa v) s
        have hr : (decide (0 ≤ v) && (decide (v ≤ (most : Int)) && decide (Lib.itoa v = s))) = decide (Lib.itoa v = s) := by simp [c1, c2]
        rw [hr]
        clear hr
        generalize decide (Lib.itoa v = s) = bb at *
        have FF := fI zk.eq_1 (fI @c1 (fI @c2 @c3)); exact zr
      · have hr : (decide (0 ≤ v) && (decide (v ≤ (most : Int)) && decide (Lib.itoa v = s))) = false := by simp [c1, c2]
        rw [hr]
        clear hr
        have FF := fI zk.eq_1 (fI @c1 @c2); exact zr
    · have hr : (decide (0 ≤ v) && (decide (v ≤ (most : Int)) && decide (Lib.itoa v = s))) = false := by simp [c1]
      rw [hr]
      clear hr
      have FF := fI zk.eq_1 @c1; exact zr
  | _ =>
    rw [hq] at hA
    simp only [] at hA ⊢
    have FF := zk.eq_1; exact zr
def zaO (a : Nat) : List Nat := [a / 16777216, a / 65536 % 256, a / 256 % 256, a % 256]
def zv (a : Nat) : Bs := Lib.join ((zaO a).map zz) [46]
theorem zin (n : Nat) : Lib.itoa n = zz n := by
  unfold Lib.itoa
  rw [if_neg (by omega)]
  simp [zz]
theorem zjd {a : Nat} (h : a < 4294967296) : ∀ c ∈ zaO a, c < 256 := by
  intro c hc
  simp only [zaO, List.mem_cons, List.not_mem_nil, or_false] at hc
  omega
theorem zaC {a : Nat} (h : a < 4294967296) : (zv a).length ≤ 15 := by
  have h3 : ∀ c ∈ zaO a, (zz c).length ≤ 3 := fun c hc => zbx c 3 (by have := zjd h c hc; omega) (by omega)
  simp only [zaO, List.mem_cons, List.not_mem_nil, or_false, forall_eq_or_imp, forall_eq] at h3
  simp only [zv, zaO, List.map_cons, List.map_nil, Lib.join_cons, Lib.joinTail, List.flatten_cons, List.flatten_nil, List.length_nil, List.length_append, List.length_singleton]
  omega
theorem z7 (l : Bs) : (zk l).cells = [zk l] := rfl
theorem zku (l : Bs) : cellOK (zk l) = true := rfl
theorem ziZ {P : Program} {f : FuncId} {as_ bs : List AV} {σ : St} {K : AV → St → Prop} (hw : ∀ S vs, LRel S as_ vs → LRel S bs vs) (h : ACalls P f bs σ K) : ACalls P f as_ σ K :=
  ⟨h.1, fun S vs hS hl => h.2 S vs hS (hw S vs hl)⟩
theorem PCalls.useLent1 {P : Program} {f : FuncId} {σ0 σ : St} {n : Nat} {b v r : AV} {es : List AV} {K : AV → St → Prop} (h : PCalls P f [.sl n es false, b] r) (hr : r.plain = true) (hO : OwnL σ0 σ n v es) (k : K r σ) : ACalls P f [v, b] σ K := by
  rcases hO with ⟨rfl, rfl⟩ | ⟨j, rfl, hj, hm, hn⟩
  · refine ziZ (bs := [.sl n [] false, b]) (fun S vs hl => ?_) (h.use k)
    simp only [LRel] at hl ⊢
    obtain ⟨v, us, e, h1, w, ws, e2, h2, h3⟩ := hl
    exact ⟨v, us, e, zcJ _ _ h1, w, ws, e2, h2, h3⟩
  · refine RCalls.use (.inr ⟨[.sl n es false, b], ?_, h, hr⟩) k
    simp only [zbY]
    exact ⟨_, _, rfl, .inr ⟨es, hm, by simp, by simp [hj]⟩, _, _, rfl, .inl rfl, rfl⟩
theorem zbQ (a : Nat) (h : a < 4294967296) : PCalls Tryd.prog 16 [.raw (.int .u32 a)] (zk (zv a)) := by
  refine zL Tryd.func16 rfl (N := 32) rfl rfl (by simp) (by simp [noIds]) fun σ => ?_
  have p1 : (2 : Int) ^ min 24 IntKind.u32.bits = (16777216 : Nat) := by decide
  have p2 : (2 : Int) ^ min 16 IntKind.u32.bits = (65536 : Nat) := by decide
  have p3 : (2 : Int) ^ min 8 IntKind.u32.bits = (256 : Nat) := by decide
  have w8 : ∀ n : Nat, IntKind.u8.wrap (n : Int) = ((n % 256 : Nat) : Int) := fun n => by simp [IntKind.wrap, IntKind.bits, IntKind.signed]
  have fd : ∀ n b : Nat, Int.fdiv (n : Int) (b : Int) = ((n / b : Nat) : Int) := fun x b => by rw [Int.fdiv_eq_ediv_of_nonneg _ (by omega)]; exact (Int.natCast_ediv x b).symm
  have q1 : IntKind.u8.wrap (Int.fdiv a (2 ^ min 24 IntKind.u32.bits)) = ((a / 16777216 : Nat) : Int) := by rw [p1, fd, w8, Nat.mod_eq_of_lt (by omega)]
  have q2 : IntKind.u8.wrap (Int.fdiv a (2 ^ min 16 IntKind.u32.bits)) = ((a / 65536 % 256 : Nat) : Int) := by rw [p2, fd, w8]
  have q3 : IntKind.u8.wrap (Int.fdiv a (2 ^ min 8 IntKind.u32.bits)) = ((a / 256 % 256 : Nat) : Int) := by rw [p3, fd, w8]
  have q4 : IntKind.u8.wrap (a : Int) = ((a % 256 : Nat) : Int) := w8 a
  have FF := fI @q1 (fI @q2 (fI @q3 (fI @q4 (fI @zh (fI @zl @zb))))); refine gxC ?_; clear FF
  refine zav (fun n B ρ => Ext σ ρ ∧ B 19 = .agg ((zaO a).map fun c => .raw (.int .u8 (c : Nat))) ∧ ∃ (k : Nat) (v : AV), B 4 = v ∧ OwnL σ ρ 1 v (((zaO a).take k).map fun c => zk (zz c)) ∧ B 20 = .raw (.int .i64 k) ∧ k ≤ 4 ∧ n = 4 - k) 4 ?_ ?_
  · refine ⟨by simp (maxDischargeDepth := 30), by simp [zaO, q1, q2, q3, q4], 0, _, rfl, .inl ⟨by simp, by simp⟩, by simp, by omega, by omega⟩
  clear q1 q2 q3 q4 p1 p2 p3 w8 fd
  rintro n B ρ ⟨hE, a19, k, v, a4, hO, a20, hk, rfl⟩ I1 hI1
  have ho4 : (zaO a).length = 4 := rfl
  have hlt4 := zjd h
  by_cases hlt : k < 4
  · have hx : (zaO a)[k]? = some ((zaO a)[k]'(by omega)) := List.getElem?_eq_getElem (by omega)
    have hb := hlt4 _ (List.getElem_mem (l := zaO a) (n := k) (by omega))
    generalize (zaO a)[k]'(by omega) = c at hx hb
    have w1 : IntKind.i64.wrap ((k : Int) + 1) = ((k + 1 : Nat) : Int) := by rw [zq (by omega) (by omega)]; omega
    have w2 : IntKind.i64.wrap (c : Int) = (c : Int) := zq (by omega) (by omega)
    have hI := zeg (c : Int) (by omega) (by omega)
    rw [zin] at hI
    have hlt' : (k : Int) < 4 := by omega
    have hst : ((zaO a).take (k + 1)).map (fun c => zk (zz c)) = ((zaO a).take k).map (fun c => zk (zz c)) ++ [zk (zz c)] := by rw [List.take_add_one, hx]; simp
    (try ((first | with_reducible refine z6 ?_ | with_reducible refine zam ?_ | with_reducible refine zan ?_); simp [-cellOK, a19, a4, a20, hlt', hx, w1, w2, z7, zku, -zB])); repeat' (first | ((first | refine zY ?_ | refine z8 ?_ | refine dN (by decide +kernel) ?_ | refine dC (by decide +kernel) ?_ | refine uP (hI) ?_ | refine .inl ⟨_, .inl (hI), ?_⟩ | (refine zp ?_ ?_ <;> (intro hg; simp only [hg])) | fail) <;> simp [-cellOK, a19, a4, a20, hlt', hx, w1, w2, z7, zku, -zB]) | refine z1 ?_ | refine zH ?_ | (refine zaM ?_; simp only [zaN]; try simp) | (refine zE (fun hc => ?_) (fun hc => ?_) <;> try simp at hc) | fail)
    refine zcU zlr (hO.ext (Ext.new _ _ _ _)) (hE.trans (Ext.new _ _ _ _)) (ys := [zk (zz c)]) (by simp) (.inr rfl) (by simp [zk]) (by simp [ho4, Nat.min_eq_left hk]; omega) ?_
    intro v' τ' hO' hE' _ _
    have FF := fI @a19 (fI @a4 (fI @a20 @w1)); refine gxC ?_; clear FF
    exact hI1 (4 - (k + 1)) _ _ (by omega) ⟨hE', by simp [a19], k + 1, v', by simp, by rw [hst]; exact hO', by simp, by omega, rfl⟩
  · have : k = 4 := by omega
    subst this
    have ht : (zaO a).take 4 = zaO a := rfl
    rw [ht] at hO
    have hj := ziY ((zaO a).map zz) false [46] (by simp [zaO]) (by have := zaC h; unfold zv at this; omega) (by simp [zaO])
    have hls : zM ((zaO a).map zz) false = .sl 1 ((zaO a).map fun c => zk (zz c)) false := by simp [zM]
    rw [hls] at hj
    have FF := fI @a19 (fI @a4 @a20); refine gxC ?_; clear FF
    refine PCalls.useLent1 (b := zk [46]) hj rfl hO ?_
    unfold zv zk
    exact zou
def zaP (a n : Nat) : Bs := zv a ++ [47] ++ zz n
theorem zar (a b : Bs) : zd a ++ zd b = zd (a ++ b) := by
  rw [← zfd (zd a ++ zd b)]
  congr 1
theorem zgD (a n : Nat) (h : a < 4294967296) (hn : n < 100) : PCalls Tryd.prog 19 [.agg [.raw (.int .u32 a), .raw (.int .i64 n)]] (zk (zaP a n)) := by
  have h1 := zbQ a h
  have h2 := zeg n (by omega) (by omega)
  have hl := zaC h
  have hd := zbx n 2 (by omega) (by omega)
  rw [zin] at h2
  refine zL Tryd.func19 rfl (N := 11) rfl rfl (by simp) (by simp [noIds]) fun σ => ?_
  have e1 : (ByteArray.mk #[47]).size = 1 := rfl
  have s1 : ((zd (zv a)).size : Int) + 1 ≤ 9223372036854775807 := by rw [zy]; omega
  have s2 : ((zd (zv a)).size : Int) + 1 + ((zd (zz n)).size : Int) ≤ 9223372036854775807 := by rw [zy, zy]; omega
  have eX : zd (zv a) ++ ByteArray.mk #[47] ++ zd (zz n) = zd (zaP a n) := by
    have : ByteArray.mk #[47] = zd [47] := rfl
    rw [this, zar, zar]; rfl
  unfold zk at *
  generalize zd (zaP a n) = Z at *
  generalize zd (zv a) = X at *
  generalize zd (zz n) = Y at *
  have FF := fI @e1 (fI @s1 (fI @s2 (fI @eX (fI @zh (fI @zl @zb))))); exact zr
def zao (a b : Nat) : Bs := zv a ++ [45] ++ zv b
theorem zdr (a b : Nat) (h : a < 4294967296) (h' : b < 4294967296) : PCalls Tryd.prog 21 [.agg [.raw (.int .u32 a), .raw (.int .u32 b)]] (zk (zao a b)) := by
  have h1 := zbQ a h
  have h2 := zbQ b h'
  have hl := zaC h
  have hd := zaC h'
  refine zL Tryd.func21 rfl (N := 11) rfl rfl (by simp) (by simp [noIds]) fun σ => ?_
  have e1 : (ByteArray.mk #[45]).size = 1 := rfl
  have s1 : ((zd (zv a)).size : Int) + 1 ≤ 9223372036854775807 := by rw [zy]; omega
  have s2 : ((zd (zv a)).size : Int) + 1 + ((zd (zv b)).size : Int) ≤ 9223372036854775807 := by rw [zy, zy]; omega
  have eX : zd (zv a) ++ ByteArray.mk #[45] ++ zd (zv b) = zd (zao a b) := by
    have : ByteArray.mk #[45] = zd [45] := rfl
    rw [this, zar, zar]; rfl
  unfold zk at *
  generalize zd (zao a b) = Z at *
  generalize zd (zv a) = X at *
  generalize zd (zv b) = Y at *
  have FF := fI @e1 (fI @s1 (fI @s2 (fI @eX (fI @zh (fI @zl @zb))))); exact zr
end Go.Proofs.YtckabcbfbpejkaaDoor.Av
namespace Go.Proofs.YtckabcbfbpejkaaDoor.Av
open Go
set_option linter.unusedSimpArgs false
set_option linter.unusedVariables false
theorem zlJ (b : UInt8) : Lib.index [] [b] = -1 := by simp [Lib.index]
theorem zio (b c : UInt8) (l : Bs) : Lib.index (c :: l) [b] = if c = b then 0 else if Lib.index l [b] = -1 then -1 else Lib.index l [b] + 1 := by
  have : ([b] : Bs).isPrefixOf (c :: l) = decide (c = b) := by
    by_cases h : c = b
    · subst h; simp [List.isPrefixOf]
    · have h' : ¬ b = c := fun e => h e.symm
      simp [List.isPrefixOf, h, h']
  rw [Lib.index, this]
  by_cases h : c = b <;> simp [h]
theorem zcA (b : UInt8) : ∀ l : Bs, (Lib.index l [b] = -1 ∧ zf b l = [l] ∧ b ∉ l) ∨ ∃ i : Nat, Lib.index l [b] = i ∧ i < l.length ∧ b ∉ l.take i ∧ zf b l = l.take i :: zf b (l.drop (i + 1))
  | [] => .inl ⟨zlJ b, rfl, by simp⟩
  | c :: l => by
    rw [zio]
    by_cases hc : c = b
    · refine .inr ⟨0, by simp [hc], by simp, by simp, ?_⟩
      simp [zf, hc]
    · rw [if_neg hc]
      have hc' : ¬ b = c := fun e => hc e.symm
      rcases zcA b l with ⟨h1, h2, h3⟩ | ⟨i, h1, h2, h3, h4⟩
      · refine .inl ⟨by simp [h1], ?_, by simp [h3, hc']⟩
        simp [zf, hc, h2]
      · refine .inr ⟨i + 1, ?_, by simp [h2], by simp [h3, hc'], ?_⟩
        · rw [if_neg (by omega), h1]; simp
        · simp [zf, hc, h4]
theorem zi0 (b : UInt8) : ∀ (k : Nat) (s : ByteArray), Lib.countB s (zd [b]) = k → (Lib.splitB (zd [b]) 0 k s).map (·.data.toList) = zf b s.data.toList := by
  intro k
  induction k with
  | zero =>
    intro s hk
    rcases zcA b s.data.toList with ⟨h1, h2, _⟩ | ⟨i, h1, h2, _, h3⟩
    · rw [h2]; rfl
    · have := Lib.countB_hit s (zd [b]) i (by simp [zd, ByteArray.size]) h1
      omega
  | succ k ih =>
    intro s hk
    rcases zcA b s.data.toList with ⟨h1, h2, _⟩ | ⟨i, h1, h2, _, h3⟩
    · have := Lib.countB_miss s (zd [b]) h1
      omega
    · have := Lib.countB_hit s (zd [b]) i (by simp [zd, ByteArray.size]) h1
      rw [Lib.splitB_hit (zd [b]) 0 k s i h1, List.map_cons, ih _ (by omega), h3]
      have e1 : (zd [b]).size = 1 := rfl
      rw [e1, Lib.extract_to_end, Nat.add_zero]
      congr 1
      rw [Lib.extract_data]; simp
theorem ziq (b : UInt8) (s : Bs) : zeT s [b] = zf b s := by
  unfold zeT
  rw [zi0 b _ (zd s) rfl, zaG]
theorem zdM (b : UInt8) (s : Bs) : (Lib.cut s [b] = (s, [], false) ∧ zf b s = [s] ∧ b ∉ s) ∨ ∃ h t, s = h ++ b :: t ∧ b ∉ h ∧ Lib.cut s [b] = (h, t, true) ∧ zf b s = h :: zf b t := by
  rcases zcA b s with ⟨h1, h2, h3⟩ | ⟨i, h1, h2, h3, h4⟩
  · refine .inl ⟨?_, h2, h3⟩
    unfold Lib.cut; rw [h1, if_neg (by omega)]
  · refine .inr ⟨s.take i, s.drop (i + 1), ?_, h3, ?_, h4⟩
    · have hb : s[i] = b := by
        have : ∀ (l : Bs) (i : Nat) (hi : i < l.length), Lib.index l [b] = i → l[i] = b := by
          intro l
          induction l with
          | nil => intro i hi; simp at hi
          | cons c l ih =>
            intro i hi hx
            rw [zio] at hx
            by_cases hc : c = b
            · rw [if_pos hc] at hx
              have : i = 0 := by omega
              subst this; simpa using hc
            · rw [if_neg hc] at hx
              split at hx
              · omega
              · obtain ⟨j, rfl⟩ : ∃ j, i = j + 1 := ⟨i - 1, by have := Lib.index_ge l [b]; omega⟩
                simp only [List.getElem_cons_succ]
                exact ih j (by simpa using hi) (by omega)
        exact this s i h2 h1
      rw [← hb, List.getElem_cons_drop, List.take_append_drop]
    · unfold Lib.cut; rw [h1, if_pos (by omega)]; simp
theorem zb7 (b : UInt8) : ∀ (l : Bs), ∀ x ∈ zf b l, x.length ≤ l.length
  | [] => by simp [zf]
  | c :: l => by
    have ih := zb7 b l
    intro x hx
    unfold zf at hx
    split at hx
    · rcases List.mem_cons.1 hx with rfl | hx
      · simp
      · have := ih x hx; simp; omega
    · cases hp : zf b l with
      | nil => exact absurd hp (zaT b l)
      | cons p ps =>
        rw [hp] at hx ih
        simp only [List.mem_cons] at hx ih
        rcases hx with rfl | hx
        · have := ih p (.inl rfl); simp; omega
        · have := ih x (.inr hx); simp; omega
def zbf : List Bs → Nat → Option Nat
  | [], a => some a
  | x :: r, a => match zag 255 x with | some n => zbf r (a * 256 + n) | none => none
def zS (s : Bs) : Option Nat := if (zf 46 s).length = 4 then zbf (zf 46 s) 0 else none
theorem zfP {m : Nat} {x : Bs} {n : Nat} (h : zag m x = some n) : n ≤ m := (zbn.1 h).2
theorem zir : ∀ (l : List Bs) (a k r : Nat), a < 256 ^ k → zbf l a = some r → r < 256 ^ (k + l.length)
  | [], a, k, r, h, e => by simp only [zbf, Option.some.injEq] at e; subst e; simpa using h
  | x :: l, a, k, r, h, e => by
    unfold zbf at e
    split at e
    · rename_i n hn
      have := zir l _ (k + 1) r (by have := zfP hn; rw [Nat.pow_succ]; omega) e
      rw [List.length_cons]
      rwa [show k + (l.length + 1) = k + 1 + l.length by omega]
    · cases e
theorem zeh {s : Bs} {a : Nat} (h : zS s = some a) : a < 4294967296 := by
  unfold zS at h
  split at h
  · rename_i hl
    have := zir _ 0 0 a (by decide) h
    rw [hl] at this
    simpa using this
  · cases h
def zaD (a n : Nat) : Bool := decide (n ≤ 32) && decide (a % 2 ^ (32 - n) = 0)
def zaQ (s : Bs) : Option (Nat × Nat) := match zS (Lib.cut s [47]).1, zag 32 (Lib.cut s [47]).2.1 with
  | some a, some n => if (Lib.cut s [47]).2.2 = true ∧ zaD a n = true then some (a, n) else none
  | _, _ => none
def zbu (s : Bs) : Option (Nat × Nat) := match zaQ s with
  | some (a, n) => some (a, a + 2 ^ (32 - n) - 1)
  | none => match zS (Lib.cut s [45]).1, zS (Lib.cut s [45]).2.1 with
    | some a, some b => if (Lib.cut s [45]).2.2 = true ∧ a ≤ b then some (a, b) else none
    | _, _ => none
def zcq (o : Option Nat) : AV := match o with | some a => .tup [.raw (.int .u32 a), .raw (.int .i64 0)] | none => .tup [.raw (.int .u32 0), .raw (.int .i64 21)]
def zei (o : Option (Nat × Nat)) : AV := match o with | some (a, n) => .tup [.agg [.raw (.int .u32 a), .raw (.int .i64 n)], .raw (.int .i64 0)] | none => .tup [.agg [.raw (.int .u32 0), .raw (.int .i64 0)], .raw (.int .i64 21)]
def zds (o : Option (Nat × Nat)) : AV := match o with | some (a, b) => .tup [.agg [.raw (.int .u32 a), .raw (.int .u32 b)], .raw (.int .i64 0)] | none => .tup [.agg [.raw (.int .u32 0), .raw (.int .u32 0)], .raw (.int .i64 21)]
end Go.Proofs.YtckabcbfbpejkaaDoor.Av
namespace Go.Proofs.YtckabcbfbpejkaaDoor.Av
open Go
set_option linter.unusedSimpArgs false
set_option linter.unusedVariables false
set_option maxRecDepth 100000
set_option maxHeartbeats 4000000
set_option pp.maxSteps 600
theorem zlK {a n : Nat} (ha : a < 16777216) (hn : n < 256) : IntKind.u32.wrap (((((a * 256 : Nat) : Int) % 2 ^ IntKind.u32.bits).toNat ||| ((n : Int) % 2 ^ IntKind.u32.bits).toNat : Nat) : Int) = ((a * 256 + n : Nat) : Int) := by
  rw [zcp (by omega) (by omega), zcp (by omega) (by omega), Int.toNat_natCast, Int.toNat_natCast]
  have e : a * 256 ||| n = a * 256 + n := by
    have := Nat.two_pow_add_eq_or_of_lt (b := n) (i := 8) (by omega) a
    rw [Nat.mul_comm]; exact this.symm
  rw [e, zbM (by omega) (by omega)]
theorem zcW (x : Bs) (r : List Bs) (a : Nat) : zbf (x :: r) a = match zag 255 x with | some n => zbf r (a * 256 + n) | none => none := rfl
theorem zis (o : Option Nat) : noIds (zcq o) := by unfold zcq noIds; split <;> simp [AV.ids, zg]
theorem za9 (s : Bs) (hs : s.length ≤ 1000) : PCalls Tryd.prog 28 [zk s] (zcq (zS s)) := by
  have hS := ziX s [46] (by omega) (by simp)
  rw [ziq] at hS
  have hlen := zb7 46 s
  refine zL Tryd.func28 rfl (N := 35) rfl rfl (by simp) (zis _) fun σ => ?_
  unfold zS
  generalize zf 46 s = ps at *
  by_cases h4 : ps.length = 4
  · rw [if_pos h4]
    obtain ⟨T, hT⟩ : ∃ T, zbf ps 0 = T := ⟨_, rfl⟩
    rw [hT]
    have h4' : (ps.length : Int) = 4 := by omega
    have FF := fI zM.eq_1 @h4'; refine gxC ?_; clear FF
    refine zav (fun n B ρ => Ext σ ρ ∧ B 15 = zM ps true ∧ B 16 = .raw (.int .i64 4) ∧ ∃ k a : Nat, B 17 = .raw (.int .i64 k) ∧ k ≤ 4 ∧ n = 4 - k ∧ B 5 = .raw (.int .u32 a) ∧ a < 256 ^ k ∧ zbf (ps.drop k) a = T) 4 ?_ ?_
    · exact ⟨by simp (maxDischargeDepth := 30), by simp [zM], by simp [h4'], 0, 0, by simp, by omega, by omega, by simp, by decide, by simpa using hT⟩
    rintro n B ρ ⟨hE, a15, a16, k, a, a17, hk, rfl, a5, ha, hf⟩ I1 hI1
    by_cases hlt : k < 4
    · have hkl : k < ps.length := by omega
      have hx : ps[k]? = some ps[k] := List.getElem?_eq_getElem hkl
      have w1 : IntKind.i64.wrap ((k : Int) + 1) = ((k + 1 : Nat) : Int) := by rw [zq (by omega) (by omega)]; omega
      have hlt' : (k : Int) < 4 := by omega
      have hN := zeU 255 ps[k] (by omega) (by have := hlen _ (List.getElem_mem hkl); omega)
      have hd : ps.drop k = ps[k] :: ps.drop (k + 1) := (List.getElem_cons_drop hkl).symm
      rw [hd] at hf
      generalize ps[k] = x at *
      unfold zim at hN
      have ha24 : a < 16777216 := Nat.lt_of_lt_of_le ha (by have : 256 ^ k ≤ 256 ^ 3 := Nat.pow_le_pow_right (by omega) (by omega); simpa using this)
      cases hn : zag 255 x with
      | none =>
        rw [hn] at hN
        rw [zcW, hn] at hf
        simp only [] at hf
        subst hf
        have hr : zcq none = .tup [.raw (.int .u32 0), .raw (.int .i64 21)] := rfl
        rw [hr]
        have FF := fI zM.eq_1 (fI @a15 (fI @a16 (fI @a17 (fI @a5 (fI @hlt' (fI @hx @z7)))))); exact zr
      | some c =>
        have e0 := zhO hn (by omega)
        have hc := zfP hn
        rw [hn, e0] at hN
        rw [zcW, hn] at hf
        simp only [] at hf
        obtain ⟨y, hy⟩ : ∃ y, a * 256 + c = y := ⟨_, rfl⟩
        have p8 : (2 : Int) ^ min 8 IntKind.u32.bits = (256 : Nat) := by decide
        have e1 : IntKind.u32.wrap ((a : Int) * 2 ^ min 8 IntKind.u32.bits) = ((a * 256 : Nat) : Int) := by rw [p8, zbM (by omega) (by omega)]; omega
        have e2 : IntKind.u32.wrap (c : Int) = c := zbM (by omega) (by omega)
        have e3 := zlK ha24 (n := c) (by omega)
        rw [hy] at e3 hf
        have hy2 : y < 256 ^ (k + 1) := by rw [Nat.pow_succ]; omega
        generalize a * 256 = m at *
        have FF := fI zM.eq_1 (fI @a15 (fI @a16 (fI @a17 (fI @a5 (fI @hlt' (fI @hx (fI @z7 (fI @e1 (fI @e2 (fI @e3 @w1)))))))))); refine gxC ?_; clear FF
        exact hI1 (4 - (k + 1)) _ _ (by omega) ⟨hE, by simp [a15, zM], by simp [a16], k + 1, y, by simp, by omega, rfl, by simp, hy2, hf⟩
    · have : k = 4 := by omega
      subst this
      rw [List.drop_eq_nil_of_le (by omega)] at hf
      subst hf
      have hf0 : zbf [] a = some a := rfl
      rw [hf0]
      have hr : zcq (some a) = .tup [.raw (.int .u32 a), .raw (.int .i64 0)] := rfl
      rw [hr]
      have FF := fI @a15 (fI @a16 (fI @a17 @a5)); exact zr
  · rw [if_neg h4]
    have h4' : ¬ (ps.length : Int) = 4 := by omega
    have hr : zcq none = .tup [.raw (.int .u32 0), .raw (.int .i64 21)] := rfl
    rw [hr]
    have FF := fI zM.eq_1 @h4'; exact zr
theorem zje (s : Bs) (b : UInt8) : (Lib.cut s [b]).1.length ≤ s.length ∧ (Lib.cut s [b]).2.1.length ≤ s.length := by
  rcases zdM b s with ⟨h, _, _⟩ | ⟨x, y, e, _, h, _⟩
  · rw [h]; simp
  · rw [h, e]; simp; omega
theorem zbR (a n : Nat) : zD ⟨a, n⟩ = zaD a n := by
  have e : (2 : Int) ^ (32 - n) = ((2 ^ (32 - n) : Nat) : Int) := by simp
  have e2 : ((a : Int) % 2 ^ (32 - n) = 0) ↔ a % 2 ^ (32 - n) = 0 := by rw [e]; omega
  simp only [zD, zaD, Int.toNat_natCast, e2]
  rw [Bool.eq_iff_iff]
  simp only [Bool.and_eq_true, decide_eq_true_eq]
  constructor
  · rintro ⟨_, h, k⟩; exact ⟨by omega, k⟩
  · rintro ⟨h, k⟩; exact ⟨by omega, by omega, k⟩
theorem zhh (o : Option (Nat × Nat)) : noIds (zei o) := by unfold zei noIds; split <;> simp [AV.ids, zg]
theorem zhi (o : Option (Nat × Nat)) : noIds (zds o) := by unfold zds noIds; split <;> simp [AV.ids, zg]
theorem zaq : zei none = .tup [.agg [.raw (.int .u32 0), .raw (.int .i64 0)], .raw (.int .i64 21)] := rfl
theorem zbS (a n : Nat) : zei (some (a, n)) = .tup [.agg [.raw (.int .u32 a), .raw (.int .i64 n)], .raw (.int .i64 0)] := rfl
theorem zaR : zds none = .tup [.agg [.raw (.int .u32 0), .raw (.int .u32 0)], .raw (.int .i64 21)] := rfl
theorem zai (a n : Nat) : zds (some (a, n)) = .tup [.agg [.raw (.int .u32 a), .raw (.int .u32 n)], .raw (.int .i64 0)] := rfl
theorem zba : zcq none = .tup [.raw (.int .u32 0), .raw (.int .i64 21)] := rfl
theorem zaU (a : Nat) : zcq (some a) = .tup [.raw (.int .u32 a), .raw (.int .i64 0)] := rfl
theorem zcB (s : Bs) (hs : s.length ≤ 1000) : PCalls Tryd.prog 30 [zk s] (zei (zaQ s)) := by
  have hC := zgB s [47] (by omega)
  obtain ⟨l1, l2⟩ := zje s 47
  have hA := za9 (Lib.cut s [47]).1 (by omega)
  have hN := zeU 32 (Lib.cut s [47]).2.1 (by omega) (by omega)
  have lt := fun a => zeh (s := (Lib.cut s [47]).1) (a := a)
  have ai := fun n => zhO (most := 32) (s := (Lib.cut s [47]).2.1) (n := n)
  unfold zaQ
  unfold zim at hN
  generalize (Lib.cut s [47]).1 = h at *
  generalize (Lib.cut s [47]).2.1 = t at *
  generalize (Lib.cut s [47]).2.2 = b at *
  refine zL Tryd.func30 rfl (N := 48) rfl rfl (by simp) (zhh _) fun σ => ?_
  cases ha : zS h with
  | none =>
    rw [ha, zba] at hA
    generalize zag 32 t = o at *
    rw [zaq]
    cases b
    all_goals
      have FF := fI @zh (fI @zl @zb); exact zr
  | some a =>
    have la := lt a ha
    rw [ha, zaU] at hA
    cases hn : zag 32 t with
    | none =>
      rw [hn] at hN
      simp only []
      rw [zaq]
      cases b
      all_goals
        have FF := fI @zh (fI @zl @zb); exact zr
    | some n =>
      rw [hn, ai n hn (by omega)] at hN
      have hR := zcz ⟨a, n⟩ (by simp) (by simp; omega)
      rw [zbR] at hR
      unfold zab at hR
      simp only []
      cases b with
      | false =>
        rw [if_neg (by simp), zaq]
        have FF := fI @zh (fI @zl @zb); exact zr
      | true =>
        cases hr : zaD a n with
        | true =>
          rw [hr] at hR
          rw [if_pos ⟨rfl, rfl⟩, zbS]
          have FF := fI @zh (fI @zl @zb); exact zr
        | false =>
          rw [hr] at hR
          rw [if_neg (by simp), zaq]
          have FF := fI @zh (fI @zl @zb); exact zr
end Go.Proofs.YtckabcbfbpejkaaDoor.Av
namespace Go.Proofs.YtckabcbfbpejkaaDoor.Av
open Go
set_option linter.unusedSimpArgs false
set_option linter.unusedVariables false
set_option maxRecDepth 100000
set_option maxHeartbeats 4000000
set_option pp.maxSteps 600
theorem zgE {s : Bs} {a n : Nat} (h : zaQ s = some (a, n)) : zS (Lib.cut s [47]).1 = some a ∧ zag 32 (Lib.cut s [47]).2.1 = some n ∧ (Lib.cut s [47]).2.2 = true ∧ zaD a n = true := by
  unfold zaQ at h
  split at h
  · rename_i a' n' h1 h2
    split at h
    · rename_i hc
      simp only [Option.some.injEq, Prod.mk.injEq] at h
      obtain ⟨rfl, rfl⟩ := h
      exact ⟨h1, h2, hc.1, hc.2⟩
    · cases h
  · cases h
theorem zbT {a n : Nat} (h : zaD a n = true) : zaI ⟨a, n⟩ = zds (some (a, a + 2 ^ (32 - n) - 1)) := by
  unfold zaI
  rw [zbR, h, if_pos rfl, zai]
  have h2 : 0 < 2 ^ (32 - n) := Nat.pow_pos (by omega)
  have e : (a : Int) + 2 ^ (32 - n) - 1 = ((a + 2 ^ (32 - n) - 1 : Nat) : Int) := by
    have : (2 : Int) ^ (32 - n) = ((2 ^ (32 - n) : Nat) : Int) := by simp
    rw [this]; omega
  simp only [Int.toNat_natCast, e]; rfl
theorem zb1 (s : Bs) (hs : s.length ≤ 1000) : PCalls Tryd.prog 32 [zk s] (zds (zbu s)) := by
  have hP := zcB s hs
  refine zL Tryd.func32 rfl (N := 59) rfl rfl (by simp) (zhi _) fun σ => ?_
  unfold zbu
  cases hp : zaQ s with
  | some p =>
    obtain ⟨a, n⟩ := p
    obtain ⟨h1, _, _, h4⟩ := zgE hp
    have la := zeh h1
    have hR := zbz ⟨a, n⟩ (by simp) (by simp; omega)
    rw [zbT h4] at hR
    rw [hp, zbS] at hP
    simp only []
    unfold zab at hR
    generalize a + 2 ^ (32 - n) - 1 = e at *
    rw [zai] at hR ⊢
    have FF := fI @zh (fI @zl @zb); exact zr
  | none =>
    rw [hp, zaq] at hP
    simp only []
    clear hp
    have hC := zgB s [45] (by omega)
    obtain ⟨l1, l2⟩ := zje s 45
    have hA := za9 (Lib.cut s [45]).1 (by omega)
    have hB := za9 (Lib.cut s [45]).2.1 (by omega)
    generalize (Lib.cut s [45]).1 = h at *
    generalize (Lib.cut s [45]).2.1 = t at *
    generalize (Lib.cut s [45]).2.2 = b at *
    cases ha : zS h with
    | none =>
      rw [ha, zba] at hA
      rw [zaR]
      cases hb : zS t with
      | none =>
        rw [hb, zba] at hB
        cases b
        all_goals
          have FF := fI @zh (fI @zl @zb); exact zr
      | some c =>
        rw [hb, zaU] at hB
        cases b
        all_goals
          have FF := fI @zh (fI @zl @zb); exact zr
    | some a =>
      rw [ha, zaU] at hA
      cases hb : zS t with
      | none =>
        rw [hb, zba] at hB
        simp only []
        rw [zaR]
        cases b
        all_goals
          have FF := fI @zh (fI @zl @zb); exact zr
      | some c =>
        rw [hb, zaU] at hB
        simp only []
        by_cases hle : a ≤ c
        · have hle' : ¬ c < a := by omega
          cases b
          · rw [if_neg (by simp), zaR]
            have FF := fI @hle (fI @hle' (fI @zh (fI @zl @zb))); exact zr
          · rw [if_pos ⟨rfl, hle⟩, zai]
            have FF := fI @hle (fI @hle' (fI @zh (fI @zl @zb))); exact zr
        · have hle' : c < a := by omega
          rw [if_neg (by simp [hle]), zaR]
          cases b
          all_goals
            have FF := fI @hle (fI @hle' (fI @zh (fI @zl @zb))); exact zr
end Go.Proofs.YtckabcbfbpejkaaDoor.Av
