/- The law PrefixNested Part 16 of 19: AvS1, AvS2, AvS3, AvP6, AvS4, AvS5. -/
import Derived.Test.YtckabcbfbpejkaaDoorPn3
import Derived.Test.YtckabcbfbpejkaaDoorPn8
import Derived.Test.YtckabcbfbpejkaaDoorPn9
import Derived.Test.YtckabcbfbpejkaaDoorPn10
import Derived.Test.YtckabcbfbpejkaaDoorPn15
import Derived.Lib.SmallJoins
import Derived.Lib.AppendIntMem
import Derived.Lib.SplitLaws
namespace Go.Proofs.YtckabcbfbpejkaaDoor.Av
open Go Go.RowKit
set_option linter.unusedSimpArgs false
set_option linter.unusedVariables false
set_option maxRecDepth 100000
set_option maxHeartbeats 4000000
def zO (l : Bs) : ByteArray := ⟨l.toArray⟩
def zI (l : Bs) : AV := .raw (.string (zO l))
theorem zaD (l : Bs) : (zO l).data.toList = l := by simp [zO]
theorem zcq (l : Bs) : (zO l).size = l.length := by simp [zO, ByteArray.size]
theorem zjy (b : ByteArray) : zO b.data.toList = b := by cases b; simp [zO]
@[simp] theorem zjz (K : Id → Prop) (l : Bs) : (zI l).ids K := by simp [zI, AV.ids]
theorem zhP {S : Ctx} (g : GlobOK S) (b : Nat) (h : b < zes) : ∃ c : Array Value, (∀ i, S.w.cell? ⟨b, i, none⟩ = c[i]?) ∧ zjc b c := by
  obtain ⟨_, c, t, fz, e, q⟩ := g b h
  exact ⟨c, fun i => by simp [World.cell?, e], q⟩
theorem zkh {S : Ctx} (g : GlobOK S) : Lib.TabIs Tryd.prog S.w "internal/strconv.uint64pow10" .u64 Lib.pow10Tab := by
  obtain ⟨_, c, t, fz, h, q⟩ := g 2 (by decide)
  have hg : Tryd.prog.globalNamed "internal/strconv.uint64pow10" = some 2 := by kernel_rfl
  unfold Lib.TabIs World.var?
  rw [hg]
  simp only [Option.bind_some, h]
  rw [q.2.1 rfl]
theorem zis {S : Ctx} (g : GlobOK S) : ∃ m, S.w.cell? ⟨1, 0, none⟩ = some (.int .i64 m) := by
  obtain ⟨c, h, q⟩ := zhP g 1 (by decide)
  obtain ⟨m, hm⟩ := q.1 rfl
  exact ⟨m, (h 0).trans hm⟩
theorem zit {S : Ctx} (g : GlobOK S) (b : Nat) (hb : b = 3 ∨ b = 4) : ∃ ev, S.w.cell? ⟨b, 0, none⟩ = some ev ∧ (ev = .nilIface ∨ ∃ te pe, ev = .iface te pe) := by
  obtain ⟨c, h, q⟩ := zhP g b (by rcases hb with rfl | rfl <;> decide)
  obtain ⟨ev, h1, h2⟩ := q.2.2.2 hb
  exact ⟨ev, (h 0).trans h1, h2⟩
theorem ze7 (n : Int) (h0 : -9223372036854775808 ≤ n) (h1 : n ≤ 9223372036854775807) : PCalls Tryd.prog 47 [.raw (.int .i64 n)] (zI (Lib.itoa n)) :=
  za3 (zaK Tryd.func47 (by kernel_rfl) rfl) (by simp [noIds]) fun S vs g hl => by
    simp only [LRel, VRel] at hl
    obtain ⟨v, us, rfl, rfl, rfl⟩ := hl
    refine (Tryd.strconv_Itoa n h0 h1 S.w (zkh g)).mono ?_
    rintro e w' ⟨rfl, k, os, rfl⟩
    exact ⟨_, rfl, Lib.below_grow _ _ (Nat.le_refl _) _ _, by simp [VRel, zI, zO]⟩
def zfW (s : Bs) : AV := match Lib.atoiAll s with | .ok v => .tup [.raw (.int .i64 v), .raw .nilIface] | .range => .tup [.raw (.int .i64 (Lib.atoiSat s)), .ifc 133 .any] | _ => .tup [.raw (.int .i64 0), .ifc 133 .any]
theorem zhQ (s : Bs) (hl : s.length ≤ 1000) : PCalls Tryd.prog 79 [zI s] (zfW s) :=
  za3 (zaK Tryd.func79 (by kernel_rfl) rfl) (by unfold zfW noIds; split <;> simp [AV.ids, zd]) fun S vs g hl' => by
    simp only [LRel, VRel, zI] at hl'
    obtain ⟨v, us, rfl, rfl, rfl⟩ := hl'
    have hsz := zcq s
    unfold zfW
    split
    · rename_i v hv
      refine (Tryd.strconv_Atoi_ok (zO s) (by omega) v (by rw [zaD]; exact hv) S.w).mono ?_
      rintro e w' ⟨rfl, h⟩
      refine ⟨_, rfl, ?_, by simp [VRel, LRel]⟩
      rcases h with rfl | ⟨t, rfl⟩
      · exact Below.refl _ _
      · exact Joins.below_bytesWorld _ _ _ _ (Nat.le_refl _)
    · rename_i hv
      obtain ⟨ev, q1, q2⟩ := zit g 4 (.inr rfl)
      refine (Tryd.strconv_Atoi_range (zO s) (by omega) (by rw [zaD]; exact hv) ev S.w q1 q2).mono ?_
      rintro e w' ⟨M, rfl, h1, h2, h3⟩
      refine ⟨_, rfl, h3, ?_⟩
      simp only [VRel, LRel, zaD]
      exact ⟨_, rfl, _, _, rfl, rfl, _, _, rfl, ⟨_, rfl, trivial⟩, rfl⟩
    · rename_i h1' h2'
      have hv : Lib.atoiAll s = Lib.atoiAll [] := by
        have e0 : ∀ r : Lib.NumEnd Int, (∀ v, r = .ok v → False) → (r = .range → False) → r = Lib.atoiAll [] := fun r k1 k2 => by cases r; exact (k1 _ rfl).elim; rfl; exact (k2 rfl).elim
        exact e0 _ h1' h2'
      obtain ⟨ev, q1, q2⟩ := zit g 3 (.inl rfl)
      refine (Tryd.strconv_Atoi_syntax (zO s) (by omega) (by rw [zaD]; exact hv) ev S.w q1 q2).mono ?_
      rintro e w' ⟨M, rfl, h1, h2, h3⟩
      refine ⟨_, rfl, h3, ?_⟩
      simp only [VRel, LRel]
      exact ⟨_, rfl, _, _, rfl, rfl, _, _, rfl, ⟨_, rfl, trivial⟩, rfl⟩
theorem zhR (s sep : Bs) (hs : s.length < 4294967281) : PCalls Tryd.prog 56 [zI s, zI sep] (.tup [zI (Lib.cut s sep).1, zI (Lib.cut s sep).2.1, .raw (.bool (Lib.cut s sep).2.2)]) :=
  za3 (zaK Tryd.func56 (by kernel_rfl) rfl) (by simp [noIds, AV.ids, zd]) fun S vs g hl => by
    simp only [LRel, VRel, zI] at hl
    obtain ⟨v, us, rfl, rfl, v2, us2, rfl, rfl, rfl⟩ := hl
    obtain ⟨m, hm⟩ := zis g
    refine (Tryd.strings_Cut (zO s) (zO sep) m S.w (by rw [zcq]; exact hs) hm).mono ?_
    rintro e w' ⟨rfl, n, rfl⟩
    exact ⟨_, rfl, ⟨rfl, rfl, rfl, Nat.le_refl _, fun _ _ => rfl⟩, by simp [VRel, LRel, zI, zaD]; simp [zO]⟩
def zaP (l : List Bs) (f : Bool) : AV := .sl 1 (l.map zI) f
theorem zgF (K : Id → Prop) : ∀ l : List Bs, zd K (l.map zI)
  | [] => by simp [zd]
  | a :: l => by simp only [List.map_cons, zd]; exact ⟨zjz K a, zgF K l⟩
@[simp] theorem zmM (K : Id → Prop) (l : List Bs) (f : Bool) : (zaP l f).ids K := by simp only [zaP, AV.ids]; exact zgF K l
def zdL (s sep : Bs) : List Bs := (Lib.splitB (zO sep) 0 (Lib.countB (zO s) (zO sep)) (zO s)).map (·.data.toList)
theorem zha (s sep : Bs) (hs : s.length < 4294967281) (h1 : 1 ≤ sep.length) : PCalls Tryd.prog 52 [zI s, zI sep] (zaP (zdL s sep) true) :=
  za3 (zaK Tryd.func52 (by kernel_rfl) rfl) (by simp [noIds]) fun S vs g hl => by
    simp only [LRel, VRel, zI] at hl
    obtain ⟨v, us, rfl, rfl, v2, us2, rfl, rfl, rfl⟩ := hl
    obtain ⟨m, hm⟩ := zis g
    have hlen := Lib.splitB_all (zO sep) (by rw [zcq]; exact h1) 0 _ (zO s) rfl
    refine (Tryd.strings_Split (zO s) (zO sep) m S.w (by rw [zcq]; exact hs) hm (by rw [zcq]; exact h1)).mono ?_
    rintro e w' ⟨rfl, rfl⟩
    refine ⟨_, rfl, (Below.refl _ _).alloc (Nat.le_refl _) _, ?_⟩
    have hes : (zdL s sep).map zI = ((Lib.splitB (zO sep) 0 (Lib.countB (zO s) (zO sep)) (zO s)).map Value.string).map .raw := by
      simp only [zdL, List.map_map]
      refine List.map_congr_left fun b _ => ?_
      simp only [Function.comp, zI, zjy]
    simp only [VRel, zaP, hes]
    refine ⟨_, _, by simp only [List.length_map, hlen]; rfl, by simp only [List.length_map, hlen]; exact Nat.le_refl _, fun _ => by simp only [List.length_map, hlen], fun _ => ⟨_, 0, rfl, zhK (Nat.le_refl _) (by simp), ERel.raws fun j v hj => ?_⟩⟩
    show (S.w.alloc _).cell? _ = _
    simp only [World.cell?, World.alloc, Nat.zero_add]
    simp at hj ⊢
    exact hj
theorem zhb (l : List Bs) (f : Bool) (sep : Bs) (h1 : l.length ≤ 140737488355328) (h2 : (Lib.join l sep).length ≤ 140737488355328) (hne : l ≠ []) : PCalls Tryd.prog 48 [zaP l f, zI sep] (zI (Lib.join l sep)) :=
  za3 (zaK Tryd.func48 (by kernel_rfl) rfl) (by simp [noIds]) fun S vs g hl => by
    simp only [LRel, VRel, zI, zaP, List.length_map] at hl
    obtain ⟨v, us, rfl, ⟨base, cap, rfl, hc, _, hb⟩, v2, us2, rfl, rfl, rfl⟩ := hl
    obtain ⟨b, o, rfl, hfz, hE⟩ := hb (by simpa using hne)
    have hxs : (l.map zO).map (·.data.toList) = l := by
      rw [List.map_map]
      conv => rhs; rw [← List.map_id l]
      exact List.map_congr_left fun x _ => zaD x
    have hj := Tryd.strings_Join b o cap (l.map zO) (zO sep) S.w (fun j x hx => ?_) hfz.1 (by simpa using h1) (by simpa using hc) (by rw [hxs, zaD]; exact h2)
    · rw [hxs, zaD, List.length_map] at hj
      refine hj.mono ?_
      rintro e w' ⟨rfl, h⟩
      exact ⟨_, rfl, h, by simp [VRel, zI, zO]⟩
    · rw [List.getElem?_map] at hx
      obtain ⟨y, hy, rfl⟩ := Option.map_eq_some_iff.1 hx
      have hg := hE.get (i := j) (e := zI y) (by rw [List.getElem?_map, hy]; rfl)
      simp only [zI, AV.cells, CRel, VRel, Nat.mul_one] at hg
      obtain ⟨u, h3, h4⟩ := hg.2.1
      rw [h3, h4]
theorem zi5 (x : Nat) (hx : x < 18446744073709551616) : PCalls Tryd.prog 76 [.raw (.int .u64 x)] (.raw (.int .i64 (Lib.ctz 64 x))) :=
  za3 (zaK Tryd.func76 (by kernel_rfl) rfl) (by simp [noIds]) fun S vs g hl => by
    simp only [LRel, VRel] at hl
    obtain ⟨v, us, rfl, rfl, rfl⟩ := hl
    refine (Any7.bits_TrailingZeros64 Tryd.lays7n29 x hx S.w fun _ j hj => ?_).mono ?_
    · obtain ⟨c, h, q⟩ := zhP g 0 (by decide)
      exact (h j).trans (q.2.2.1 rfl j hj)
    · rintro e w' ⟨rfl, rfl⟩
      exact ⟨_, rfl, Below.refl _ _, by simp [VRel]⟩
end Go.Proofs.YtckabcbfbpejkaaDoor.Av
namespace Go.Proofs.YtckabcbfbpejkaaDoor.Av
open Go
set_option linter.unusedSimpArgs false
set_option linter.unusedVariables false
set_option maxRecDepth 100000
set_option maxHeartbeats 4000000
set_option pp.maxSteps 600
structure Pf where
  addr : Int
  len : Int
deriving DecidableEq
def zbq (p : Pf) : AV := .agg [.raw (.int .u32 p.addr), .raw (.int .i64 p.len)]
def rgA (a b : Int) : AV := .agg [.raw (.int .u32 a), .raw (.int .u32 b)]
@[simp] theorem zjA (K : Id → Prop) (a b : Int) : (rgA a b).ids K := by simp [rgA, AV.ids, zd]
theorem zbz {a : Int} (h0 : 0 ≤ a) (h1 : a < 4294967296) : (a % 2 ^ IntKind.u32.bits).toNat = a.toNat := by
  have : (2 : Int) ^ IntKind.u32.bits = 4294967296 := by decide
  rw [this]; omega
theorem zgG {m : Nat} (hm : m ≤ 32) : (0 : Int) ≤ 2 ^ m - 1 ∧ (2 : Int) ^ m - 1 < 4294967296 ∧ ((2 : Int) ^ m - 1).toNat = 2 ^ m - 1 ∧ (2 : Int) ^ m = ((2 ^ m : Nat) : Int) ∧ 0 < 2 ^ m ∧ 2 ^ m ≤ 2 ^ 32 := by
  have hp : (2 : Int) ^ m = ((2 ^ m : Nat) : Int) := by simp
  have hb : 2 ^ m ≤ 2 ^ 32 := Nat.pow_le_pow_right (by omega) hm
  have h2 : 0 < 2 ^ m := Nat.pow_pos (by omega)
  exact ⟨by omega, by omega, by omega, hp, h2, hb⟩
theorem zi6 (a : Int) (m : Nat) (h0 : 0 ≤ a) (h1 : a < 4294967296) (hm : m ≤ 32) : IntKind.u32.wrap (((a % 2 ^ IntKind.u32.bits).toNat &&& (((2 : Int) ^ m - 1) % 2 ^ IntKind.u32.bits).toNat : Nat) : Int) = a % 2 ^ m := by
  obtain ⟨p1, p2, p3, p4, p5, p6⟩ := zgG hm
  obtain ⟨n, rfl⟩ : ∃ n : Nat, a = n := ⟨a.toNat, by omega⟩
  rw [zbz h0 h1, zbz p1 p2, p3, Nat.and_two_pow_sub_one_eq_mod, Int.toNat_natCast]
  have := Nat.mod_le n (2 ^ m)
  rw [zb7 (by omega) (by omega), p4]
  rfl
theorem zjB (a : Int) (m : Nat) (h0 : 0 ≤ a) (h1 : a < 4294967296) (hm : m ≤ 32) (hd : a % 2 ^ m = 0) : IntKind.u32.wrap (((a % 2 ^ IntKind.u32.bits).toNat ||| (((2 : Int) ^ m - 1) % 2 ^ IntKind.u32.bits).toNat : Nat) : Int) = a + 2 ^ m - 1 := by
  obtain ⟨p1, p2, p3, p4, p5, p6⟩ := zgG hm
  obtain ⟨n, rfl⟩ : ∃ n : Nat, a = n := ⟨a.toNat, by omega⟩
  rw [zbz h0 h1, zbz p1 p2, p3]
  have hd' : n % 2 ^ m = 0 := by rw [p4] at hd; omega
  have e3 : ((n : Int).toNat ||| (2 ^ m - 1)) = n + (2 ^ m - 1) := by
    rw [Int.toNat_natCast]
    obtain ⟨q, rfl⟩ := Nat.dvd_of_mod_eq_zero hd'
    exact (Nat.two_pow_add_eq_or_of_lt (by omega) q).symm
  have h3 : ((n : Int).toNat ||| (2 ^ m - 1)) < 2 ^ 32 := Nat.or_lt_two_pow (by omega) (by omega)
  rw [e3] at h3 ⊢
  rw [zb7 (by omega) (by omega), p4]
  omega
theorem ze8 (n : Nat) (hn : n ≤ 32) : PCalls Tryd.prog 46 [.raw (.int .i64 n)] (.raw (.int .u32 (2 ^ (32 - n) - 1))) := by
  refine zbp Tryd.func46 rfl (N := 8) rfl rfl (by simp) (by simp [noIds]) fun σ => ?_
  have hall : ∀ m, m < 33 → IntKind.u64.wrap (2 ^ min m IntKind.u64.bits) = 2 ^ m ∧ IntKind.u64.wrap ((2 : Int) ^ m - 1) = 2 ^ m - 1 ∧ IntKind.u32.wrap ((2 : Int) ^ m - 1) = 2 ^ m - 1 := by decide
  have e1 : IntKind.i64.wrap (32 - (n : Int)) = ((32 - n : Nat) : Int) := by rw [zbQ (by omega) (by omega)]; omega
  obtain ⟨m, hm⟩ : ∃ m, 32 - n = m := ⟨_, rfl⟩
  obtain ⟨q1, q2, q3⟩ := hall m (by omega)
  rw [hm] at e1 ⊢
  have e0 : (0 : Int) ≤ m := by omega
  have e9 : ((m : Int)).toNat = m := by omega
  have FF := fI @e1 (fI @e0 (fI @e9 (fI @q1 (fI @q2 @q3)))); exact gxA
def zar (p : Pf) : Bool := decide (0 ≤ p.len) && (decide (p.len ≤ 32) && decide (p.addr % 2 ^ (32 - p.len.toNat) = 0))
theorem zbH (p : Pf) (h0 : 0 ≤ p.addr) (h1 : p.addr < 4294967296) : PCalls Tryd.prog 13 [zbq p] (.raw (.bool (zar p))) := by
  refine zbp Tryd.func13 rfl (N := 20) rfl rfl (by simp) (by simp [noIds]) fun σ => ?_
  obtain ⟨a, l⟩ := p
  by_cases c1 : 0 ≤ l
  · obtain ⟨n, rfl⟩ : ∃ n : Nat, l = n := ⟨l.toNat, by omega⟩
    by_cases c2 : n ≤ 32
    · have hc := ze8 n c2
      have e := zi6 a (32 - n) h0 h1 (by omega)
      have c3 : (a % 2 ^ (32 - n) = 0) = True ∨ (a % 2 ^ (32 - n) = 0) = False := by by_cases h : a % 2 ^ (32 - n) = 0 <;> simp [h]
      have c2' : (n : Int) ≤ 32 := by omega
      have hr : zar ⟨a, n⟩ = decide (a % 2 ^ (32 - n) = 0) := by simp [zar]; omega
      rw [hr]
      rcases c3 with c3 | c3
      all_goals
        have FF := fI zbq.eq_1 (fI @c1 (fI @c2' (fI @e (fI @c3 (fI @zV (fI @zZ @zo)))))); exact gxA
    · have c2' : ¬ (n : Int) ≤ 32 := by omega
      have hr : zar ⟨a, n⟩ = false := by simp [zar, c2]; omega
      rw [hr]
      have FF := fI zbq.eq_1 (fI @c1 (fI @c2' (fI @zV (fI @zZ @zo)))); exact gxA
  · have hr : zar ⟨a, l⟩ = false := by simp [zar, c1]
    rw [hr]
    have FF := fI zbq.eq_1 (fI @c1 (fI @zV (fI @zZ @zo))); exact gxA
def za7 (p : Pf) : AV := if zar p then .tup [rgA p.addr (p.addr + 2 ^ (32 - p.len.toNat) - 1), .raw (.int .i64 0)] else .tup [rgA 0 0, .raw (.int .i64 21)]
theorem zcD (p : Pf) (h0 : 0 ≤ p.addr) (h1 : p.addr < 4294967296) : PCalls Tryd.prog 15 [zbq p] (za7 p) := by
  have hr := zbH p h0 h1
  refine zbp Tryd.func15 rfl (N := 17) rfl rfl (by simp) (by unfold za7 noIds; split <;> simp [AV.ids, zd, zjA]) fun σ => ?_
  cases hb : zar p with
  | false =>
    have e : za7 p = .tup [rgA 0 0, .raw (.int .i64 21)] := by unfold za7; rw [hb]; rfl
    rw [hb] at hr
    rw [e]
    unfold zbq at *
    have FF := fI rgA.eq_1 (fI @zV (fI @zZ @zo)); exact gxA
  | true =>
    obtain ⟨a, l⟩ := p
    have e : za7 ⟨a, l⟩ = .tup [rgA a (a + 2 ^ (32 - l.toNat) - 1), .raw (.int .i64 0)] := by unfold za7; rw [hb]; rfl
    rw [hb] at hr
    rw [e]
    unfold zar at hb
    simp only [Bool.and_eq_true, decide_eq_true_eq] at hb
    obtain ⟨k1, k2, k3⟩ := hb
    obtain ⟨n, rfl⟩ : ∃ n : Nat, l = n := ⟨l.toNat, by omega⟩
    have k4 : ((n : Int)).toNat = n := by omega
    simp only [k4] at k3 ⊢
    have hc := ze8 n (by omega)
    have e2 := zjB a (32 - n) h0 h1 (by omega) k3
    unfold zbq at *
    have FF := fI rgA.eq_1 (fI @e2 (fI @zV (fI @zZ @zo))); exact gxA
end Go.Proofs.YtckabcbfbpejkaaDoor.Av
namespace Go.Proofs.YtckabcbfbpejkaaDoor.Av
open Go
set_option linter.unusedSimpArgs false
set_option linter.unusedVariables false
set_option maxRecDepth 100000
set_option maxHeartbeats 4000000
set_option pp.maxSteps 600
def zgH (most : Nat) (s : Bs) : AV := .tup [.raw (.int .i64 (zfT s)), .raw (.bool (za8 most s).isSome)]
theorem zjC (a b : Bs) : ((zO a).toList == (zO b).toList) = decide (a = b) := by
  have h : ∀ l : Bs, (zO l).toList = l := fun l => by rw [ByteArray.toList_eq, zaD]
  rw [h, h]
  by_cases e : a = b <;> simp [e]
theorem zdN (most : Nat) (s : Bs) (hm : most < 9223372036854775808) (hl : s.length ≤ 1000) : PCalls Tryd.prog 53 [zI s, .raw (.int .i64 most)] (zgH most s) := by
  have hA := zhQ s hl
  have hN := zhX most s hm
  refine zbp Tryd.func53 rfl (N := 31) rfl rfl (by simp) (by simp [noIds, zgH, AV.ids, zd]) fun σ => ?_
  unfold zgH
  rw [← hN]
  clear hN
  unfold zfW at hA
  unfold zfT
  cases hq : Lib.atoiAll s with
  | ok v =>
    rw [hq] at hA
    simp only [] at hA ⊢
    by_cases c1 : 0 ≤ v
    · by_cases c2 : v ≤ most
      · have hI := ze7 v (by omega) (by omega)
        have c3 := zjC (Lib.itoa v) s
        have hr : (decide (0 ≤ v) && (decide (v ≤ (most : Int)) && decide (Lib.itoa v = s))) = decide (Lib.itoa v = s) := by simp [c1, c2]
        rw [hr]
        clear hr
        generalize decide (Lib.itoa v = s) = bb at *
        have FF := fI zI.eq_1 (fI @c1 (fI @c2 @c3)); exact gxA
      · have hr : (decide (0 ≤ v) && (decide (v ≤ (most : Int)) && decide (Lib.itoa v = s))) = false := by simp [c1, c2]
        rw [hr]
        clear hr
        have FF := fI zI.eq_1 (fI @c1 @c2); exact gxA
    · have hr : (decide (0 ≤ v) && (decide (v ≤ (most : Int)) && decide (Lib.itoa v = s))) = false := by simp [c1]
      rw [hr]
      clear hr
      have FF := fI zI.eq_1 @c1; exact gxA
  | _ =>
    rw [hq] at hA
    simp only [] at hA ⊢
    have FF := zI.eq_1; exact gxA
def zas (a : Nat) : List Nat := [a / 16777216, a / 65536 % 256, a / 256 % 256, a % 256]
def zb3 (a : Nat) : Bs := Lib.join ((zas a).map dec) [46]
theorem zi7 (n : Nat) : Lib.itoa n = dec n := by
  unfold Lib.itoa
  rw [if_neg (by omega)]
  simp [dec]
theorem zhl {a : Nat} (h : a < 4294967296) : ∀ c ∈ zas a, c < 256 := by
  intro c hc
  simp only [zas, List.mem_cons, List.not_mem_nil, or_false] at hc
  omega
theorem ziu {a : Nat} (h : a < 4294967296) : (zb3 a).length ≤ 15 := by
  have h3 : ∀ c ∈ zas a, (dec c).length ≤ 3 := fun c hc => zjl c 3 (by have := zhl h c hc; omega) (by omega)
  simp only [zas, List.mem_cons, List.not_mem_nil, or_false, forall_eq_or_imp, forall_eq] at h3
  simp only [zb3, zas, List.map_cons, List.map_nil, Lib.join_cons, Lib.joinTail, List.flatten_cons, List.flatten_nil, List.length_nil, List.length_append, List.length_singleton]
  omega
theorem zcw (l : Bs) : (zI l).cells = [zI l] := rfl
theorem ziv (l : Bs) : cellOK (zI l) = true := rfl
theorem zhc {P : Program} {f : FuncId} {as_ bs : List AV} {σ : St} {K : AV → St → Prop} (hw : ∀ S vs, LRel S as_ vs → LRel S bs vs) (h : ACalls P f bs σ K) : ACalls P f as_ σ K :=
  ⟨h.1, fun S vs hS hl => h.2 S vs hS (hw S vs hl)⟩
theorem PCalls.useLent1 {P : Program} {f : FuncId} {σ0 σ : St} {n : Nat} {b v r : AV} {es : List AV} {K : AV → St → Prop} (h : PCalls P f [.sl n es false, b] r) (hr : r.plain = true) (hO : OwnL σ0 σ n v es) (k : K r σ) : ACalls P f [v, b] σ K := by
  rcases hO with ⟨rfl, rfl⟩ | ⟨j, rfl, hj, hm, hn⟩
  · refine zhc (bs := [.sl n [] false, b]) (fun S vs hl => ?_) (h.use k)
    simp only [LRel] at hl ⊢
    obtain ⟨v, us, e, h1, w, ws, e2, h2, h3⟩ := hl
    exact ⟨v, us, e, zbR _ _ h1, w, ws, e2, h2, h3⟩
  · refine RCalls.use (.inr ⟨[.sl n es false, b], ?_, h, hr⟩) k
    simp only [za9]
    exact ⟨_, _, rfl, .inr ⟨es, hm, by simp, by simp [hj]⟩, _, _, rfl, .inl rfl, rfl⟩
theorem zhS (a : Nat) (h : a < 4294967296) : PCalls Tryd.prog 16 [.raw (.int .u32 a)] (zI (zb3 a)) := by
  refine zbp Tryd.func16 rfl (N := 32) rfl rfl (by simp) (by simp [noIds]) fun σ => ?_
  have p1 : (2 : Int) ^ min 24 IntKind.u32.bits = (16777216 : Nat) := by decide
  have p2 : (2 : Int) ^ min 16 IntKind.u32.bits = (65536 : Nat) := by decide
  have p3 : (2 : Int) ^ min 8 IntKind.u32.bits = (256 : Nat) := by decide
  have w8 : ∀ n : Nat, IntKind.u8.wrap (n : Int) = ((n % 256 : Nat) : Int) := fun n => by simp [IntKind.wrap, IntKind.bits, IntKind.signed]
  have fd : ∀ n b : Nat, Int.fdiv (n : Int) (b : Int) = ((n / b : Nat) : Int) := fun x b => by rw [Int.fdiv_eq_ediv_of_nonneg _ (by omega)]; exact (Int.natCast_ediv x b).symm
  have q1 : IntKind.u8.wrap (Int.fdiv a (2 ^ min 24 IntKind.u32.bits)) = ((a / 16777216 : Nat) : Int) := by rw [p1, fd, w8, Nat.mod_eq_of_lt (by omega)]
  have q2 : IntKind.u8.wrap (Int.fdiv a (2 ^ min 16 IntKind.u32.bits)) = ((a / 65536 % 256 : Nat) : Int) := by rw [p2, fd, w8]
  have q3 : IntKind.u8.wrap (Int.fdiv a (2 ^ min 8 IntKind.u32.bits)) = ((a / 256 % 256 : Nat) : Int) := by rw [p3, fd, w8]
  have q4 : IntKind.u8.wrap (a : Int) = ((a % 256 : Nat) : Int) := w8 a
  have FF := fI @q1 (fI @q2 (fI @q3 (fI @q4 (fI @zV (fI @zZ @zo))))); refine gxC ?_; clear FF
  refine zdH (fun n B ρ => Ext σ ρ ∧ B 19 = .agg ((zas a).map fun c => .raw (.int .u8 (c : Nat))) ∧ ∃ (k : Nat) (v : AV), B 4 = v ∧ OwnL σ ρ 1 v (((zas a).take k).map fun c => zI (dec c)) ∧ B 20 = .raw (.int .i64 k) ∧ k ≤ 4 ∧ n = 4 - k) 4 ?_ ?_
  · refine ⟨by simp (maxDischargeDepth := 30), by simp [zas, q1, q2, q3, q4], 0, _, rfl, .inl ⟨by simp, by simp⟩, by simp, by omega, by omega⟩
  clear q1 q2 q3 q4 p1 p2 p3 w8 fd
  rintro n B ρ ⟨hE, a19, k, v, a4, hO, a20, hk, rfl⟩ I1 hI1
  have ho4 : (zas a).length = 4 := rfl
  have hlt4 := zhl h
  by_cases hlt : k < 4
  · have hx : (zas a)[k]? = some ((zas a)[k]'(by omega)) := List.getElem?_eq_getElem (by omega)
    have hb := hlt4 _ (List.getElem_mem (l := zas a) (n := k) (by omega))
    generalize (zas a)[k]'(by omega) = c at hx hb
    have w1 : IntKind.i64.wrap ((k : Int) + 1) = ((k + 1 : Nat) : Int) := by rw [zbQ (by omega) (by omega)]; omega
    have w2 : IntKind.i64.wrap (c : Int) = (c : Int) := zbQ (by omega) (by omega)
    have hI := ze7 (c : Int) (by omega) (by omega)
    rw [zi7] at hI
    have hlt' : (k : Int) < 4 := by omega
    have hst : ((zas a).take (k + 1)).map (fun c => zI (dec c)) = ((zas a).take k).map (fun c => zI (dec c)) ++ [zI (dec c)] := by rw [List.take_add_one, hx]; simp
    (try ((first | with_reducible refine zM ?_ | with_reducible refine zaa ?_ | with_reducible refine zab ?_); simp [-cellOK, a19, a4, a20, hlt', hx, w1, w2, zcw, ziv, -zw])); repeat' (first | ((first | refine zK ?_ | refine zT ?_ | refine dN (by decide +kernel) ?_ | refine dC (by decide +kernel) ?_ | refine uP (hI) ?_ | refine .inl ⟨_, .inl (hI), ?_⟩ | (refine zk ?_ ?_ <;> (intro hg; simp only [hg])) | fail) <;> simp [-cellOK, a19, a4, a20, hlt', hx, w1, w2, zcw, ziv, -zw]) | refine zL ?_ | refine zA ?_ | (refine zaB ?_; simp only [zaC]; try simp) | (refine zz (fun hc => ?_) (fun hc => ?_) <;> try simp at hc) | fail)
    refine ze4 zly (hO.ext (Ext.new _ _ _ _)) (hE.trans (Ext.new _ _ _ _)) (ys := [zI (dec c)]) (by simp) (.inr rfl) (by simp [zI]) (by simp [ho4, Nat.min_eq_left hk]; omega) ?_
    intro v' τ' hO' hE' _ _
    have FF := fI @a19 (fI @a4 (fI @a20 @w1)); refine gxC ?_; clear FF
    exact hI1 (4 - (k + 1)) _ _ (by omega) ⟨hE', by simp [a19], k + 1, v', by simp, by rw [hst]; exact hO', by simp, by omega, rfl⟩
  · have : k = 4 := by omega
    subst this
    have ht : (zas a).take 4 = zas a := rfl
    rw [ht] at hO
    have hj := zhb ((zas a).map dec) false [46] (by simp [zas]) (by have := ziu h; unfold zb3 at this; omega) (by simp [zas])
    have hls : zaP ((zas a).map dec) false = .sl 1 ((zas a).map fun c => zI (dec c)) false := by simp [zaP]
    rw [hls] at hj
    have FF := fI @a19 (fI @a4 @a20); refine gxC ?_; clear FF
    refine PCalls.useLent1 (b := zI [46]) hj rfl hO ?_
    unfold zb3 zI
    exact zmp
def zn7 (a n : Nat) : Bs := zb3 a ++ [47] ++ dec n
def znf (a b : Nat) : Bs := zb3 a ++ [45] ++ zb3 b
end Go.Proofs.YtckabcbfbpejkaaDoor.Av
namespace Go.Proofs.YtckabcbfbpejkaaDoor.Av
open Go
set_option linter.unusedSimpArgs false
set_option linter.unusedVariables false
theorem zjD (b : UInt8) : Lib.index [] [b] = -1 := by simp [Lib.index]
theorem zgI (b c : UInt8) (l : Bs) : Lib.index (c :: l) [b] = if c = b then 0 else if Lib.index l [b] = -1 then -1 else Lib.index l [b] + 1 := by
  have : ([b] : Bs).isPrefixOf (c :: l) = decide (c = b) := by
    by_cases h : c = b
    · subst h; simp [List.isPrefixOf]
    · have h' : ¬ b = c := fun e => h e.symm
      simp [List.isPrefixOf, h, h']
  rw [Lib.index, this]
  by_cases h : c = b <;> simp [h]
theorem zbI (b : UInt8) : ∀ l : Bs, (Lib.index l [b] = -1 ∧ zH b l = [l] ∧ b ∉ l) ∨ ∃ i : Nat, Lib.index l [b] = i ∧ i < l.length ∧ b ∉ l.take i ∧ zH b l = l.take i :: zH b (l.drop (i + 1))
  | [] => .inl ⟨zjD b, rfl, by simp⟩
  | c :: l => by
    rw [zgI]
    by_cases hc : c = b
    · refine .inr ⟨0, by simp [hc], by simp, by simp, ?_⟩
      simp [zH, hc]
    · rw [if_neg hc]
      have hc' : ¬ b = c := fun e => hc e.symm
      rcases zbI b l with ⟨h1, h2, h3⟩ | ⟨i, h1, h2, h3, h4⟩
      · refine .inl ⟨by simp [h1], ?_, by simp [h3, hc']⟩
        simp [zH, hc, h2]
      · refine .inr ⟨i + 1, ?_, by simp [h2], by simp [h3, hc'], ?_⟩
        · rw [if_neg (by omega), h1]; simp
        · simp [zH, hc, h4]
theorem zhd (b : UInt8) : ∀ (k : Nat) (s : ByteArray), Lib.countB s (zO [b]) = k → (Lib.splitB (zO [b]) 0 k s).map (·.data.toList) = zH b s.data.toList := by
  intro k
  induction k with
  | zero =>
    intro s hk
    rcases zbI b s.data.toList with ⟨h1, h2, _⟩ | ⟨i, h1, h2, _, h3⟩
    · rw [h2]; rfl
    · have := Lib.countB_hit s (zO [b]) i (by simp [zO, ByteArray.size]) h1
      omega
  | succ k ih =>
    intro s hk
    rcases zbI b s.data.toList with ⟨h1, h2, _⟩ | ⟨i, h1, h2, _, h3⟩
    · have := Lib.countB_miss s (zO [b]) h1
      omega
    · have := Lib.countB_hit s (zO [b]) i (by simp [zO, ByteArray.size]) h1
      rw [Lib.splitB_hit (zO [b]) 0 k s i h1, List.map_cons, ih _ (by omega), h3]
      have e1 : (zO [b]).size = 1 := rfl
      rw [e1, Lib.extract_to_end, Nat.add_zero]
      congr 1
      rw [Lib.extract_data]; simp
theorem zgJ (b : UInt8) (s : Bs) : zdL s [b] = zH b s := by
  unfold zdL
  rw [zhd b _ (zO s) rfl, zaD]
theorem zjE (b : UInt8) (s : Bs) : (Lib.cut s [b] = (s, [], false) ∧ zH b s = [s] ∧ b ∉ s) ∨ ∃ h t, s = h ++ b :: t ∧ b ∉ h ∧ Lib.cut s [b] = (h, t, true) ∧ zH b s = h :: zH b t := by
  rcases zbI b s with ⟨h1, h2, h3⟩ | ⟨i, h1, h2, h3, h4⟩
  · refine .inl ⟨?_, h2, h3⟩
    unfold Lib.cut; rw [h1, if_neg (by omega)]
  · refine .inr ⟨s.take i, s.drop (i + 1), ?_, h3, ?_, h4⟩
    · have hb : s[i] = b := by
        have : ∀ (l : Bs) (i : Nat) (hi : i < l.length), Lib.index l [b] = i → l[i] = b := by
          intro l
          induction l with
          | nil => intro i hi; simp at hi
          | cons c l ih =>
            intro i hi hx
            rw [zgI] at hx
            by_cases hc : c = b
            · rw [if_pos hc] at hx
              have : i = 0 := by omega
              subst this; simpa using hc
            · rw [if_neg hc] at hx
              split at hx
              · omega
              · obtain ⟨j, rfl⟩ : ∃ j, i = j + 1 := ⟨i - 1, by have := Lib.index_ge l [b]; omega⟩
                simp only [List.getElem_cons_succ]
                exact ih j (by simpa using hi) (by omega)
        exact this s i h2 h1
      rw [← hb, List.getElem_cons_drop, List.take_append_drop]
    · unfold Lib.cut; rw [h1, if_pos (by omega)]; simp
theorem zfJ (b : UInt8) : ∀ (l : Bs), ∀ x ∈ zH b l, x.length ≤ l.length
  | [] => by simp [zH]
  | c :: l => by
    have ih := zfJ b l
    intro x hx
    unfold zH at hx
    split at hx
    · rcases List.mem_cons.1 hx with rfl | hx
      · simp
      · have := ih x hx; simp; omega
    · cases hp : zH b l with
      | nil => exact absurd hp (zhY b l)
      | cons p ps =>
        rw [hp] at hx ih
        simp only [List.mem_cons] at hx ih
        rcases hx with rfl | hx
        · have := ih p (.inl rfl); simp; omega
        · have := ih x (.inr hx); simp; omega
def zbJ : List Bs → Nat → Option Nat
  | [], a => some a
  | x :: r, a => match za8 255 x with | some n => zbJ r (a * 256 + n) | none => none
def zcx (s : Bs) : Option Nat := if (zH 46 s).length = 4 then zbJ (zH 46 s) 0 else none
theorem zgK {m : Nat} {x : Bs} {n : Nat} (h : za8 m x = some n) : n ≤ m := (zbW.1 h).2
theorem zgL : ∀ (l : List Bs) (a k r : Nat), a < 256 ^ k → zbJ l a = some r → r < 256 ^ (k + l.length)
  | [], a, k, r, h, e => by simp only [zbJ, Option.some.injEq] at e; subst e; simpa using h
  | x :: l, a, k, r, h, e => by
    unfold zbJ at e
    split at e
    · rename_i n hn
      have := zgL l _ (k + 1) r (by have := zgK hn; rw [Nat.pow_succ]; omega) e
      rw [List.length_cons]
      rwa [show k + (l.length + 1) = k + 1 + l.length by omega]
    · cases e
theorem zi8 {s : Bs} {a : Nat} (h : zcx s = some a) : a < 4294967296 := by
  unfold zcx at h
  split at h
  · rename_i hl
    have := zgL _ 0 0 a (by decide) h
    rw [hl] at this
    simpa using this
  · cases h
def zbr (a n : Nat) : Bool := decide (n ≤ 32) && decide (a % 2 ^ (32 - n) = 0)
def zfX (s : Bs) : Option (Nat × Nat) := match zcx (Lib.cut s [47]).1, za8 32 (Lib.cut s [47]).2.1 with
  | some a, some n => if (Lib.cut s [47]).2.2 = true ∧ zbr a n = true then some (a, n) else none
  | _, _ => none
def zng (s : Bs) : Option (Nat × Nat) := match zfX s with
  | some (a, n) => some (a, a + 2 ^ (32 - n) - 1)
  | none => match zcx (Lib.cut s [45]).1, zcx (Lib.cut s [45]).2.1 with
    | some a, some b => if (Lib.cut s [45]).2.2 = true ∧ a ≤ b then some (a, b) else none
    | _, _ => none
def zdO (o : Option Nat) : AV := match o with | some a => .tup [.raw (.int .u32 a), .raw (.int .i64 0)] | none => .tup [.raw (.int .u32 0), .raw (.int .i64 21)]
def ze9 (o : Option (Nat × Nat)) : AV := match o with | some (a, n) => .tup [.agg [.raw (.int .u32 a), .raw (.int .i64 n)], .raw (.int .i64 0)] | none => .tup [.agg [.raw (.int .u32 0), .raw (.int .i64 0)], .raw (.int .i64 21)]
def zjj (o : Option (Nat × Nat)) : AV := match o with | some (a, b) => .tup [.agg [.raw (.int .u32 a), .raw (.int .u32 b)], .raw (.int .i64 0)] | none => .tup [.agg [.raw (.int .u32 0), .raw (.int .u32 0)], .raw (.int .i64 21)]
end Go.Proofs.YtckabcbfbpejkaaDoor.Av
namespace Go.Proofs.YtckabcbfbpejkaaDoor.Av
open Go
set_option linter.unusedSimpArgs false
set_option linter.unusedVariables false
set_option maxRecDepth 100000
set_option maxHeartbeats 4000000
set_option pp.maxSteps 600
theorem zjF {a n : Nat} (ha : a < 16777216) (hn : n < 256) : IntKind.u32.wrap (((((a * 256 : Nat) : Int) % 2 ^ IntKind.u32.bits).toNat ||| ((n : Int) % 2 ^ IntKind.u32.bits).toNat : Nat) : Int) = ((a * 256 + n : Nat) : Int) := by
  rw [zbz (by omega) (by omega), zbz (by omega) (by omega), Int.toNat_natCast, Int.toNat_natCast]
  have e : a * 256 ||| n = a * 256 + n := by
    have := Nat.two_pow_add_eq_or_of_lt (b := n) (i := 8) (by omega) a
    rw [Nat.mul_comm]; exact this.symm
  rw [e, zb7 (by omega) (by omega)]
theorem zfa (x : Bs) (r : List Bs) (a : Nat) : zbJ (x :: r) a = match za8 255 x with | some n => zbJ r (a * 256 + n) | none => none := rfl
theorem zi9 (o : Option Nat) : noIds (zdO o) := by unfold zdO noIds; split <;> simp [AV.ids, zd]
theorem zfb (s : Bs) (hs : s.length ≤ 1000) : PCalls Tryd.prog 28 [zI s] (zdO (zcx s)) := by
  have hS := zha s [46] (by omega) (by simp)
  rw [zgJ] at hS
  have hlen := zfJ 46 s
  refine zbp Tryd.func28 rfl (N := 35) rfl rfl (by simp) (zi9 _) fun σ => ?_
  unfold zcx
  generalize zH 46 s = ps at *
  by_cases h4 : ps.length = 4
  · rw [if_pos h4]
    obtain ⟨T, hT⟩ : ∃ T, zbJ ps 0 = T := ⟨_, rfl⟩
    rw [hT]
    have h4' : (ps.length : Int) = 4 := by omega
    have FF := fI zaP.eq_1 @h4'; refine gxC ?_; clear FF
    refine zdH (fun n B ρ => Ext σ ρ ∧ B 15 = zaP ps true ∧ B 16 = .raw (.int .i64 4) ∧ ∃ k a : Nat, B 17 = .raw (.int .i64 k) ∧ k ≤ 4 ∧ n = 4 - k ∧ B 5 = .raw (.int .u32 a) ∧ a < 256 ^ k ∧ zbJ (ps.drop k) a = T) 4 ?_ ?_
    · exact ⟨by simp (maxDischargeDepth := 30), by simp [zaP], by simp [h4'], 0, 0, by simp, by omega, by omega, by simp, by decide, by simpa using hT⟩
    rintro n B ρ ⟨hE, a15, a16, k, a, a17, hk, rfl, a5, ha, hf⟩ I1 hI1
    by_cases hlt : k < 4
    · have hkl : k < ps.length := by omega
      have hx : ps[k]? = some ps[k] := List.getElem?_eq_getElem hkl
      have w1 : IntKind.i64.wrap ((k : Int) + 1) = ((k + 1 : Nat) : Int) := by rw [zbQ (by omega) (by omega)]; omega
      have hlt' : (k : Int) < 4 := by omega
      have hN := zdN 255 ps[k] (by omega) (by have := hlen _ (List.getElem_mem hkl); omega)
      have hd : ps.drop k = ps[k] :: ps.drop (k + 1) := (List.getElem_cons_drop hkl).symm
      rw [hd] at hf
      generalize ps[k] = x at *
      unfold zgH at hN
      have ha24 : a < 16777216 := Nat.lt_of_lt_of_le ha (by have : 256 ^ k ≤ 256 ^ 3 := Nat.pow_le_pow_right (by omega) (by omega); simpa using this)
      cases hn : za8 255 x with
      | none =>
        rw [hn] at hN
        rw [zfa, hn] at hf
        simp only [] at hf
        subst hf
        have hr : zdO none = .tup [.raw (.int .u32 0), .raw (.int .i64 21)] := rfl
        rw [hr]
        have FF := fI zaP.eq_1 (fI @a15 (fI @a16 (fI @a17 (fI @a5 (fI @hlt' (fI @hx @zcw)))))); exact gxA
      | some c =>
        have e0 := zf7 hn (by omega)
        have hc := zgK hn
        rw [hn, e0] at hN
        rw [zfa, hn] at hf
        simp only [] at hf
        obtain ⟨y, hy⟩ : ∃ y, a * 256 + c = y := ⟨_, rfl⟩
        have p8 : (2 : Int) ^ min 8 IntKind.u32.bits = (256 : Nat) := by decide
        have e1 : IntKind.u32.wrap ((a : Int) * 2 ^ min 8 IntKind.u32.bits) = ((a * 256 : Nat) : Int) := by rw [p8, zb7 (by omega) (by omega)]; omega
        have e2 : IntKind.u32.wrap (c : Int) = c := zb7 (by omega) (by omega)
        have e3 := zjF ha24 (n := c) (by omega)
        rw [hy] at e3 hf
        have hy2 : y < 256 ^ (k + 1) := by rw [Nat.pow_succ]; omega
        generalize a * 256 = m at *
        have FF := fI zaP.eq_1 (fI @a15 (fI @a16 (fI @a17 (fI @a5 (fI @hlt' (fI @hx (fI @zcw (fI @e1 (fI @e2 (fI @e3 @w1)))))))))); refine gxC ?_; clear FF
        exact hI1 (4 - (k + 1)) _ _ (by omega) ⟨hE, by simp [a15, zaP], by simp [a16], k + 1, y, by simp, by omega, rfl, by simp, hy2, hf⟩
    · have : k = 4 := by omega
      subst this
      rw [List.drop_eq_nil_of_le (by omega)] at hf
      subst hf
      have hf0 : zbJ [] a = some a := rfl
      rw [hf0]
      have hr : zdO (some a) = .tup [.raw (.int .u32 a), .raw (.int .i64 0)] := rfl
      rw [hr]
      have FF := fI @a15 (fI @a16 (fI @a17 @a5)); exact gxA
  · rw [if_neg h4]
    have h4' : ¬ (ps.length : Int) = 4 := by omega
    have hr : zdO none = .tup [.raw (.int .u32 0), .raw (.int .i64 21)] := rfl
    rw [hr]
    have FF := fI zaP.eq_1 @h4'; exact gxA
theorem zjG (s : Bs) (b : UInt8) : (Lib.cut s [b]).1.length ≤ s.length ∧ (Lib.cut s [b]).2.1.length ≤ s.length := by
  rcases zjE b s with ⟨h, _, _⟩ | ⟨x, y, e, _, h, _⟩
  · rw [h]; simp
  · rw [h, e]; simp; omega
theorem zde (a n : Nat) : zar ⟨a, n⟩ = zbr a n := by
  have e : (2 : Int) ^ (32 - n) = ((2 ^ (32 - n) : Nat) : Int) := by simp
  have e2 : ((a : Int) % 2 ^ (32 - n) = 0) ↔ a % 2 ^ (32 - n) = 0 := by rw [e]; omega
  simp only [zar, zbr, Int.toNat_natCast, e2]
  rw [Bool.eq_iff_iff]
  simp only [Bool.and_eq_true, decide_eq_true_eq]
  constructor
  · rintro ⟨_, h, k⟩; exact ⟨by omega, k⟩
  · rintro ⟨h, k⟩; exact ⟨by omega, by omega, k⟩
theorem ziw (o : Option (Nat × Nat)) : noIds (ze9 o) := by unfold ze9 noIds; split <;> simp [AV.ids, zd]
theorem zb4 : ze9 none = .tup [.agg [.raw (.int .u32 0), .raw (.int .i64 0)], .raw (.int .i64 21)] := rfl
theorem zhT (a n : Nat) : ze9 (some (a, n)) = .tup [.agg [.raw (.int .u32 a), .raw (.int .i64 n)], .raw (.int .i64 0)] := rfl
theorem zdf (a n : Nat) : zjj (some (a, n)) = .tup [.agg [.raw (.int .u32 a), .raw (.int .u32 n)], .raw (.int .i64 0)] := rfl
theorem zix : zdO none = .tup [.raw (.int .u32 0), .raw (.int .i64 21)] := rfl
theorem ziy (a : Nat) : zdO (some a) = .tup [.raw (.int .u32 a), .raw (.int .i64 0)] := rfl
theorem zhe (s : Bs) (hs : s.length ≤ 1000) : PCalls Tryd.prog 30 [zI s] (ze9 (zfX s)) := by
  have hC := zhR s [47] (by omega)
  obtain ⟨l1, l2⟩ := zjG s 47
  have hA := zfb (Lib.cut s [47]).1 (by omega)
  have hN := zdN 32 (Lib.cut s [47]).2.1 (by omega) (by omega)
  have lt := fun a => zi8 (s := (Lib.cut s [47]).1) (a := a)
  have ai := fun n => zf7 (most := 32) (s := (Lib.cut s [47]).2.1) (n := n)
  unfold zfX
  unfold zgH at hN
  generalize (Lib.cut s [47]).1 = h at *
  generalize (Lib.cut s [47]).2.1 = t at *
  generalize (Lib.cut s [47]).2.2 = b at *
  refine zbp Tryd.func30 rfl (N := 48) rfl rfl (by simp) (ziw _) fun σ => ?_
  cases ha : zcx h with
  | none =>
    rw [ha, zix] at hA
    generalize za8 32 t = o at *
    rw [zb4]
    cases b
    all_goals
      have FF := fI @zV (fI @zZ @zo); exact gxA
  | some a =>
    have la := lt a ha
    rw [ha, ziy] at hA
    cases hn : za8 32 t with
    | none =>
      rw [hn] at hN
      simp only []
      rw [zb4]
      cases b
      all_goals
        have FF := fI @zV (fI @zZ @zo); exact gxA
    | some n =>
      rw [hn, ai n hn (by omega)] at hN
      have hR := zbH ⟨a, n⟩ (by simp) (by simp; omega)
      rw [zde] at hR
      unfold zbq at hR
      simp only []
      cases b with
      | false =>
        rw [if_neg (by simp), zb4]
        have FF := fI @zV (fI @zZ @zo); exact gxA
      | true =>
        cases hr : zbr a n with
        | true =>
          rw [hr] at hR
          rw [if_pos ⟨rfl, rfl⟩, zhT]
          have FF := fI @zV (fI @zZ @zo); exact gxA
        | false =>
          rw [hr] at hR
          rw [if_neg (by simp), zb4]
          have FF := fI @zV (fI @zZ @zo); exact gxA
end Go.Proofs.YtckabcbfbpejkaaDoor.Av
namespace Go.Proofs.YtckabcbfbpejkaaDoor.Av
open Go
set_option linter.unusedSimpArgs false
set_option linter.unusedVariables false
set_option maxRecDepth 100000
set_option maxHeartbeats 4000000
set_option pp.maxSteps 600
theorem zfc {a n : Nat} (h : zbr a n = true) : za7 ⟨a, n⟩ = zjj (some (a, a + 2 ^ (32 - n) - 1)) := by
  unfold za7
  rw [zde, h, if_pos rfl, zdf]
  have h2 : 0 < 2 ^ (32 - n) := Nat.pow_pos (by omega)
  have e : (a : Int) + 2 ^ (32 - n) - 1 = ((a + 2 ^ (32 - n) - 1 : Nat) : Int) := by
    have : (2 : Int) ^ (32 - n) = ((2 ^ (32 - n) : Nat) : Int) := by simp
    rw [this]; omega
  simp only [Int.toNat_natCast, e]; rfl
end Go.Proofs.YtckabcbfbpejkaaDoor.Av
