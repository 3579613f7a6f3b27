/- Rules: the laws RuleTells, RuleBack, RuleApart, RuleFirst. Part 18 of 22: AvS1, AvS2, AvS3, AvP6, AvS4, AvS5. -/
import Derived.Test.YtckabcbfbpejkaaDoorRx3
import Derived.Test.YtckabcbfbpejkaaDoorRx8
import Derived.Test.YtckabcbfbpejkaaDoorRx9
import Derived.Test.YtckabcbfbpejkaaDoorRx10
import Derived.Test.YtckabcbfbpejkaaDoorRx17
import Derived.Lib.SmallJoins
import Derived.Lib.AppendIntMem
import Derived.Lib.SplitLaws
namespace Go.Proofs.YtckabcbfbpejkaaDoor.Av
open Go Go.RowKit
set_option linter.unusedSimpArgs false
set_option linter.unusedVariables false
set_option maxRecDepth 100000
set_option maxHeartbeats 4000000
def zF (l : Bs) : ByteArray := ⟨l.toArray⟩
def zo (l : Bs) : AV := .raw (.string (zF l))
theorem zbj (l : Bs) : (zF l).data.toList = l := by simp [zF]
theorem zbL (l : Bs) : (zF l).size = l.length := by simp [zF, ByteArray.size]
theorem zkt (b : ByteArray) : zF b.data.toList = b := by cases b; simp [zF]
@[simp] theorem znn (K : Id → Prop) (l : Bs) : (zo l).ids K := by simp [zo, AV.ids]
theorem zm2 {S : Ctx} (g : GlobOK S) (b : Nat) (h : b < zgy) : ∃ c : Array Value, (∀ i, S.w.cell? ⟨b, i, none⟩ = c[i]?) ∧ zmT b c := by
  obtain ⟨_, c, t, fz, e, q⟩ := g b h
  exact ⟨c, fun i => by simp [World.cell?, e], q⟩
theorem zoc {S : Ctx} (g : GlobOK S) : Lib.TabIs Tryd.prog S.w "internal/strconv.uint64pow10" .u64 Lib.pow10Tab := by
  obtain ⟨_, c, t, fz, h, q⟩ := g 2 (by decide)
  have hg : Tryd.prog.globalNamed "internal/strconv.uint64pow10" = some 2 := by kernel_rfl
  unfold Lib.TabIs World.var?
  rw [hg]
  simp only [Option.bind_some, h]
  rw [q.2.1 rfl]
theorem zl0 {S : Ctx} (g : GlobOK S) : ∃ m, S.w.cell? ⟨1, 0, none⟩ = some (.int .i64 m) := by
  obtain ⟨c, h, q⟩ := zm2 g 1 (by decide)
  obtain ⟨m, hm⟩ := q.1 rfl
  exact ⟨m, (h 0).trans hm⟩
theorem zl1 {S : Ctx} (g : GlobOK S) (b : Nat) (hb : b = 3 ∨ b = 4) : ∃ ev, S.w.cell? ⟨b, 0, none⟩ = some ev ∧ (ev = .nilIface ∨ ∃ te pe, ev = .iface te pe) := by
  obtain ⟨c, h, q⟩ := zm2 g b (by rcases hb with rfl | rfl <;> decide)
  obtain ⟨ev, h1, h2⟩ := q.2.2.2 hb
  exact ⟨ev, (h 0).trans h1, h2⟩
theorem zbw (n : Int) (h0 : -9223372036854775808 ≤ n) (h1 : n ≤ 9223372036854775807) : PCalls Tryd.prog 47 [.raw (.int .i64 n)] (zo (Lib.itoa n)) :=
  zcw (zbH Tryd.func47 (by kernel_rfl) rfl) (by simp [noIds]) fun S vs g hl => by
    simp only [LRel, VRel] at hl
    obtain ⟨v, us, rfl, rfl, rfl⟩ := hl
    refine (Tryd.strconv_Itoa n h0 h1 S.w (zoc g)).mono ?_
    rintro e w' ⟨rfl, k, os, rfl⟩
    exact ⟨_, rfl, Lib.below_grow _ _ (Nat.le_refl _) _ _, by simp [VRel, zo, zF]⟩
def zhh (s : Bs) : AV := match Lib.atoiAll s with | .ok v => .tup [.raw (.int .i64 v), .raw .nilIface] | .range => .tup [.raw (.int .i64 (Lib.atoiSat s)), .ifc 133 .any] | _ => .tup [.raw (.int .i64 0), .ifc 133 .any]
theorem zhi (s : Bs) (hl : s.length ≤ 1000) : PCalls Tryd.prog 79 [zo s] (zhh s) :=
  zcw (zbH Tryd.func79 (by kernel_rfl) rfl) (by unfold zhh noIds; split <;> simp [AV.ids, zt]) fun S vs g hl' => by
    simp only [LRel, VRel, zo] at hl'
    obtain ⟨v, us, rfl, rfl, rfl⟩ := hl'
    have hsz := zbL s
    unfold zhh
    split
    · rename_i v hv
      refine (Tryd.strconv_Atoi_ok (zF s) (by omega) v (by rw [zbj]; exact hv) S.w).mono ?_
      rintro e w' ⟨rfl, h⟩
      refine ⟨_, rfl, ?_, by simp [VRel, LRel]⟩
      rcases h with rfl | ⟨t, rfl⟩
      · exact Below.refl _ _
      · exact Joins.below_bytesWorld _ _ _ _ (Nat.le_refl _)
    · rename_i hv
      obtain ⟨ev, q1, q2⟩ := zl1 g 4 (.inr rfl)
      refine (Tryd.strconv_Atoi_range (zF s) (by omega) (by rw [zbj]; exact hv) ev S.w q1 q2).mono ?_
      rintro e w' ⟨M, rfl, h1, h2, h3⟩
      refine ⟨_, rfl, h3, ?_⟩
      simp only [VRel, LRel, zbj]
      exact ⟨_, rfl, _, _, rfl, rfl, _, _, rfl, ⟨_, rfl, trivial⟩, rfl⟩
    · rename_i h1' h2'
      have hv : Lib.atoiAll s = Lib.atoiAll [] := by
        have e0 : ∀ r : Lib.NumEnd Int, (∀ v, r = .ok v → False) → (r = .range → False) → r = Lib.atoiAll [] := fun r k1 k2 => by cases r; exact (k1 _ rfl).elim; rfl; exact (k2 rfl).elim
        exact e0 _ h1' h2'
      obtain ⟨ev, q1, q2⟩ := zl1 g 3 (.inl rfl)
      refine (Tryd.strconv_Atoi_syntax (zF s) (by omega) (by rw [zbj]; exact hv) ev S.w q1 q2).mono ?_
      rintro e w' ⟨M, rfl, h1, h2, h3⟩
      refine ⟨_, rfl, h3, ?_⟩
      simp only [VRel, LRel]
      exact ⟨_, rfl, _, _, rfl, rfl, _, _, rfl, ⟨_, rfl, trivial⟩, rfl⟩
theorem zhj (s sep : Bs) (hs : s.length < 4294967281) : PCalls Tryd.prog 56 [zo s, zo sep] (.tup [zo (Lib.cut s sep).1, zo (Lib.cut s sep).2.1, .raw (.bool (Lib.cut s sep).2.2)]) :=
  zcw (zbH Tryd.func56 (by kernel_rfl) rfl) (by simp [noIds, AV.ids, zt]) fun S vs g hl => by
    simp only [LRel, VRel, zo] at hl
    obtain ⟨v, us, rfl, rfl, v2, us2, rfl, rfl, rfl⟩ := hl
    obtain ⟨m, hm⟩ := zl0 g
    refine (Tryd.strings_Cut (zF s) (zF sep) m S.w (by rw [zbL]; exact hs) hm).mono ?_
    rintro e w' ⟨rfl, n, rfl⟩
    exact ⟨_, rfl, ⟨rfl, rfl, rfl, Nat.le_refl _, fun _ _ => rfl⟩, by simp [VRel, LRel, zo, zbj]; simp [zF]⟩
def zZ (l : List Bs) (f : Bool) : AV := .sl 1 (l.map zo) f
theorem zjE (K : Id → Prop) : ∀ l : List Bs, zt K (l.map zo)
  | [] => by simp [zt]
  | a :: l => by simp only [List.map_cons, zt]; exact ⟨znn K a, zjE K l⟩
@[simp] theorem zrp (K : Id → Prop) (l : List Bs) (f : Bool) : (zZ l f).ids K := by simp only [zZ, AV.ids]; exact zjE K l
def zfp (s sep : Bs) : List Bs := (Lib.splitB (zF sep) 0 (Lib.countB (zF s) (zF sep)) (zF s)).map (·.data.toList)
theorem zf3 (s sep : Bs) (hs : s.length < 4294967281) (h1 : 1 ≤ sep.length) : PCalls Tryd.prog 52 [zo s, zo sep] (zZ (zfp s sep) true) :=
  zcw (zbH Tryd.func52 (by kernel_rfl) rfl) (by simp [noIds]) fun S vs g hl => by
    simp only [LRel, VRel, zo] at hl
    obtain ⟨v, us, rfl, rfl, v2, us2, rfl, rfl, rfl⟩ := hl
    obtain ⟨m, hm⟩ := zl0 g
    have hlen := Lib.splitB_all (zF sep) (by rw [zbL]; exact h1) 0 _ (zF s) rfl
    refine (Tryd.strings_Split (zF s) (zF sep) m S.w (by rw [zbL]; exact hs) hm (by rw [zbL]; exact h1)).mono ?_
    rintro e w' ⟨rfl, rfl⟩
    refine ⟨_, rfl, (Below.refl _ _).alloc (Nat.le_refl _) _, ?_⟩
    have hes : (zfp s sep).map zo = ((Lib.splitB (zF sep) 0 (Lib.countB (zF s) (zF sep)) (zF s)).map Value.string).map .raw := by
      simp only [zfp, List.map_map]
      refine List.map_congr_left fun b _ => ?_
      simp only [Function.comp, zo, zkt]
    simp only [VRel, zZ, hes]
    refine ⟨_, _, by simp only [List.length_map, hlen]; rfl, by simp only [List.length_map, hlen]; exact Nat.le_refl _, fun _ => by simp only [List.length_map, hlen], fun _ => ⟨_, 0, rfl, zk4 (Nat.le_refl _) (by simp), ERel.raws fun j v hj => ?_⟩⟩
    show (S.w.alloc _).cell? _ = _
    simp only [World.cell?, World.alloc, Nat.zero_add]
    simp at hj ⊢
    exact hj
theorem zf4 (l : List Bs) (f : Bool) (sep : Bs) (h1 : l.length ≤ 140737488355328) (h2 : (Lib.join l sep).length ≤ 140737488355328) (hne : l ≠ []) : PCalls Tryd.prog 48 [zZ l f, zo sep] (zo (Lib.join l sep)) :=
  zcw (zbH Tryd.func48 (by kernel_rfl) rfl) (by simp [noIds]) fun S vs g hl => by
    simp only [LRel, VRel, zo, zZ, List.length_map] at hl
    obtain ⟨v, us, rfl, ⟨base, cap, rfl, hc, _, hb⟩, v2, us2, rfl, rfl, rfl⟩ := hl
    obtain ⟨b, o, rfl, hfz, hE⟩ := hb (by simpa using hne)
    have hxs : (l.map zF).map (·.data.toList) = l := by
      rw [List.map_map]
      conv => rhs; rw [← List.map_id l]
      exact List.map_congr_left fun x _ => zbj x
    have hj := Tryd.strings_Join b o cap (l.map zF) (zF sep) S.w (fun j x hx => ?_) hfz.1 (by simpa using h1) (by simpa using hc) (by rw [hxs, zbj]; exact h2)
    · rw [hxs, zbj, List.length_map] at hj
      refine hj.mono ?_
      rintro e w' ⟨rfl, h⟩
      exact ⟨_, rfl, h, by simp [VRel, zo, zF]⟩
    · rw [List.getElem?_map] at hx
      obtain ⟨y, hy, rfl⟩ := Option.map_eq_some_iff.1 hx
      have hg := hE.get (i := j) (e := zo y) (by rw [List.getElem?_map, hy]; rfl)
      simp only [zo, AV.cells, CRel, VRel, Nat.mul_one] at hg
      obtain ⟨u, h3, h4⟩ := hg.2.1
      rw [h3, h4]
end Go.Proofs.YtckabcbfbpejkaaDoor.Av
namespace Go.Proofs.YtckabcbfbpejkaaDoor.Av
open Go
set_option linter.unusedSimpArgs false
set_option linter.unusedVariables false
set_option maxRecDepth 100000
set_option maxHeartbeats 4000000
set_option pp.maxSteps 600
structure Pf where
  addr : Int
  len : Int
deriving DecidableEq
def zc7 (p : Pf) : AV := .agg [.raw (.int .u32 p.addr), .raw (.int .i64 p.len)]
def rgA (a b : Int) : AV := .agg [.raw (.int .u32 a), .raw (.int .u32 b)]
@[simp] theorem zno (K : Id → Prop) (a b : Int) : (rgA a b).ids K := by simp [rgA, AV.ids, zt]
theorem zcK {a : Int} (h0 : 0 ≤ a) (h1 : a < 4294967296) : (a % 2 ^ IntKind.u32.bits).toNat = a.toNat := by
  have : (2 : Int) ^ IntKind.u32.bits = 4294967296 := by decide
  rw [this]; omega
theorem zjF {m : Nat} (hm : m ≤ 32) : (0 : Int) ≤ 2 ^ m - 1 ∧ (2 : Int) ^ m - 1 < 4294967296 ∧ ((2 : Int) ^ m - 1).toNat = 2 ^ m - 1 ∧ (2 : Int) ^ m = ((2 ^ m : Nat) : Int) ∧ 0 < 2 ^ m ∧ 2 ^ m ≤ 2 ^ 32 := by
  have hp : (2 : Int) ^ m = ((2 ^ m : Nat) : Int) := by simp
  have hb : 2 ^ m ≤ 2 ^ 32 := Nat.pow_le_pow_right (by omega) hm
  have h2 : 0 < 2 ^ m := Nat.pow_pos (by omega)
  exact ⟨by omega, by omega, by omega, hp, h2, hb⟩
theorem zmK (a : Int) (m : Nat) (h0 : 0 ≤ a) (h1 : a < 4294967296) (hm : m ≤ 32) : IntKind.u32.wrap (((a % 2 ^ IntKind.u32.bits).toNat &&& (((2 : Int) ^ m - 1) % 2 ^ IntKind.u32.bits).toNat : Nat) : Int) = a % 2 ^ m := by
  obtain ⟨p1, p2, p3, p4, p5, p6⟩ := zjF hm
  obtain ⟨n, rfl⟩ : ∃ n : Nat, a = n := ⟨a.toNat, by omega⟩
  rw [zcK h0 h1, zcK p1 p2, p3, Nat.and_two_pow_sub_one_eq_mod, Int.toNat_natCast]
  have := Nat.mod_le n (2 ^ m)
  rw [zef (by omega) (by omega), p4]
  rfl
theorem znp (a : Int) (m : Nat) (h0 : 0 ≤ a) (h1 : a < 4294967296) (hm : m ≤ 32) (hd : a % 2 ^ m = 0) : IntKind.u32.wrap (((a % 2 ^ IntKind.u32.bits).toNat ||| (((2 : Int) ^ m - 1) % 2 ^ IntKind.u32.bits).toNat : Nat) : Int) = a + 2 ^ m - 1 := by
  obtain ⟨p1, p2, p3, p4, p5, p6⟩ := zjF hm
  obtain ⟨n, rfl⟩ : ∃ n : Nat, a = n := ⟨a.toNat, by omega⟩
  rw [zcK h0 h1, zcK p1 p2, p3]
  have hd' : n % 2 ^ m = 0 := by rw [p4] at hd; omega
  have e3 : ((n : Int).toNat ||| (2 ^ m - 1)) = n + (2 ^ m - 1) := by
    rw [Int.toNat_natCast]
    obtain ⟨q, rfl⟩ := Nat.dvd_of_mod_eq_zero hd'
    exact (Nat.two_pow_add_eq_or_of_lt (by omega) q).symm
  have h3 : ((n : Int).toNat ||| (2 ^ m - 1)) < 2 ^ 32 := Nat.or_lt_two_pow (by omega) (by omega)
  rw [e3] at h3 ⊢
  rw [zef (by omega) (by omega), p4]
  omega
theorem zhk (n : Nat) (hn : n ≤ 32) : PCalls Tryd.prog 46 [.raw (.int .i64 n)] (.raw (.int .u32 (2 ^ (32 - n) - 1))) := by
  refine zM Tryd.func46 rfl (N := 8) rfl rfl (by simp) (by simp [noIds]) fun σ => ?_
  have hall : ∀ m, m < 33 → IntKind.u64.wrap (2 ^ min m IntKind.u64.bits) = 2 ^ m ∧ IntKind.u64.wrap ((2 : Int) ^ m - 1) = 2 ^ m - 1 ∧ IntKind.u32.wrap ((2 : Int) ^ m - 1) = 2 ^ m - 1 := by decide
  have e1 : IntKind.i64.wrap (32 - (n : Int)) = ((32 - n : Nat) : Int) := by rw [zS (by omega) (by omega)]; omega
  obtain ⟨m, hm⟩ : ∃ m, 32 - n = m := ⟨_, rfl⟩
  obtain ⟨q1, q2, q3⟩ := hall m (by omega)
  rw [hm] at e1 ⊢
  have e0 : (0 : Int) ≤ m := by omega
  have e9 : ((m : Int)).toNat = m := by omega
  have FF := fI @e1 (fI @e0 (fI @e9 (fI @q1 (fI @q2 @q3)))); exact gxA
def rightB (p : Pf) : Bool := decide (0 ≤ p.len) && (decide (p.len ≤ 32) && decide (p.addr % 2 ^ (32 - p.len.toNat) = 0))
theorem zf5 (p : Pf) (h0 : 0 ≤ p.addr) (h1 : p.addr < 4294967296) : PCalls Tryd.prog 13 [zc7 p] (.raw (.bool (rightB p))) := by
  refine zM Tryd.func13 rfl (N := 20) rfl rfl (by simp) (by simp [noIds]) fun σ => ?_
  obtain ⟨a, l⟩ := p
  by_cases c1 : 0 ≤ l
  · obtain ⟨n, rfl⟩ : ∃ n : Nat, l = n := ⟨l.toNat, by omega⟩
    by_cases c2 : n ≤ 32
    · have hc := zhk n c2
      have e := zmK a (32 - n) h0 h1 (by omega)
      have c3 : (a % 2 ^ (32 - n) = 0) = True ∨ (a % 2 ^ (32 - n) = 0) = False := by by_cases h : a % 2 ^ (32 - n) = 0 <;> simp [h]
      have c2' : (n : Int) ≤ 32 := by omega
      have hr : rightB ⟨a, n⟩ = decide (a % 2 ^ (32 - n) = 0) := by simp [rightB]; omega
      rw [hr]
      rcases c3 with c3 | c3
      all_goals
        have FF := fI zc7.eq_1 (fI @c1 (fI @c2' (fI @e (fI @c3 (fI @zs (fI @zv @zh)))))); exact gxA
    · have c2' : ¬ (n : Int) ≤ 32 := by omega
      have hr : rightB ⟨a, n⟩ = false := by simp [rightB, c2]; omega
      rw [hr]
      have FF := fI zc7.eq_1 (fI @c1 (fI @c2' (fI @zs (fI @zv @zh)))); exact gxA
  · have hr : rightB ⟨a, l⟩ = false := by simp [rightB, c1]
    rw [hr]
    have FF := fI zc7.eq_1 (fI @c1 (fI @zs (fI @zv @zh))); exact gxA
def zc2 (p : Pf) : AV := if rightB p then .tup [rgA p.addr (p.addr + 2 ^ (32 - p.len.toNat) - 1), .raw (.int .i64 0)] else .tup [rgA 0 0, .raw (.int .i64 21)]
theorem zkc (p : Pf) (h0 : 0 ≤ p.addr) (h1 : p.addr < 4294967296) : PCalls Tryd.prog 15 [zc7 p] (zc2 p) := by
  have hr := zf5 p h0 h1
  refine zM Tryd.func15 rfl (N := 17) rfl rfl (by simp) (by unfold zc2 noIds; split <;> simp [AV.ids, zt, zno]) fun σ => ?_
  cases hb : rightB p with
  | false =>
    have e : zc2 p = .tup [rgA 0 0, .raw (.int .i64 21)] := by unfold zc2; rw [hb]; rfl
    rw [hb] at hr
    rw [e]
    unfold zc7 at *
    have FF := fI rgA.eq_1 (fI @zs (fI @zv @zh)); exact gxA
  | true =>
    obtain ⟨a, l⟩ := p
    have e : zc2 ⟨a, l⟩ = .tup [rgA a (a + 2 ^ (32 - l.toNat) - 1), .raw (.int .i64 0)] := by unfold zc2; rw [hb]; rfl
    rw [hb] at hr
    rw [e]
    unfold rightB at hb
    simp only [Bool.and_eq_true, decide_eq_true_eq] at hb
    obtain ⟨k1, k2, k3⟩ := hb
    obtain ⟨n, rfl⟩ : ∃ n : Nat, l = n := ⟨l.toNat, by omega⟩
    have k4 : ((n : Int)).toNat = n := by omega
    simp only [k4] at k3 ⊢
    have hc := zhk n (by omega)
    have e2 := znp a (32 - n) h0 h1 (by omega) k3
    unfold zc7 at *
    have FF := fI rgA.eq_1 (fI @e2 (fI @zs (fI @zv @zh))); exact gxA
end Go.Proofs.YtckabcbfbpejkaaDoor.Av
namespace Go.Proofs.YtckabcbfbpejkaaDoor.Av
open Go
set_option linter.unusedSimpArgs false
set_option linter.unusedVariables false
set_option maxRecDepth 100000
set_option maxHeartbeats 4000000
set_option pp.maxSteps 600
def zjG (most : Nat) (s : Bs) : AV := .tup [.raw (.int .i64 (ziM s)), .raw (.bool (zbl most s).isSome)]
theorem zdp (a b : Bs) : ((zF a).toList == (zF b).toList) = decide (a = b) := by
  have h : ∀ l : Bs, (zF l).toList = l := fun l => by rw [ByteArray.toList_eq, zbj]
  rw [h, h]
  by_cases e : a = b <;> simp [e]
theorem zfr (most : Nat) (s : Bs) (hm : most < 9223372036854775808) (hl : s.length ≤ 1000) : PCalls Tryd.prog 53 [zo s, .raw (.int .i64 most)] (zjG most s) := by
  have hA := zhi s hl
  have hN := zli most s hm
  refine zM Tryd.func53 rfl (N := 31) rfl rfl (by simp) (by simp [noIds, zjG, AV.ids, zt]) fun σ => ?_
  unfold zjG
  rw [← hN]
  clear hN
  unfold zhh at hA
  unfold ziM
  cases hq : Lib.atoiAll s with
  | ok v =>
    rw [hq] at hA
    simp only [] at hA ⊢
    by_cases c1 : 0 ≤ v
    · by_cases c2 : v ≤ most
      · have hI := zbw v (by omega) (by omega)
        have c3 := zdp (Lib.itoa v) s
        have hr : (decide (0 ≤ v) && (decide (v ≤ (most : Int)) && decide (Lib.itoa v = s))) = decide (Lib.itoa v = s) := by simp [c1, c2]
        rw [hr]
        clear hr
        generalize decide (Lib.itoa v = s) = bb at *
        have FF := fI zo.eq_1 (fI @c1 (fI @c2 @c3)); exact gxA
      · have hr : (decide (0 ≤ v) && (decide (v ≤ (most : Int)) && decide (Lib.itoa v = s))) = false := by simp [c1, c2]
        rw [hr]
        clear hr
        have FF := fI zo.eq_1 (fI @c1 @c2); exact gxA
    · have hr : (decide (0 ≤ v) && (decide (v ≤ (most : Int)) && decide (Lib.itoa v = s))) = false := by simp [c1]
      rw [hr]
      clear hr
      have FF := fI zo.eq_1 @c1; exact gxA
  | _ =>
    rw [hq] at hA
    simp only [] at hA ⊢
    have FF := zo.eq_1; exact gxA
def zaZ (a : Nat) : List Nat := [a / 16777216, a / 65536 % 256, a / 256 % 256, a % 256]
def zaA (a : Nat) : Bs := Lib.join ((zaZ a).map dec) [46]
theorem zjH (n : Nat) : Lib.itoa n = dec n := by
  unfold Lib.itoa
  rw [if_neg (by omega)]
  simp [dec]
theorem zku {a : Nat} (h : a < 4294967296) : ∀ c ∈ zaZ a, c < 256 := by
  intro c hc
  simp only [zaZ, List.mem_cons, List.not_mem_nil, or_false] at hc
  omega
theorem zc3 {a : Nat} (h : a < 4294967296) : (zaA a).length ≤ 15 := by
  have h3 : ∀ c ∈ zaZ a, (dec c).length ≤ 3 := fun c hc => zeb c 3 (by have := zku h c hc; omega) (by omega)
  simp only [zaZ, List.mem_cons, List.not_mem_nil, or_false, forall_eq_or_imp, forall_eq] at h3
  simp only [zaA, zaZ, List.map_cons, List.map_nil, Lib.join_cons, Lib.joinTail, List.flatten_cons, List.flatten_nil, List.length_nil, List.length_append, List.length_singleton]
  omega
theorem zcg (l : Bs) : (zo l).cells = [zo l] := rfl
theorem zl2 (l : Bs) : cellOK (zo l) = true := rfl
theorem zkd {P : Program} {f : FuncId} {as_ bs : List AV} {σ : St} {K : AV → St → Prop} (hw : ∀ S vs, LRel S as_ vs → LRel S bs vs) (h : ACalls P f bs σ K) : ACalls P f as_ σ K :=
  ⟨h.1, fun S vs hS hl => h.2 S vs hS (hw S vs hl)⟩
theorem PCalls.useLent1 {P : Program} {f : FuncId} {σ0 σ : St} {n : Nat} {b v r : AV} {es : List AV} {K : AV → St → Prop} (h : PCalls P f [.sl n es false, b] r) (hr : r.plain = true) (hO : OwnL σ0 σ n v es) (k : K r σ) : ACalls P f [v, b] σ K := by
  rcases hO with ⟨rfl, rfl⟩ | ⟨j, rfl, hj, hm, hn⟩
  · refine zkd (bs := [.sl n [] false, b]) (fun S vs hl => ?_) (h.use k)
    simp only [LRel] at hl ⊢
    obtain ⟨v, us, e, h1, w, ws, e2, h2, h3⟩ := hl
    exact ⟨v, us, e, zcd _ _ h1, w, ws, e2, h2, h3⟩
  · refine RCalls.use (.inr ⟨[.sl n es false, b], ?_, h, hr⟩) k
    simp only [zbR]
    exact ⟨_, _, rfl, .inr ⟨es, hm, by simp, by simp [hj]⟩, _, _, rfl, .inl rfl, rfl⟩
theorem zhl (a : Nat) (h : a < 4294967296) : PCalls Tryd.prog 16 [.raw (.int .u32 a)] (zo (zaA a)) := by
  refine zM Tryd.func16 rfl (N := 32) rfl rfl (by simp) (by simp [noIds]) fun σ => ?_
  have p1 : (2 : Int) ^ min 24 IntKind.u32.bits = (16777216 : Nat) := by decide
  have p2 : (2 : Int) ^ min 16 IntKind.u32.bits = (65536 : Nat) := by decide
  have p3 : (2 : Int) ^ min 8 IntKind.u32.bits = (256 : Nat) := by decide
  have w8 : ∀ n : Nat, IntKind.u8.wrap (n : Int) = ((n % 256 : Nat) : Int) := fun n => by simp [IntKind.wrap, IntKind.bits, IntKind.signed]
  have fd : ∀ n b : Nat, Int.fdiv (n : Int) (b : Int) = ((n / b : Nat) : Int) := fun x b => by rw [Int.fdiv_eq_ediv_of_nonneg _ (by omega)]; exact (Int.natCast_ediv x b).symm
  have q1 : IntKind.u8.wrap (Int.fdiv a (2 ^ min 24 IntKind.u32.bits)) = ((a / 16777216 : Nat) : Int) := by rw [p1, fd, w8, Nat.mod_eq_of_lt (by omega)]
  have q2 : IntKind.u8.wrap (Int.fdiv a (2 ^ min 16 IntKind.u32.bits)) = ((a / 65536 % 256 : Nat) : Int) := by rw [p2, fd, w8]
  have q3 : IntKind.u8.wrap (Int.fdiv a (2 ^ min 8 IntKind.u32.bits)) = ((a / 256 % 256 : Nat) : Int) := by rw [p3, fd, w8]
  have q4 : IntKind.u8.wrap (a : Int) = ((a % 256 : Nat) : Int) := w8 a
  have FF := fI @q1 (fI @q2 (fI @q3 (fI @q4 (fI @zs (fI @zv @zh))))); refine gxC ?_; clear FF
  refine zao (fun n B ρ => Ext σ ρ ∧ B 19 = .agg ((zaZ a).map fun c => .raw (.int .u8 (c : Nat))) ∧ ∃ (k : Nat) (v : AV), B 4 = v ∧ OwnL σ ρ 1 v (((zaZ a).take k).map fun c => zo (dec c)) ∧ B 20 = .raw (.int .i64 k) ∧ k ≤ 4 ∧ n = 4 - k) 4 ?_ ?_
  · refine ⟨by simp (maxDischargeDepth := 30), by simp [zaZ, q1, q2, q3, q4], 0, _, rfl, .inl ⟨by simp, by simp⟩, by simp, by omega, by omega⟩
  clear q1 q2 q3 q4 p1 p2 p3 w8 fd
  rintro n B ρ ⟨hE, a19, k, v, a4, hO, a20, hk, rfl⟩ I1 hI1
  have ho4 : (zaZ a).length = 4 := rfl
  have hlt4 := zku h
  by_cases hlt : k < 4
  · have hx : (zaZ a)[k]? = some ((zaZ a)[k]'(by omega)) := List.getElem?_eq_getElem (by omega)
    have hb := hlt4 _ (List.getElem_mem (l := zaZ a) (n := k) (by omega))
    generalize (zaZ a)[k]'(by omega) = c at hx hb
    have w1 : IntKind.i64.wrap ((k : Int) + 1) = ((k + 1 : Nat) : Int) := by rw [zS (by omega) (by omega)]; omega
    have w2 : IntKind.i64.wrap (c : Int) = (c : Int) := zS (by omega) (by omega)
    have hI := zbw (c : Int) (by omega) (by omega)
    rw [zjH] at hI
    have hlt' : (k : Int) < 4 := by omega
    have hst : ((zaZ a).take (k + 1)).map (fun c => zo (dec c)) = ((zaZ a).take k).map (fun c => zo (dec c)) ++ [zo (dec c)] := by rw [List.take_add_one, hx]; simp
    (try ((first | with_reducible refine zu ?_ | with_reducible refine zA ?_ | with_reducible refine zB ?_); simp [-cellOK, a19, a4, a20, hlt', hx, w1, w2, zcg, zl2, -zI])); repeat' (first | ((first | refine zn ?_ | refine zr ?_ | refine dN (by decide +kernel) ?_ | refine dC (by decide +kernel) ?_ | refine uP (hI) ?_ | refine .inl ⟨_, .inl (hI), ?_⟩ | (refine zd ?_ ?_ <;> (intro hg; simp only [hg])) | fail) <;> simp [-cellOK, a19, a4, a20, hlt', hx, w1, w2, zcg, zl2, -zI]) | refine zp ?_ | refine zl ?_ | (refine zG ?_; simp only [zH]; try simp) | (refine zg (fun hc => ?_) (fun hc => ?_) <;> try simp at hc) | fail)
    refine zcq zmZ (hO.ext (Ext.new _ _ _ _)) (hE.trans (Ext.new _ _ _ _)) (ys := [zo (dec c)]) (by simp) (.inr rfl) (by simp [zo]) (by simp [ho4, Nat.min_eq_left hk]; omega) ?_
    intro v' τ' hO' hE' _ _
    have FF := fI @a19 (fI @a4 (fI @a20 @w1)); refine gxC ?_; clear FF
    exact hI1 (4 - (k + 1)) _ _ (by omega) ⟨hE', by simp [a19], k + 1, v', by simp, by rw [hst]; exact hO', by simp, by omega, rfl⟩
  · have : k = 4 := by omega
    subst this
    have ht : (zaZ a).take 4 = zaZ a := rfl
    rw [ht] at hO
    have hj := zf4 ((zaZ a).map dec) false [46] (by simp [zaZ]) (by have := zc3 h; unfold zaA at this; omega) (by simp [zaZ])
    have hls : zZ ((zaZ a).map dec) false = .sl 1 ((zaZ a).map fun c => zo (dec c)) false := by simp [zZ]
    rw [hls] at hj
    have FF := fI @a19 (fI @a4 @a20); refine gxC ?_; clear FF
    refine PCalls.useLent1 (b := zo [46]) hj rfl hO ?_
    unfold zaA zo
    exact zhN
def ztE (a n : Nat) : Bs := zaA a ++ [47] ++ dec n
theorem zkv (a b : Bs) : zF a ++ zF b = zF (a ++ b) := by
  rw [← zkt (zF a ++ zF b)]
  congr 1
def zaN (a b : Nat) : Bs := zaA a ++ [45] ++ zaA b
theorem zhm (a b : Nat) (h : a < 4294967296) (h' : b < 4294967296) : PCalls Tryd.prog 21 [.agg [.raw (.int .u32 a), .raw (.int .u32 b)]] (zo (zaN a b)) := by
  have h1 := zhl a h
  have h2 := zhl b h'
  have hl := zc3 h
  have hd := zc3 h'
  refine zM Tryd.func21 rfl (N := 11) rfl rfl (by simp) (by simp [noIds]) fun σ => ?_
  have e1 : (ByteArray.mk #[45]).size = 1 := rfl
  have s1 : ((zF (zaA a)).size : Int) + 1 ≤ 9223372036854775807 := by rw [zbL]; omega
  have s2 : ((zF (zaA a)).size : Int) + 1 + ((zF (zaA b)).size : Int) ≤ 9223372036854775807 := by rw [zbL, zbL]; omega
  have eX : zF (zaA a) ++ ByteArray.mk #[45] ++ zF (zaA b) = zF (zaN a b) := by
    have : ByteArray.mk #[45] = zF [45] := rfl
    rw [this, zkv, zkv]; rfl
  unfold zo at *
  generalize zF (zaN a b) = Z at *
  generalize zF (zaA a) = X at *
  generalize zF (zaA b) = Y at *
  have FF := fI @e1 (fI @s1 (fI @s2 (fI @eX (fI @zs (fI @zv @zh))))); exact gxA
end Go.Proofs.YtckabcbfbpejkaaDoor.Av
namespace Go.Proofs.YtckabcbfbpejkaaDoor.Av
open Go
set_option linter.unusedSimpArgs false
set_option linter.unusedVariables false
theorem znq (b : UInt8) : Lib.index [] [b] = -1 := by simp [Lib.index]
theorem zjI (b c : UInt8) (l : Bs) : Lib.index (c :: l) [b] = if c = b then 0 else if Lib.index l [b] = -1 then -1 else Lib.index l [b] + 1 := by
  have : ([b] : Bs).isPrefixOf (c :: l) = decide (c = b) := by
    by_cases h : c = b
    · subst h; simp [List.isPrefixOf]
    · have h' : ¬ b = c := fun e => h e.symm
      simp [List.isPrefixOf, h, h']
  rw [Lib.index, this]
  by_cases h : c = b <;> simp [h]
theorem zcT (b : UInt8) : ∀ l : Bs, (Lib.index l [b] = -1 ∧ zP b l = [l] ∧ b ∉ l) ∨ ∃ i : Nat, Lib.index l [b] = i ∧ i < l.length ∧ b ∉ l.take i ∧ zP b l = l.take i :: zP b (l.drop (i + 1))
  | [] => .inl ⟨znq b, rfl, by simp⟩
  | c :: l => by
    rw [zjI]
    by_cases hc : c = b
    · refine .inr ⟨0, by simp [hc], by simp, by simp, ?_⟩
      simp [zP, hc]
    · rw [if_neg hc]
      have hc' : ¬ b = c := fun e => hc e.symm
      rcases zcT b l with ⟨h1, h2, h3⟩ | ⟨i, h1, h2, h3, h4⟩
      · refine .inl ⟨by simp [h1], ?_, by simp [h3, hc']⟩
        simp [zP, hc, h2]
      · refine .inr ⟨i + 1, ?_, by simp [h2], by simp [h3, hc'], ?_⟩
        · rw [if_neg (by omega), h1]; simp
        · simp [zP, hc, h4]
theorem zke (b : UInt8) : ∀ (k : Nat) (s : ByteArray), Lib.countB s (zF [b]) = k → (Lib.splitB (zF [b]) 0 k s).map (·.data.toList) = zP b s.data.toList := by
  intro k
  induction k with
  | zero =>
    intro s hk
    rcases zcT b s.data.toList with ⟨h1, h2, _⟩ | ⟨i, h1, h2, _, h3⟩
    · rw [h2]; rfl
    · have := Lib.countB_hit s (zF [b]) i (by simp [zF, ByteArray.size]) h1
      omega
  | succ k ih =>
    intro s hk
    rcases zcT b s.data.toList with ⟨h1, h2, _⟩ | ⟨i, h1, h2, _, h3⟩
    · have := Lib.countB_miss s (zF [b]) h1
      omega
    · have := Lib.countB_hit s (zF [b]) i (by simp [zF, ByteArray.size]) h1
      rw [Lib.splitB_hit (zF [b]) 0 k s i h1, List.map_cons, ih _ (by omega), h3]
      have e1 : (zF [b]).size = 1 := rfl
      rw [e1, Lib.extract_to_end, Nat.add_zero]
      congr 1
      rw [Lib.extract_data]; simp
theorem zfs (b : UInt8) (s : Bs) : zfp s [b] = zP b s := by
  unfold zfp
  rw [zke b _ (zF s) rfl, zbj]
theorem zhX (b : UInt8) (s : Bs) : (Lib.cut s [b] = (s, [], false) ∧ zP b s = [s] ∧ b ∉ s) ∨ ∃ h t, s = h ++ b :: t ∧ b ∉ h ∧ Lib.cut s [b] = (h, t, true) ∧ zP b s = h :: zP b t := by
  rcases zcT b s with ⟨h1, h2, h3⟩ | ⟨i, h1, h2, h3, h4⟩
  · refine .inl ⟨?_, h2, h3⟩
    unfold Lib.cut; rw [h1, if_neg (by omega)]
  · refine .inr ⟨s.take i, s.drop (i + 1), ?_, h3, ?_, h4⟩
    · have hb : s[i] = b := by
        have : ∀ (l : Bs) (i : Nat) (hi : i < l.length), Lib.index l [b] = i → l[i] = b := by
          intro l
          induction l with
          | nil => intro i hi; simp at hi
          | cons c l ih =>
            intro i hi hx
            rw [zjI] at hx
            by_cases hc : c = b
            · rw [if_pos hc] at hx
              have : i = 0 := by omega
              subst this; simpa using hc
            · rw [if_neg hc] at hx
              split at hx
              · omega
              · obtain ⟨j, rfl⟩ : ∃ j, i = j + 1 := ⟨i - 1, by have := Lib.index_ge l [b]; omega⟩
                simp only [List.getElem_cons_succ]
                exact ih j (by simpa using hi) (by omega)
        exact this s i h2 h1
      rw [← hb, List.getElem_cons_drop, List.take_append_drop]
    · unfold Lib.cut; rw [h1, if_pos (by omega)]; simp
theorem zft (b : UInt8) : ∀ (l : Bs), ∀ x ∈ zP b l, x.length ≤ l.length
  | [] => by simp [zP]
  | c :: l => by
    have ih := zft b l
    intro x hx
    unfold zP at hx
    split at hx
    · rcases List.mem_cons.1 hx with rfl | hx
      · simp
      · have := ih x hx; simp; omega
    · cases hp : zP b l with
      | nil => exact absurd hp (zlj b l)
      | cons p ps =>
        rw [hp] at hx ih
        simp only [List.mem_cons] at hx ih
        rcases hx with rfl | hx
        · have := ih p (.inl rfl); simp; omega
        · have := ih x (.inr hx); simp; omega
def zcz : List Bs → Nat → Option Nat
  | [], a => some a
  | x :: r, a => match zbl 255 x with | some n => zcz r (a * 256 + n) | none => none
def zbh (s : Bs) : Option Nat := if (zP 46 s).length = 4 then zcz (zP 46 s) 0 else none
theorem zjJ {m : Nat} {x : Bs} {n : Nat} (h : zbl m x = some n) : n ≤ m := (zcl.1 h).2
theorem zjK : ∀ (l : List Bs) (a k r : Nat), a < 256 ^ k → zcz l a = some r → r < 256 ^ (k + l.length)
  | [], a, k, r, h, e => by simp only [zcz, Option.some.injEq] at e; subst e; simpa using h
  | x :: l, a, k, r, h, e => by
    unfold zcz at e
    split at e
    · rename_i n hn
      have := zjK l _ (k + 1) r (by have := zjJ hn; rw [Nat.pow_succ]; omega) e
      rw [List.length_cons]
      rwa [show k + (l.length + 1) = k + 1 + l.length by omega]
    · cases e
theorem zdI {s : Bs} {a : Nat} (h : zbh s = some a) : a < 4294967296 := by
  unfold zbh at h
  split at h
  · rename_i hl
    have := zjK _ 0 0 a (by decide) h
    rw [hl] at this
    simpa using this
  · cases h
def zbU (a n : Nat) : Bool := decide (n ≤ 32) && decide (a % 2 ^ (32 - n) = 0)
def zdk (s : Bs) : Option (Nat × Nat) := match zbh (Lib.cut s [47]).1, zbl 32 (Lib.cut s [47]).2.1 with
  | some a, some n => if (Lib.cut s [47]).2.2 = true ∧ zbU a n = true then some (a, n) else none
  | _, _ => none
def zb3 (s : Bs) : Option (Nat × Nat) := match zdk s with
  | some (a, n) => some (a, a + 2 ^ (32 - n) - 1)
  | none => match zbh (Lib.cut s [45]).1, zbh (Lib.cut s [45]).2.1 with
    | some a, some b => if (Lib.cut s [45]).2.2 = true ∧ a ≤ b then some (a, b) else none
    | _, _ => none
def zfu (o : Option Nat) : AV := match o with | some a => .tup [.raw (.int .u32 a), .raw (.int .i64 0)] | none => .tup [.raw (.int .u32 0), .raw (.int .i64 21)]
def zhn (o : Option (Nat × Nat)) : AV := match o with | some (a, n) => .tup [.agg [.raw (.int .u32 a), .raw (.int .i64 n)], .raw (.int .i64 0)] | none => .tup [.agg [.raw (.int .u32 0), .raw (.int .i64 0)], .raw (.int .i64 21)]
def zfJ (o : Option (Nat × Nat)) : AV := match o with | some (a, b) => .tup [.agg [.raw (.int .u32 a), .raw (.int .u32 b)], .raw (.int .i64 0)] | none => .tup [.agg [.raw (.int .u32 0), .raw (.int .u32 0)], .raw (.int .i64 21)]
end Go.Proofs.YtckabcbfbpejkaaDoor.Av
namespace Go.Proofs.YtckabcbfbpejkaaDoor.Av
open Go
set_option linter.unusedSimpArgs false
set_option linter.unusedVariables false
set_option maxRecDepth 100000
set_option maxHeartbeats 4000000
set_option pp.maxSteps 600
theorem znr {a n : Nat} (ha : a < 16777216) (hn : n < 256) : IntKind.u32.wrap (((((a * 256 : Nat) : Int) % 2 ^ IntKind.u32.bits).toNat ||| ((n : Int) % 2 ^ IntKind.u32.bits).toNat : Nat) : Int) = ((a * 256 + n : Nat) : Int) := by
  rw [zcK (by omega) (by omega), zcK (by omega) (by omega), Int.toNat_natCast, Int.toNat_natCast]
  have e : a * 256 ||| n = a * 256 + n := by
    have := Nat.two_pow_add_eq_or_of_lt (b := n) (i := 8) (by omega) a
    rw [Nat.mul_comm]; exact this.symm
  rw [e, zef (by omega) (by omega)]
theorem zho (x : Bs) (r : List Bs) (a : Nat) : zcz (x :: r) a = match zbl 255 x with | some n => zcz r (a * 256 + n) | none => none := rfl
theorem zmL (o : Option Nat) : noIds (zfu o) := by unfold zfu noIds; split <;> simp [AV.ids, zt]
theorem zcA (s : Bs) (hs : s.length ≤ 1000) : PCalls Tryd.prog 28 [zo s] (zfu (zbh s)) := by
  have hS := zf3 s [46] (by omega) (by simp)
  rw [zfs] at hS
  have hlen := zft 46 s
  refine zM Tryd.func28 rfl (N := 35) rfl rfl (by simp) (zmL _) fun σ => ?_
  unfold zbh
  generalize zP 46 s = ps at *
  by_cases h4 : ps.length = 4
  · rw [if_pos h4]
    obtain ⟨T, hT⟩ : ∃ T, zcz ps 0 = T := ⟨_, rfl⟩
    rw [hT]
    have h4' : (ps.length : Int) = 4 := by omega
    have FF := fI zZ.eq_1 @h4'; refine gxC ?_; clear FF
    refine zao (fun n B ρ => Ext σ ρ ∧ B 15 = zZ ps true ∧ B 16 = .raw (.int .i64 4) ∧ ∃ k a : Nat, B 17 = .raw (.int .i64 k) ∧ k ≤ 4 ∧ n = 4 - k ∧ B 5 = .raw (.int .u32 a) ∧ a < 256 ^ k ∧ zcz (ps.drop k) a = T) 4 ?_ ?_
    · exact ⟨by simp (maxDischargeDepth := 30), by simp [zZ], by simp [h4'], 0, 0, by simp, by omega, by omega, by simp, by decide, by simpa using hT⟩
    rintro n B ρ ⟨hE, a15, a16, k, a, a17, hk, rfl, a5, ha, hf⟩ I1 hI1
    by_cases hlt : k < 4
    · have hkl : k < ps.length := by omega
      have hx : ps[k]? = some ps[k] := List.getElem?_eq_getElem hkl
      have w1 : IntKind.i64.wrap ((k : Int) + 1) = ((k + 1 : Nat) : Int) := by rw [zS (by omega) (by omega)]; omega
      have hlt' : (k : Int) < 4 := by omega
      have hN := zfr 255 ps[k] (by omega) (by have := hlen _ (List.getElem_mem hkl); omega)
      have hd : ps.drop k = ps[k] :: ps.drop (k + 1) := (List.getElem_cons_drop hkl).symm
      rw [hd] at hf
      generalize ps[k] = x at *
      unfold zjG at hN
      have ha24 : a < 16777216 := Nat.lt_of_lt_of_le ha (by have : 256 ^ k ≤ 256 ^ 3 := Nat.pow_le_pow_right (by omega) (by omega); simpa using this)
      cases hn : zbl 255 x with
      | none =>
        rw [hn] at hN
        rw [zho, hn] at hf
        simp only [] at hf
        subst hf
        have hr : zfu none = .tup [.raw (.int .u32 0), .raw (.int .i64 21)] := rfl
        rw [hr]
        have FF := fI zZ.eq_1 (fI @a15 (fI @a16 (fI @a17 (fI @a5 (fI @hlt' (fI @hx @zcg)))))); exact gxA
      | some c =>
        have e0 := ziW hn (by omega)
        have hc := zjJ hn
        rw [hn, e0] at hN
        rw [zho, hn] at hf
        simp only [] at hf
        obtain ⟨y, hy⟩ : ∃ y, a * 256 + c = y := ⟨_, rfl⟩
        have p8 : (2 : Int) ^ min 8 IntKind.u32.bits = (256 : Nat) := by decide
        have e1 : IntKind.u32.wrap ((a : Int) * 2 ^ min 8 IntKind.u32.bits) = ((a * 256 : Nat) : Int) := by rw [p8, zef (by omega) (by omega)]; omega
        have e2 : IntKind.u32.wrap (c : Int) = c := zef (by omega) (by omega)
        have e3 := znr ha24 (n := c) (by omega)
        rw [hy] at e3 hf
        have hy2 : y < 256 ^ (k + 1) := by rw [Nat.pow_succ]; omega
        generalize a * 256 = m at *
        have FF := fI zZ.eq_1 (fI @a15 (fI @a16 (fI @a17 (fI @a5 (fI @hlt' (fI @hx (fI @zcg (fI @e1 (fI @e2 (fI @e3 @w1)))))))))); refine gxC ?_; clear FF
        exact hI1 (4 - (k + 1)) _ _ (by omega) ⟨hE, by simp [a15, zZ], by simp [a16], k + 1, y, by simp, by omega, rfl, by simp, hy2, hf⟩
    · have : k = 4 := by omega
      subst this
      rw [List.drop_eq_nil_of_le (by omega)] at hf
      subst hf
      have hf0 : zcz [] a = some a := rfl
      rw [hf0]
      have hr : zfu (some a) = .tup [.raw (.int .u32 a), .raw (.int .i64 0)] := rfl
      rw [hr]
      have FF := fI @a15 (fI @a16 (fI @a17 @a5)); exact gxA
  · rw [if_neg h4]
    have h4' : ¬ (ps.length : Int) = 4 := by omega
    have hr : zfu none = .tup [.raw (.int .u32 0), .raw (.int .i64 21)] := rfl
    rw [hr]
    have FF := fI zZ.eq_1 @h4'; exact gxA
theorem cut_len (s : Bs) (b : UInt8) : (Lib.cut s [b]).1.length ≤ s.length ∧ (Lib.cut s [b]).2.1.length ≤ s.length := by
  rcases zhX b s with ⟨h, _, _⟩ | ⟨x, y, e, _, h, _⟩
  · rw [h]; simp
  · rw [h, e]; simp; omega
theorem zhp (a n : Nat) : rightB ⟨a, n⟩ = zbU a n := by
  have e : (2 : Int) ^ (32 - n) = ((2 ^ (32 - n) : Nat) : Int) := by simp
  have e2 : ((a : Int) % 2 ^ (32 - n) = 0) ↔ a % 2 ^ (32 - n) = 0 := by rw [e]; omega
  simp only [rightB, zbU, Int.toNat_natCast, e2]
  rw [Bool.eq_iff_iff]
  simp only [Bool.and_eq_true, decide_eq_true_eq]
  constructor
  · rintro ⟨_, h, k⟩; exact ⟨by omega, k⟩
  · rintro ⟨h, k⟩; exact ⟨by omega, by omega, k⟩
theorem zl3 (o : Option (Nat × Nat)) : noIds (zhn o) := by unfold zhn noIds; split <;> simp [AV.ids, zt]
theorem zl4 (o : Option (Nat × Nat)) : noIds (zfJ o) := by unfold zfJ noIds; split <;> simp [AV.ids, zt]
theorem zcB : zhn none = .tup [.agg [.raw (.int .u32 0), .raw (.int .i64 0)], .raw (.int .i64 21)] := rfl
theorem zhq (a n : Nat) : zhn (some (a, n)) = .tup [.agg [.raw (.int .u32 a), .raw (.int .i64 n)], .raw (.int .i64 0)] := rfl
theorem zbV : zfJ none = .tup [.agg [.raw (.int .u32 0), .raw (.int .u32 0)], .raw (.int .i64 21)] := rfl
theorem zcC (a n : Nat) : zfJ (some (a, n)) = .tup [.agg [.raw (.int .u32 a), .raw (.int .u32 n)], .raw (.int .i64 0)] := rfl
theorem zdU : zfu none = .tup [.raw (.int .u32 0), .raw (.int .i64 21)] := rfl
theorem zdV (a : Nat) : zfu (some a) = .tup [.raw (.int .u32 a), .raw (.int .i64 0)] := rfl
theorem zkf (s : Bs) (hs : s.length ≤ 1000) : PCalls Tryd.prog 30 [zo s] (zhn (zdk s)) := by
  have hC := zhj s [47] (by omega)
  obtain ⟨l1, l2⟩ := cut_len s 47
  have hA := zcA (Lib.cut s [47]).1 (by omega)
  have hN := zfr 32 (Lib.cut s [47]).2.1 (by omega) (by omega)
  have lt := fun a => zdI (s := (Lib.cut s [47]).1) (a := a)
  have ai := fun n => ziW (most := 32) (s := (Lib.cut s [47]).2.1) (n := n)
  unfold zdk
  unfold zjG at hN
  generalize (Lib.cut s [47]).1 = h at *
  generalize (Lib.cut s [47]).2.1 = t at *
  generalize (Lib.cut s [47]).2.2 = b at *
  refine zM Tryd.func30 rfl (N := 48) rfl rfl (by simp) (zl3 _) fun σ => ?_
  cases ha : zbh h with
  | none =>
    rw [ha, zdU] at hA
    generalize zbl 32 t = o at *
    rw [zcB]
    cases b
    all_goals
      have FF := fI @zs (fI @zv @zh); exact gxA
  | some a =>
    have la := lt a ha
    rw [ha, zdV] at hA
    cases hn : zbl 32 t with
    | none =>
      rw [hn] at hN
      simp only []
      rw [zcB]
      cases b
      all_goals
        have FF := fI @zs (fI @zv @zh); exact gxA
    | some n =>
      rw [hn, ai n hn (by omega)] at hN
      have hR := zf5 ⟨a, n⟩ (by simp) (by simp; omega)
      rw [zhp] at hR
      unfold zc7 at hR
      simp only []
      cases b with
      | false =>
        rw [if_neg (by simp), zcB]
        have FF := fI @zs (fI @zv @zh); exact gxA
      | true =>
        cases hr : zbU a n with
        | true =>
          rw [hr] at hR
          rw [if_pos ⟨rfl, rfl⟩, zhq]
          have FF := fI @zs (fI @zv @zh); exact gxA
        | false =>
          rw [hr] at hR
          rw [if_neg (by simp), zcB]
          have FF := fI @zs (fI @zv @zh); exact gxA
end Go.Proofs.YtckabcbfbpejkaaDoor.Av
namespace Go.Proofs.YtckabcbfbpejkaaDoor.Av
open Go
set_option linter.unusedSimpArgs false
set_option linter.unusedVariables false
set_option maxRecDepth 100000
set_option maxHeartbeats 4000000
set_option pp.maxSteps 600
theorem zhr {s : Bs} {a n : Nat} (h : zdk s = some (a, n)) : zbh (Lib.cut s [47]).1 = some a ∧ zbl 32 (Lib.cut s [47]).2.1 = some n ∧ (Lib.cut s [47]).2.2 = true ∧ zbU a n = true := by
  unfold zdk at h
  split at h
  · rename_i a' n' h1 h2
    split at h
    · rename_i hc
      simp only [Option.some.injEq, Prod.mk.injEq] at h
      obtain ⟨rfl, rfl⟩ := h
      exact ⟨h1, h2, hc.1, hc.2⟩
    · cases h
  · cases h
theorem zk7 {a n : Nat} (h : zbU a n = true) : zc2 ⟨a, n⟩ = zfJ (some (a, a + 2 ^ (32 - n) - 1)) := by
  unfold zc2
  rw [zhp, h, if_pos rfl, zcC]
  have h2 : 0 < 2 ^ (32 - n) := Nat.pow_pos (by omega)
  have e : (a : Int) + 2 ^ (32 - n) - 1 = ((a + 2 ^ (32 - n) - 1 : Nat) : Int) := by
    have : (2 : Int) ^ (32 - n) = ((2 ^ (32 - n) : Nat) : Int) := by simp
    rw [this]; omega
  simp only [Int.toNat_natCast, e]; rfl
theorem zdJ (s : Bs) (hs : s.length ≤ 1000) : PCalls Tryd.prog 32 [zo s] (zfJ (zb3 s)) := by
  have hP := zkf s hs
  refine zM Tryd.func32 rfl (N := 59) rfl rfl (by simp) (zl4 _) fun σ => ?_
  unfold zb3
  cases hp : zdk s with
  | some p =>
    obtain ⟨a, n⟩ := p
    obtain ⟨h1, _, _, h4⟩ := zhr hp
    have la := zdI h1
    have hR := zkc ⟨a, n⟩ (by simp) (by simp; omega)
    rw [zk7 h4] at hR
    rw [hp, zhq] at hP
    simp only []
    unfold zc7 at hR
    generalize a + 2 ^ (32 - n) - 1 = e at *
    rw [zcC] at hR ⊢
    have FF := fI @zs (fI @zv @zh); exact gxA
  | none =>
    rw [hp, zcB] at hP
    simp only []
    clear hp
    have hC := zhj s [45] (by omega)
    obtain ⟨l1, l2⟩ := cut_len s 45
    have hA := zcA (Lib.cut s [45]).1 (by omega)
    have hB := zcA (Lib.cut s [45]).2.1 (by omega)
    generalize (Lib.cut s [45]).1 = h at *
    generalize (Lib.cut s [45]).2.1 = t at *
    generalize (Lib.cut s [45]).2.2 = b at *
    cases ha : zbh h with
    | none =>
      rw [ha, zdU] at hA
      rw [zbV]
      cases hb : zbh t with
      | none =>
        rw [hb, zdU] at hB
        cases b
        all_goals
          have FF := fI @zs (fI @zv @zh); exact gxA
      | some c =>
        rw [hb, zdV] at hB
        cases b
        all_goals
          have FF := fI @zs (fI @zv @zh); exact gxA
    | some a =>
      rw [ha, zdV] at hA
      cases hb : zbh t with
      | none =>
        rw [hb, zdU] at hB
        simp only []
        rw [zbV]
        cases b
        all_goals
          have FF := fI @zs (fI @zv @zh); exact gxA
      | some c =>
        rw [hb, zdV] at hB
        simp only []
        by_cases hle : a ≤ c
        · have hle' : ¬ c < a := by omega
          cases b
          · rw [if_neg (by simp), zbV]
            have FF := fI @hle (fI @hle' (fI @zs (fI @zv @zh))); exact gxA
          · rw [if_pos ⟨rfl, hle⟩, zcC]
            have FF := fI @hle (fI @hle' (fI @zs (fI @zv @zh))); exact gxA
        · have hle' : c < a := by omega
          rw [if_neg (by simp [hle]), zbV]
          cases b
          all_goals
            have FF := fI @hle (fI @hle' (fI @zs (fI @zv @zh))); exact gxA
end Go.Proofs.YtckabcbfbpejkaaDoor.Av
