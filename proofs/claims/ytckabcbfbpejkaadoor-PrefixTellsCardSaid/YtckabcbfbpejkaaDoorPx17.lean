/- Prefix: the laws PrefixTexts, PrefixTells, PrefixSplit, PrefixParses, PrefixBack. Part 17 of 19: AvS6, AvS7, AvS8, AvP7, AvS9, AvP8, AvSA, AvSC, AvP9, AvSD, AvSE, AvSB, AvSF, AvPA, AvSG. -/
import Derived.Test.YtckabcbfbpejkaaDoorPx8
import Derived.Test.YtckabcbfbpejkaaDoorPx9
import Derived.Test.YtckabcbfbpejkaaDoorPx11
import Derived.Test.YtckabcbfbpejkaaDoorPx16
import Derived.Lib.TrailingZeros
namespace Go.Proofs.YtckabcbfbpejkaaDoor.Av
open Go
set_option linter.unusedSimpArgs false
set_option linter.unusedVariables false
set_option maxRecDepth 100000
set_option maxHeartbeats 4000000
set_option pp.maxSteps 600
def zw (a b : Nat) : Nat := min (min (Lib.ctz 64 a) 32) (Sort.bitsLen (b + 1 - a) - 1)
def zA (a b : Nat) : List (Nat × Nat) := if a ≤ b then (a, 32 - zw a b) :: zA (a + 2 ^ zw a b) b else []
termination_by b + 1 - a
decreasing_by have : 0 < 2 ^ zw a b := Nat.pow_pos (by omega); omega
def pfN (p : Nat × Nat) : AV := .agg [.raw (.int .u32 p.1), .raw (.int .i64 p.2)]
theorem zaW (p : Nat × Nat) : (pfN p).cells = [.raw (.int .u32 p.1), .raw (.int .i64 p.2)] := rfl
theorem zbU (a b : Nat) (h : a ≤ b) (hb : b < 4294967296) : zw a b ≤ 32 ∧ 2 ^ zw a b ≤ b + 1 - a ∧ 1 ≤ Sort.bitsLen (b + 1 - a) ∧ Sort.bitsLen (b + 1 - a) ≤ 33 := by
  have h1 : ¬ Sort.bitsLen (b + 1 - a) ≤ 0 := fun e => by rw [Sort.bitsLen_le_iff] at e; simp at e; omega
  have h2 : Sort.bitsLen (b + 1 - a) ≤ 33 := (Sort.bitsLen_le_iff _ _).2 (by simp; omega)
  refine ⟨by unfold zw; omega, ?_, by omega, h2⟩
  have h3 : ¬ Sort.bitsLen (b + 1 - a) ≤ Sort.bitsLen (b + 1 - a) - 1 := by omega
  rw [Sort.bitsLen_le_iff] at h3
  have : 2 ^ zw a b ≤ 2 ^ (Sort.bitsLen (b + 1 - a) - 1) := Nat.pow_le_pow_right (by omega) (by unfold zw; omega)
  omega
theorem zX {a b : Nat} (h : a ≤ b) : zA a b = (a, 32 - zw a b) :: zA (a + 2 ^ zw a b) b := by rw [zA, if_pos h]
theorem zaa {a b : Nat} (h : ¬ a ≤ b) : zA a b = [] := by rw [zA, if_neg h]
theorem zmq (x : Nat) : Lib.ctz 64 x ≤ 64 := by
  have : ∀ f x, Lib.ctzFrom f x ≤ f := by
    intro f
    induction f with
    | zero => intro x; simp [Lib.ctzFrom]
    | succ f ih => intro x; unfold Lib.ctzFrom; split <;> have := ih (x / 2) <;> omega
  unfold Lib.ctz
  split
  · omega
  · exact this 64 x
theorem zfQ {a b : Nat} (i : Id) (his : i.sz = 2) (ha : a < 4294967296) (hb : b < 4294967296) : zmn Tryd.prog 75 [.rp i 0 0] i (.buf [.agg [.raw (.int .u32 a), .raw (.int .u32 b)]]) ((zA a b).map pfN) := by
  intro bb I J h1 h2 h3 σ hi h0
  refine zlp Tryd.func75 rfl (N := 36) rfl rfl (by simp) ?_
  have wa : IntKind.u64.wrap (a : Int) = a := zc0 (by omega) (by omega)
  have wb : IntKind.u64.wrap (b : Int) = b := zc0 (by omega) (by omega)
  have FF := fI @his (fI @hi (fI @wa @wb)); refine goC ?_; clear FF
  refine zav (fun n A τ => ∃ k at_ : Nat, A 0 = .fn (.yield bb) [] [] ∧ A 3 = .raw (.int .u64 at_) ∧ A 4 = .raw (.int .u64 b) ∧ τ.m i = some (.buf [.agg [.raw (.int .u32 a), .raw (.int .u32 b)]]) ∧ I k τ ∧ (zA a b).drop k = zA at_ b ∧ k + (zA at_ b).length = (zA a b).length ∧ n = b + 1 - at_) (b + 1 - a) ?_ ?_
  · exact ⟨0, a, by simp, by simp, by simp, hi, h0, by simp, by simp, rfl⟩
  rintro n A τ ⟨k, at_, a0, a3, a4, hti, hIk, hd, hkl, rfl⟩ I1 hI1
  by_cases hle : at_ ≤ b
  · have hle' : (at_ : Int) ≤ b := by omega
    obtain ⟨s1, s2, s3, s4⟩ := zbU at_ b hle hb
    have hT := zk6 at_ (by omega)
    have hL := Zn.len64_calls (b + 1 - at_) (by omega)
    have e1 : IntKind.u64.wrap ((b : Int) - at_) = ((b - at_ : Nat) : Int) := by rw [zc0 (by omega) (by omega)]; omega
    have e2 : IntKind.u64.wrap (((b - at_ : Nat) : Int) + 1) = ((b + 1 - at_ : Nat) : Int) := by rw [zc0 (by omega) (by omega)]; omega
    have e3 : IntKind.i64.wrap ((Sort.bitsLen (b + 1 - at_) : Int) - 1) = ((Sort.bitsLen (b + 1 - at_) - 1 : Nat) : Int) := by rw [zq (by omega) (by omega)]; omega
    rw [zX hle] at hd hkl
    have hcl := zmq at_
    have hst : min (min ((Lib.ctz 64 at_ : Nat) : Int) 32) ((Sort.bitsLen (b + 1 - at_) - 1 : Nat) : Int) = (zw at_ b : Nat) := by unfold zw; omega
    have e4 : IntKind.u32.wrap (at_ : Int) = at_ := zbM (by omega) (by omega)
    have e5 : IntKind.i64.wrap (32 - (zw at_ b : Int)) = ((32 - zw at_ b : Nat) : Int) := by rw [zq (by omega) (by omega)]; omega
    have hall : ∀ m, m < 33 → IntKind.u64.wrap (2 ^ min m IntKind.u64.bits) = ((2 ^ m : Nat) : Int) := by decide
    obtain ⟨pw, hpw⟩ : ∃ pw, 2 ^ zw at_ b = pw := ⟨_, rfl⟩
    have hpw0 : 0 < pw := by rw [← hpw]; exact Nat.pow_pos (by omega)
    have e6 := hall (zw at_ b) (by omega)
    rw [hpw] at s2 e6 hd hkl
    have e7 : IntKind.u64.wrap ((at_ : Int) + (pw : Int)) = ((at_ + pw : Nat) : Int) := by rw [zc0 (by omega) (by omega)]; omega
    have e8 : (0 : Int) ≤ (zw at_ b : Nat) := by omega
    have hq : at_ < at_ + pw := by omega
    clear hpw
    clear hall
    generalize zw at_ b = m at *
    generalize at_ + pw = q at *
    generalize 32 - m = m2 at *
    generalize Lib.ctz 64 at_ = c at *
    generalize hL1 : Sort.bitsLen (b + 1 - at_) = L at *
    generalize L - 1 = L1 at *
    generalize b - at_ = d1 at *
    generalize hd2 : b + 1 - at_ = d2 at *
    have FF := fI @a0 (fI @a3 (fI @a4 (fI @hle' (fI @e1 (fI @e2 (fI @e3 @hst)))))); refine gxC ?_; clear FF
    have hk : ((zA a b).map pfN)[k]? = some (pfN (at_, m2)) := by
      rw [List.getElem?_map]
      have : (zA a b)[k]? = some (at_, m2) := by
        have h := congrArg (fun l => l[0]?) hd
        simpa using h
      rw [this]; rfl
    have hy := h3 k _ _ _ hk hIk hti
    unfold pfN at hy
    rw [e4, e5]
    refine YK.mono ?_ hy
    rintro _ τ2 (⟨rfl, q1, q2⟩ | ⟨rfl, q3⟩)
    · have FF := fI @a0 (fI @a3 (fI @a4 (fI @e6 (fI @e7 @e8)))); refine goB ?_; clear FF
      refine hI1 (b + 1 - q) _ _ (by omega) ⟨k + 1, q, by simp [a0], by simp, by simp [a4], q2, q1, ?_, by simp at hkl; omega, rfl⟩
      have h := congrArg (fun l => l.drop 1) hd
      simpa [List.drop_drop, Nat.add_comm] using h
    · have FF := fI @a0 (fI @a3 @a4); refine goB ?_; clear FF
      exact zgT (x := .tup []) (.inr rfl) (by simp) (.inr q3)
  · have hle' : ¬ (at_ : Int) ≤ b := by omega
    rw [zaa hle] at hkl
    have FF := fI @a0 (fI @a3 (fI @a4 @hle')); refine goB ?_; clear FF
    refine zgT (x := .tup []) (.inl rfl) (by simp) (.inl ?_)
    have hk : k = (zA a b).length := by simpa using hkl
    rw [← hk]; exact hIk
theorem zch (a b : Nat) : (zA a b).length ≤ b + 1 - a := by
  by_cases h : a ≤ b
  · rw [zX h, List.length_cons]
    have h2 : 0 < 2 ^ zw a b := Nat.pow_pos (by omega)
    have := zch (a + 2 ^ zw a b) b
    omega
  · rw [zaa h]; simp
termination_by b + 1 - a
decreasing_by omega
theorem zgF (a b : Nat) {σ : St} : ACalls Tryd.prog 51 [.agg [.raw (.int .u32 a), .raw (.int .u32 b)]] σ fun r τ => ∃ i, r = .fn (.func 75) [] [.rp i 0 0] ∧ i.sz = 2 ∧ σ.m i = none ∧ τ.m i = some (.buf [.agg [.raw (.int .u32 a), .raw (.int .u32 b)]]) ∧ Ext σ τ := by
  refine zlp Tryd.func51 rfl (N := 4) rfl rfl (by simp) ?_
  refine zow ?_
  refine zgT (x := .fn (.func 75) [] [.rp ⟨1, σ.nx 1, 2⟩ 0 0]) (.inr rfl) (by simp) ⟨_, rfl, rfl, zah _ _ _, by simp, Ext.new _ _ _ _⟩
def zV (l : List (Nat × Nat)) (f : Bool) : AV := .sl 2 (l.map pfN) f
theorem zit (K : Id → Prop) : ∀ l : List (Nat × Nat), zg K (l.map pfN)
  | [] => by simp [zg]
  | a :: l => by simp only [List.map_cons, zg]; exact ⟨by simp [pfN, AV.ids, zg], zit K l⟩
@[simp] theorem zoV (K : Id → Prop) (l : List (Nat × Nat)) (f : Bool) : (zV l f).ids K := by simp only [zV, AV.ids]; exact zit K l
def zax (a b : Nat) : AV := if a ≤ b then .tup [zV (zA a b) false, .raw (.int .i64 0)] else .tup [.sl 0 [] true, .raw (.int .i64 21)]
theorem zci (a b : Nat) (ha : a < 4294967296) (hb : b < 4294967296) : PCalls Tryd.prog 24 [.agg [.raw (.int .u32 a), .raw (.int .u32 b)]] (zax a b) := by
  refine zL Tryd.func24 rfl (N := 19) rfl rfl (by simp) (by unfold zax noIds; split <;> simp [AV.ids, zg]) fun σ => ?_
  by_cases hle : a ≤ b
  · have hle' : ¬ (b : Int) < a := by omega
    have hr : zax a b = .tup [zV (zA a b) false, .raw (.int .i64 0)] := by unfold zax; rw [if_pos hle]
    rw [hr]
    have FF := fI @hle' (fI @zh (fI @zl @zb)); refine goC ?_; clear FF
    have hlen := zch a b
    have hit := fun (i : Id) (his : i.sz = 2) => zfQ (a := a) (b := b) i his ha hb
    have hgo := fun σ => zgF a b (σ := σ)
    generalize zA a b = w at *
    have hE1 : Ext σ ((σ.new 1 2 (.buf [.agg [.raw (.int .u32 a), .raw (.int .u32 b)]])).new 4 1 (.buf [.sl 0 [] true])) := (Ext.new _ _ _ _).trans (Ext.new _ _ _ _)
    have hw0 : σ.m ⟨4, σ.nx 4, 1⟩ = none := zah _ _ _
    have hwm : ((σ.new 1 2 (.buf [.agg [.raw (.int .u32 a), .raw (.int .u32 b)]])).new 4 1 (.buf [.sl 0 [] true])).m ⟨4, σ.nx 4, 1⟩ = some (.buf [.sl 0 [] true]) := by simp [zh, zb]
    generalize (σ.new 1 2 (.buf [.agg [.raw (.int .u32 a), .raw (.int .u32 b)]])).new 4 1 (.buf [.sl 0 [] true]) = τ1 at *
    refine (hgo τ1).mono ?_
    rintro _ τ3 ⟨i, rfl, his, hi0, hi, hE3⟩
    have hE : Ext σ τ3 := hE1.trans hE3
    have hi0' : σ.m i = none := by
      cases h : σ.m i with
      | none => rfl
      | some o => have := hE1.m i o h; rw [hi0] at this; cases this
    have hwi : (⟨4, σ.nx 4, 1⟩ : Id) ≠ i := fun e => by rw [← e, hwm] at hi0; cases hi0
    have hwm := hE3.m _ _ hwm
    generalize (⟨4, σ.nx 4, 1⟩ : Id) = wv at *
    refine zmo ?_
    refine zjB (f := 75) (w := wv) (es0 := []) (n := 2) (by simp) (hit i his) hE hi hi0' hwm hw0 hwi OwnL.nil ⟨by simp, by simp⟩ ?_ ?_
    · intro bb lo L k x τ c hlo hL0 hLi hwL hx hG hc
      obtain ⟨r, hr, rfl⟩ : ∃ r, w[k]? = some r ∧ x = pfN r := by
        rw [List.getElem?_map] at hx
        cases h : w[k]? with
        | none => rw [h] at hx; cases hx
        | some r => rw [h] at hx; injection hx with hx; exact ⟨r, rfl, hx.symm⟩
      have hk := (List.getElem?_eq_some_iff.1 hr).1
      refine YK.of hG.lp hlo rfl ?_
      clear hlo
      have h2 := hG.lp
      have fold : ∀ r : Nat × Nat, AV.agg [.raw (.int .u32 r.1), .raw (.int .i64 r.2)] = pfN r := fun _ => rfl
      obtain ⟨g1, g2, g3, g4, v, g5, g6, g7⟩ := hG.start (slot := 5) (sz := 2) (x := .buf [pfN r]) (lo2 := lo .busy none) hc hL0 hwL hLi
      (try ((first | with_reducible refine z6 ?_ | with_reducible refine zam ?_ | with_reducible refine zan ?_); simp [-zB, h2, zaW, fold])); repeat' (first | ((first | refine zY ?_ | refine z8 ?_ | refine dN (by decide +kernel) ?_ | (refine zp ?_ ?_ <;> (intro hg; simp only [hg])) | fail) <;> simp [-zB, h2, zaW, fold]) | refine z1 ?_ | refine zH ?_ | (refine zaM ?_; simp only [zaN]; try simp) | ((first | refine zat (by simp) ?_ | refine zbl (by simp) (by simp) (by simp (maxDischargeDepth := 30) [-zB, h2, zaW, fold]) ?_ | fail); simp) | (refine zE (fun hc => ?_) (fun hc => ?_) <;> try simp at hc) | fail)
      generalize (τ.new 5 2 (.buf [pfN r])).set L (lo .busy none) = s at *
      generalize (⟨5, τ.nx 5, 2⟩ : Id) = r5 at *
      have hvc := g6.cells
      (try ((first | with_reducible refine z6 ?_ | with_reducible refine zam ?_ | with_reducible refine zan ?_); simp [-zB, g1, g5, zaW, fold, hvc])); repeat' (first | ((first | refine z8 ?_ | refine dN (by decide +kernel) ?_ | (refine zp ?_ ?_ <;> (intro hg; simp only [hg])) | fail) <;> simp [-zB, g1, g5, zaW, fold, hvc]) | refine z1 ?_ | refine zH ?_ | (refine zaM ?_; simp only [zaN]; try simp) | ((first | refine zat (by simp) ?_ | refine zbl (by simp) (by simp) (by simp (maxDischargeDepth := 30) [-zB, g1, g5, zaW, fold, hvc]) ?_ | fail); simp) | (apply zeb; focus (simp [-zB, g1, g5, zaW, fold, hvc]; done)) | (apply zec; focus (simp [-zB, g1, g5, zaW, fold, hvc]; done)) | fail)
      have hEs := Ext.new s 16 2 (.buf [pfN r])
      refine zcU zlq (g6.ext hEs) (g4.trans hEs) (ys := [pfN r]) (by simp) (.inr rfl) (by simp [pfN]) (by simp; omega) ?_
      intro v' τ2 hO2 hE2 hkeep hnx
      obtain ⟨k1, k2⟩ := hkeep _ _ (hEs.m _ _ g5) g7.1
      obtain ⟨k3, k4⟩ := hkeep _ _ (hEs.m _ _ g2) g7.2.1
      obtain ⟨k5, k6⟩ := hkeep _ _ (hEs.m _ _ g3) g7.2.2
      obtain ⟨f1, f2, f3⟩ := Gath.fin (lo2 := lo .ready none) hE2 k3 k1 k5 hO2 ⟨k2, k4, k6⟩ hw0 hL0 hwL hwi hLi
      have f2 : Gath σ wv L i 2 (lo .ready none) (List.take k (w.map pfN) ++ [pfN r]) ((τ2.set wv (.buf [v'])).set L (lo .ready none)) := f2
      have hvc2 := hO2.cells
      have hvo2 := hO2.cellOK
      simp only [cellOK] at hvo2
      have hsp := g6.setPart (x := v')
      have FF := fI @k1 (fI @hvc (fI @hvc2 (fI @hvo2 @hsp))); refine goB ?_; clear FF
      exact ⟨f1, by simpa using f2, f3⟩
    · rintro τ' hE' ⟨v, hv, hO⟩
      have hvc := hO.cells
      have FF := fI @hv @hvc; refine goB ?_; clear FF
      refine zhe (.inr rfl) (by simp) hO hE'
  · have hle' : (b : Int) < a := by omega
    have hr : zax a b = .tup [.sl 0 [] true, .raw (.int .i64 21)] := by unfold zax; rw [if_neg hle]
    rw [hr]
    have FF := fI @hle' (fI @zh (fI @zl @zb)); exact zr
end Go.Proofs.YtckabcbfbpejkaaDoor.Av
namespace Go.Proofs.YtckabcbfbpejkaaDoor.Av
open Go
set_option linter.unusedSimpArgs false
set_option linter.unusedVariables false
set_option maxRecDepth 100000
set_option maxHeartbeats 4000000
set_option pp.maxSteps 600
def ofP (a b : Nat) : Option (Nat × Nat) := match zA a b with | [p] => some p | _ => none
def ofA (o : Option (Nat × Nat)) : AV := match o with | some p => .tup [pfN p, .raw (.bool true)] | none => .tup [pfN (0, 0), .raw (.bool false)]
theorem zlL (o : Option (Nat × Nat)) : noIds (ofA o) := by unfold ofA noIds; split <;> simp [AV.ids, zg, pfN]
theorem zeW (a b : Nat) (ha : a < 4294967296) (hb : b < 4294967296) : PCalls Tryd.prog 26 [.agg [.raw (.int .u32 a), .raw (.int .u32 b)]] (ofA (ofP a b)) := by
  have hS := zci a b ha hb
  refine zL Tryd.func26 rfl (N := 18) rfl rfl (by simp) (zlL _) fun σ => ?_
  unfold zax at hS
  unfold ofP
  by_cases hle : a ≤ b
  · rw [if_pos hle] at hS
    have hlen := zch a b
    generalize zA a b = w at *
    match w, hS, hlen with
    | [], hS, hlen =>
      have hr : ofA none = .tup [.agg [.raw (.int .u32 0), .raw (.int .i64 0)], .raw (.bool false)] := rfl
      simp only []
      rw [hr]
      unfold zV at hS
      have FF := fI @zh (fI @zl @zb); exact zr
    | [p], hS, hlen =>
      have hr : ofA (some p) = .tup [.agg [.raw (.int .u32 p.1), .raw (.int .i64 p.2)], .raw (.bool true)] := rfl
      simp only []
      rw [hr]
      unfold zV at hS
      have FF := fI pfN.eq_1 (fI @zh (fI @zl @zb)); exact zr
    | p :: q :: r, hS, hlen =>
      have hr : ofA none = .tup [.agg [.raw (.int .u32 0), .raw (.int .i64 0)], .raw (.bool false)] := rfl
      simp only []
      rw [hr]
      unfold zV at hS
      have hne : ¬ ((r.length : Int) + 1 + 1 = 1) := by omega
      have FF := fI @hne (fI @zh (fI @zl @zb)); exact zr
  · rw [if_neg hle] at hS
    rw [zaa hle]
    have hr : ofA none = .tup [.agg [.raw (.int .u32 0), .raw (.int .i64 0)], .raw (.bool false)] := rfl
    simp only []
    rw [hr]
    have FF := fI @zh (fI @zl @zb); exact zr
theorem zmr : zaQ [49, 48, 46, 48, 46, 48, 46, 48, 47, 56] = some (167772160, 8) := by decide +kernel
theorem zms : zv 258 = [48, 46, 48, 46, 49, 46, 50] := by decide +kernel
theorem zmt : zA 1 6 = [(1, 32), (2, 31), (4, 31), (6, 32)] := by decide +kernel
theorem zbv : PCalls Tryd.prog 14 [] (.raw (.bool true)) := by
  refine zL Tryd.func14 rfl (N := 52) rfl rfl (by simp) (by simp [noIds]) fun σ => ?_
  have h1 : PCalls Tryd.prog 30 [.raw (.string ⟨#[49, 48, 46, 48, 46, 48, 46, 48, 47, 56]⟩)] (.tup [.agg [.raw (.int .u32 167772160), .raw (.int .i64 8)], .raw (.int .i64 0)]) := by
    have h := zcB [49, 48, 46, 48, 46, 48, 46, 48, 47, 56] (by simp)
    rw [zmr] at h
    exact h
  have h2 : PCalls Tryd.prog 15 [.agg [.raw (.int .u32 167772160), .raw (.int .i64 8)]] (.tup [.agg [.raw (.int .u32 167772160), .raw (.int .u32 184549375)], .raw (.int .i64 0)]) := by
    have h := zbz ⟨167772160, 8⟩ (by decide) (by decide)
    have e : zaI ⟨167772160, 8⟩ = .tup [.agg [.raw (.int .u32 167772160), .raw (.int .u32 184549375)], .raw (.int .i64 0)] := by
      unfold zaI
      rw [if_pos (by decide)]
      rfl
    rw [e] at h
    exact h
  have h3 : PCalls Tryd.prog 24 [.agg [.raw (.int .u32 1), .raw (.int .u32 6)]] (.tup [.sl 2 [.agg [.raw (.int .u32 1), .raw (.int .i64 32)], .agg [.raw (.int .u32 2), .raw (.int .i64 31)], .agg [.raw (.int .u32 4), .raw (.int .i64 31)], .agg [.raw (.int .u32 6), .raw (.int .i64 32)]] false, .raw (.int .i64 0)]) := by
    have h := zci 1 6 (by decide) (by decide)
    unfold zax at h
    rw [if_pos (by decide), zmt] at h
    exact h
  have h4 : PCalls Tryd.prog 16 [.raw (.int .u32 258)] (.raw (.string ⟨#[48, 46, 48, 46, 49, 46, 50]⟩)) := by
    have h := zbQ 258 (by decide)
    rw [zms] at h
    exact h
  have FF := fI @zh (fI @zl @zb); exact zr
end Go.Proofs.YtckabcbfbpejkaaDoor.Av
namespace Go.Proofs.YtckabcbfbpejkaaDoor.Av
open Go
set_option linter.unusedSimpArgs false
set_option linter.unusedVariables false
set_option maxRecDepth 100000
set_option maxHeartbeats 4000000
set_option pp.maxSteps 600
theorem zbp {a n : Nat} : zaD a n = true ↔ n ≤ 32 ∧ a % 2 ^ (32 - n) = 0 := by simp [zaD]
end Go.Proofs.YtckabcbfbpejkaaDoor.Av
namespace Go.Proofs.YtckabcbfbpejkaaDoor.Av
open Go
set_option linter.unusedSimpArgs false
set_option linter.unusedVariables false
theorem zdt {b : UInt8} : ∀ {x : Bs}, b ∉ x → zf b x = [x]
  | [], _ => rfl
  | c :: x, h => by
    have h1 : ¬ c = b := fun e => h (by simp [e])
    have h2 : b ∉ x := fun e => h (by simp [e])
    unfold zf
    rw [if_neg h1, zdt h2]
theorem zdu {b : UInt8} : ∀ {x : Bs} (y : Bs), b ∉ x → zf b (x ++ b :: y) = x :: zf b y
  | [], y, _ => by simp [zf]
  | c :: x, y, h => by
    have h1 : ¬ c = b := fun e => h (by simp [e])
    have h2 : b ∉ x := fun e => h (by simp [e])
    rw [List.cons_append]
    conv => lhs; unfold zf
    rw [if_neg h1, zdu y h2]
theorem zhj {b : UInt8} : ∀ {x x' y y' : Bs}, b ∉ x → b ∉ x' → x ++ b :: y = x' ++ b :: y' → x = x' ∧ y = y'
  | [], [], y, y', _, _, e => by simpa using e
  | [], c :: x', y, y', _, h, e => by simp at e; exact absurd (by simp [e.1]) h
  | c :: x, [], y, y', h, _, e => by simp at e; exact absurd (by simp [e.1]) h
  | c :: x, d :: x', y, y', h, h', e => by
    simp only [List.cons_append, List.cons.injEq] at e
    obtain ⟨e1, e2⟩ := zhj (fun k => h (by simp [k])) (fun k => h' (by simp [k])) e.2
    exact ⟨by rw [e.1, e1], e2⟩
theorem zjf {b : UInt8} {x : Bs} (y : Bs) (h : b ∉ x) : Lib.cut (x ++ b :: y) [b] = (x, y, true) := by
  rcases zdM b (x ++ b :: y) with ⟨_, _, k⟩ | ⟨x', y', e, h', k, _⟩
  · exact absurd (by simp) k
  · obtain ⟨rfl, rfl⟩ := zhj h h' e
    exact k
theorem zgG {n : Nat} {b : UInt8} (h : b.toNat < 48) : b ∉ zz n := fun k => by have := zeA n b k; omega
theorem zej (a : Nat) : zv a = zz (a / 16777216) ++ 46 :: (zz (a / 65536 % 256) ++ 46 :: (zz (a / 256 % 256) ++ 46 :: zz (a % 256))) := by
  simp [zv, zaO, Lib.join_cons, Lib.joinTail]
theorem zk8 {a : Nat} {b : UInt8} (h : b.toNat < 46) : b ∉ zv a := by
  have h' : b.toNat < 48 := by omega
  have h2 : ¬ b = 46 := fun e => by subst e; exact absurd h (by decide)
  rw [zej]
  simp [zgG h', h2]
theorem zgH {a : Nat} : (47 : UInt8) ∉ zv a := by
  have h2 : ¬ (47 : UInt8) = 46 := by decide
  have h3 : ∀ n, (47 : UInt8) ∉ zz n := fun n => zgG (by decide)
  rw [zej]
  simp [h3, h2]
theorem zcC {a : Nat} (h : a < 4294967296) : zS (zv a) = some a := by
  have h3 : ∀ n, (46 : UInt8) ∉ zz n := fun n => zgG (by decide)
  unfold zS
  rw [zej, zdu _ (h3 _), zdu _ (h3 _), zdu _ (h3 _), zdt (h3 _)]
  refine (if_pos rfl).trans ?_
  simp only [zbf, zcH (show a / 16777216 ≤ 255 by omega), zcH (show a / 65536 % 256 ≤ 255 by omega), zcH (show a / 256 % 256 ≤ 255 by omega), zcH (show a % 256 ≤ 255 by omega)]
  congr 1
  omega
theorem zfx {a n : Nat} (h : a < 4294967296) (hr : zaD a n = true) : zaQ (zaP a n) = some (a, n) := by
  have hn := (zbp.1 hr).1
  have e : zaP a n = zv a ++ 47 :: zz n := by simp [zaP]
  unfold zaQ
  rw [e, zjf _ zgH]
  simp only [zcC h, zcH hn, hr, and_self, if_true]
theorem ziu {a b : Nat} : zaQ (zao a b) = none := by
  have hno : (47 : UInt8) ∉ zao a b := by
    have h2 : ¬ (47 : UInt8) = 45 := by decide
    simp [zao, zgH, h2]
  rcases zdM 47 (zao a b) with ⟨k, _, _⟩ | ⟨x, y, e, _⟩
  · unfold zaQ
    rw [k]
    simp only []
    split <;> simp
  · rw [e] at hno
    exact absurd (by simp) hno
theorem zhx {a b : Nat} (h : a < 4294967296) (h' : b < 4294967296) (hab : a ≤ b) : zbu (zao a b) = some (a, b) := by
  have e : zao a b = zv a ++ 45 :: zv b := by simp [zao]
  unfold zbu
  rw [ziu]
  simp only []
  rw [e, zjf _ (zk8 (by decide))]
  simp only [zcC h, zcC h', hab, and_self, if_true]
theorem ziv {a n : Nat} (h : a < 4294967296) (hr : zaD a n = true) : zbu (zaP a n) = some (a, a + 2 ^ (32 - n) - 1) := by
  unfold zbu
  rw [zfx h hr]
theorem zkv {a m : Nat} (ha : a < 2 ^ 64) (hm : m ≤ 64) (h : a % 2 ^ m = 0) : m ≤ Lib.ctz 64 a := by
  have key : ∀ f x m, m ≤ f → 0 < x → x % 2 ^ m = 0 → m ≤ Lib.ctzFrom f x := by
    intro f
    induction f with
    | zero => intro x m h1 _ _; omega
    | succ f ih =>
      intro x m h1 h2 h3
      cases m with
      | zero => omega
      | succ m =>
        have he : x % 2 = 0 := by
          obtain ⟨k, rfl⟩ := Nat.dvd_of_mod_eq_zero h3
          rw [Nat.pow_succ, Nat.mul_assoc, Nat.mul_comm, Nat.mul_assoc]
          exact Nat.mul_mod_right _ _
        have h4 : (x / 2) % 2 ^ m = 0 := by
          obtain ⟨k, rfl⟩ := Nat.dvd_of_mod_eq_zero h3
          have : 2 ^ (m + 1) * k / 2 = 2 ^ m * k := by
            rw [Nat.pow_succ, Nat.mul_comm (2 ^ m) 2, Nat.mul_assoc]
            exact Nat.mul_div_cancel_left _ (by omega)
          rw [this]
          exact Nat.mul_mod_right _ _
        unfold Lib.ctzFrom
        rw [if_neg (by omega)]
        have := ih (x / 2) m (by omega) (by omega) h4
        omega
  unfold Lib.ctz
  split
  · exact hm
  · exact key 64 a m hm (by omega) h
theorem zk9 (m : Nat) : Sort.bitsLen (2 ^ m) = m + 1 := by
  have h1 : Sort.bitsLen (2 ^ m) ≤ m + 1 := (Sort.bitsLen_le_iff _ _).2 (Nat.pow_lt_pow_right (by omega) (by omega))
  have h2 : ¬ Sort.bitsLen (2 ^ m) ≤ m := fun e => by rw [Sort.bitsLen_le_iff] at e; omega
  omega
theorem zjM {a n : Nat} (ha : a < 4294967296) (h : zaD a n = true) : zA a (a + 2 ^ (32 - n) - 1) = [(a, n)] := by
  obtain ⟨h1, h2⟩ := zbp.1 h
  have hp : 0 < 2 ^ (32 - n) := Nat.pow_pos (by omega)
  have hs : zw a (a + 2 ^ (32 - n) - 1) = 32 - n := by
    unfold zw
    have e : a + 2 ^ (32 - n) - 1 + 1 - a = 2 ^ (32 - n) := by omega
    rw [e, zk9]
    have := zkv (a := a) (m := 32 - n) (by omega) (by omega) h2
    omega
  rw [zX (by omega), hs, zaa (by omega)]
  congr 2
  omega
theorem zlM {a n : Nat} (ha : a < 4294967296) (h : zaD a n = true) : ofP a (a + 2 ^ (32 - n) - 1) = some (a, n) := by
  unfold ofP
  rw [zjM ha h]
end Go.Proofs.YtckabcbfbpejkaaDoor.Av
namespace Go.Proofs.YtckabcbfbpejkaaDoor.Av
open Go
set_option linter.unusedSimpArgs false
set_option linter.unusedVariables false
set_option maxRecDepth 100000
set_option maxHeartbeats 4000000
set_option pp.maxSteps 600
theorem zhk {a n : Nat} (h : a < 4294967296) (hn : n < 100) : (zaP a n).length ≤ 18 := by
  have := zaC h
  have := zbx n 2 (by omega) (by omega)
  simp [zaP]; omega
theorem zjN {a b : Nat} (h : a < 4294967296) (h' : b < 4294967296) : (zao a b).length ≤ 31 := by
  have := zaC h
  have := zaC h'
  simp [zao]; omega
theorem zfR (a c d : Nat) (n : Int) (ha : a < 4294967296) (hc : c < 4294967296) (hd : d < 4294967296) : PCalls Tryd.prog 8 [zab ⟨a, n⟩, rgA c d] (.raw (.bool true)) := by
  have h1 := zbQ a ha
  have h2 := za9 (zv a) (by have := zaC ha; omega)
  rw [zcC ha, zaU] at h2
  have h3 := zcz ⟨a, n⟩ (by simp) (by simp; omega)
  have hL := zbv
  refine zL Tryd.func8 rfl (N := 107) rfl rfl (by simp) (by simp [noIds]) fun σ => ?_
  have h4 := zdr c d hc hd
  have hcd : c ≤ d → PCalls Tryd.prog 32 [zk (zao c d)] (.tup [.agg [.raw (.int .u32 c), .raw (.int .u32 d)], .raw (.int .i64 0)]) := fun hle => by
    have h := zb1 (zao c d) (by have := zjN hc hd; omega)
    rwa [zhx hc hd hle, zai] at h
  have hRest : zD ⟨a, n⟩ = true → ∃ m e : Nat, n = m ∧ PCalls Tryd.prog 19 [.agg [.raw (.int .u32 a), .raw (.int .i64 m)]] (zk (zaP a m)) ∧ PCalls Tryd.prog 30 [zk (zaP a m)] (.tup [.agg [.raw (.int .u32 a), .raw (.int .i64 m)], .raw (.int .i64 0)]) ∧ PCalls Tryd.prog 15 [.agg [.raw (.int .u32 a), .raw (.int .i64 m)]] (.tup [.agg [.raw (.int .u32 a), .raw (.int .u32 e)], .raw (.int .i64 0)]) ∧ PCalls Tryd.prog 32 [zk (zaP a m)] (.tup [.agg [.raw (.int .u32 a), .raw (.int .u32 e)], .raw (.int .i64 0)]) ∧ PCalls Tryd.prog 26 [.agg [.raw (.int .u32 a), .raw (.int .u32 e)]] (.tup [.agg [.raw (.int .u32 a), .raw (.int .i64 m)], .raw (.bool true)]) := fun hr => by
    have b1 := hr
    unfold zD at b1
    simp only [Bool.and_eq_true, decide_eq_true_eq] at b1
    obtain ⟨m, rfl⟩ : ∃ k : Nat, n = k := ⟨n.toNat, by omega⟩
    rw [zbR] at hr
    have hm := (zbp.1 hr).1
    have hel : a + 2 ^ (32 - m) - 1 < 4294967296 := by
      obtain ⟨q, hq⟩ := Nat.dvd_of_mod_eq_zero (zbp.1 hr).2
      have e32 : 4294967296 = 2 ^ (32 - m) * 2 ^ m := by rw [← Nat.pow_add, show 32 - m + m = 32 by omega]
      have hp : 0 < 2 ^ (32 - m) := Nat.pow_pos (by omega)
      rw [hq, e32] at ha
      have hq2 : q < 2 ^ m := Nat.lt_of_mul_lt_mul_left ha
      have := Nat.mul_le_mul_left (2 ^ (32 - m)) (show q + 1 ≤ 2 ^ m from hq2)
      rw [Nat.mul_add, Nat.mul_one] at this
      omega
    have k1 := zgD a m ha (by omega)
    have k2 := zcB (zaP a m) (by have := zhk ha (show m < 100 by omega); omega)
    have k3 := zbz ⟨a, m⟩ (by simp) (by simp; omega)
    have k4 := zb1 (zaP a m) (by have := zhk ha (show m < 100 by omega); omega)
    have k5 := zeW a (a + 2 ^ (32 - m) - 1) ha hel
    rw [zfx ha hr, zbS] at k2
    rw [zbT hr, zai] at k3
    rw [ziv ha hr, zai] at k4
    rw [zlM ha hr] at k5
    exact ⟨m, _, rfl, k1, k2, k3, k4, k5⟩
  unfold zab rgA at *
  unfold zk at *
  generalize zd (zv a) = X at *
  generalize zd (zao c d) = Y at *
  cases hr : zD ⟨a, n⟩ with
  | false =>
    rw [hr] at h3
    clear hRest
    by_cases hle : c ≤ d
    · have h5 := hcd hle
      have FF := fI @hle (fI @zh (fI @zl @zb)); exact zr
    · clear hcd
      have FF := fI @hle (fI @zh (fI @zl @zb)); exact zr
  | true =>
    rw [hr] at h3
    obtain ⟨m, e, rfl, k1, k2, k3, k4, k5⟩ := hRest hr
    generalize zd (zaP a m) = Z at *
    clear hr hRest
    by_cases hle : c ≤ d
    · have h5 := hcd hle
      have FF := fI @hle (fI @zh (fI @zl @zb)); exact zr
    · clear hcd
      have FF := fI @hle (fI @zh (fI @zl @zb)); exact zr
end Go.Proofs.YtckabcbfbpejkaaDoor.Av
namespace Go.Proofs.YtckabcbfbpejkaaDoor.Av
open Go
set_option linter.unusedSimpArgs false
set_option linter.unusedVariables false
theorem zhl (b c : UInt8) : ∀ s : Bs, c ∈ s → c = b ∨ ∃ p ∈ zf b s, c ∈ p
  | [], h => by simp at h
  | d :: s, h => by
    have ih := zhl b c s
    unfold zf
    by_cases hd : d = b
    · rw [if_pos hd]
      rcases List.mem_cons.1 h with h | h
      · exact .inl (h.trans hd)
      · rcases ih h with h | ⟨p, h1, h2⟩
        · exact .inl h
        · exact .inr ⟨p, by simp [h1], h2⟩
    · rw [if_neg hd]
      cases hp : zf b s with
      | nil => exact absurd hp (zaT b s)
      | cons p ps =>
        rw [hp] at ih
        rcases List.mem_cons.1 h with h | h
        · exact .inr ⟨d :: p, by simp, by simp [h]⟩
        · rcases ih h with h | ⟨q, h1, h2⟩
          · exact .inl h
          · rcases List.mem_cons.1 h1 with h1 | h1
            · subst h1; exact .inr ⟨d :: q, by simp, by simp [h2]⟩
            · exact .inr ⟨q, by simp [h1], h2⟩
theorem zek {b : UInt8} : ∀ {s : Bs}, b ∈ s → 2 ≤ (zf b s).length
  | [], h => by simp at h
  | d :: s, h => by
    unfold zf
    by_cases hd : d = b
    · rw [if_pos hd]
      have : (zf b s) ≠ [] := zaT b s
      have := List.length_pos_iff.2 this
      simp; omega
    · rw [if_neg hd]
      have ih := zek (s := s) (b := b) (by rcases List.mem_cons.1 h with h | h; exact absurd h.symm hd; exact h)
      cases hp : zf b s with
      | nil => exact absurd hp (zaT b s)
      | cons p ps => rw [hp] at ih; simpa using ih
theorem ziw {m : Nat} {s : Bs} {b : UInt8} (hb : b.toNat < 48) (h : b ∈ s) : zag m s = none := by
  cases hn : zag m s with
  | none => rfl
  | some n => obtain ⟨rfl, _⟩ := zbn.1 hn; exact absurd h (zgG hb)
theorem zix {b : UInt8} (hb : b.toNat < 48) : ∀ {l : List Bs} {a : Nat}, (∃ p ∈ l, b ∈ p) → zbf l a = none
  | [], _, h => by simp at h
  | x :: l, a, ⟨p, h1, h2⟩ => by
    unfold zbf
    rcases List.mem_cons.1 h1 with h1 | h1
    · subst h1; rw [ziw hb h2]
    · split
      · exact zix hb ⟨p, h1, h2⟩
      · rfl
theorem zla {b : UInt8} {s : Bs} (hb : b.toNat < 46) (h : b ∈ s) : zS s = none := by
  unfold zS
  split
  · rcases zhl 46 b s h with e | e
    · subst e; exact absurd hb (by decide)
    · exact zix (by omega) e
  · rfl
def zdj (s : Bs) : Option (Nat × Nat) := match zf 47 s with
  | [h, t] => match zS h, zag 32 t with
    | some a, some n => if zaD a n = true then some (a, n) else none
    | _, _ => none
  | _ => none
theorem zi1 (s : Bs) : zdj s = zaQ s := by
  unfold zdj zaQ
  rcases zdM 47 s with ⟨h1, h2, h3⟩ | ⟨h, t, e, h3, h1, h2⟩
  · rw [h1, h2]
    simp only []
    split <;> simp
  · rw [h1, h2]
    simp only []
    by_cases ht : (47 : UInt8) ∈ t
    · have hl := zek ht
      rw [ziw (by decide) ht]
      cases hp : zf 47 t with
      | nil => exact absurd hp (zaT 47 t)
      | cons p ps => cases ps with
        | nil => rw [hp] at hl; simp at hl
        | cons q qs =>
          simp only []
          cases zS h <;> rfl
    · rw [zdt ht]
      simp only [true_and]
      cases zS h <;> cases zag 32 t <;> rfl
def zb8 (s : Bs) : Option (Nat × Nat) := match zaQ s with
  | some (a, n) => some (a, a + 2 ^ (32 - n) - 1)
  | none => match zf 45 s with
    | [h, t] => match zS h, zS t with
      | some a, some b => if a ≤ b then some (a, b) else none
      | _, _ => none
    | _ => none
theorem ziy (s : Bs) : zb8 s = zbu s := by
  unfold zb8 zbu
  cases zaQ s with
  | some p => rfl
  | none =>
    simp only []
    rcases zdM 45 s with ⟨h1, h2, h3⟩ | ⟨h, t, e, h3, h1, h2⟩
    · rw [h1, h2]
      simp only []
      split <;> simp
    · rw [h1, h2]
      simp only []
      by_cases ht : (45 : UInt8) ∈ t
      · have hl := zek ht
        rw [zla (by decide) ht]
        cases hp : zf 45 t with
        | nil => exact absurd hp (zaT 45 t)
        | cons p ps => cases ps with
          | nil => rw [hp] at hl; simp at hl
          | cons q qs =>
            simp only []
            cases zS h <;> rfl
      · rw [zdt ht]
        simp only [true_and]
        cases zS h <;> cases zS t <;> rfl
theorem zjO {a k : Nat} (ha : 0 < a) (h64 : a < 2 ^ 64) (hk : k ≤ 64) : k ≤ Lib.ctz 64 a ↔ a % 2 ^ k = 0 := by
  refine ⟨fun h => ?_, fun h => zkv h64 hk h⟩
  have key : ∀ f x k, k ≤ Lib.ctzFrom f x → x % 2 ^ k = 0 := by
    intro f
    induction f with
    | zero => intro x k h; simp [Lib.ctzFrom] at h; subst h; omega
    | succ f ih =>
      intro x k h
      unfold Lib.ctzFrom at h
      split at h
      · have : k = 0 := by omega
        subst this; omega
      · cases k with
        | zero => omega
        | succ k =>
          have h2 := ih (x / 2) k (by omega)
          have hx : x % 2 = 0 := by omega
          obtain ⟨q, hq⟩ := Nat.dvd_of_mod_eq_zero h2
          have : x = 2 ^ (k + 1) * q := by
            rw [Nat.pow_succ, Nat.mul_comm (2 ^ k) 2, Nat.mul_assoc, ← hq]; omega
          rw [this]
          exact Nat.mul_mod_right _ _
  unfold Lib.ctz at h
  split at h
  · omega
  · exact key _ _ _ h
theorem zlb : Lib.ctz 64 0 = 64 := by unfold Lib.ctz; simp
theorem zbc {a b k : Nat} (hab : a ≤ b) (hb : b < 4294967296) (hk : k ≤ 32) : k ≤ zw a b ↔ a % 2 ^ k = 0 ∧ a + 2 ^ k - 1 ≤ b := by
  have h1 : k ≤ Lib.ctz 64 a ↔ a % 2 ^ k = 0 := by
    rcases Nat.eq_zero_or_pos a with e | e
    · subst e; rw [zlb]; simp; omega
    · exact zjO e (by omega) (by omega)
  have hp : 0 < 2 ^ k := Nat.pow_pos (by omega)
  have h2 : k ≤ Sort.bitsLen (b + 1 - a) - 1 ↔ 2 ^ k ≤ b + 1 - a := by
    have h := Sort.bitsLen_le_iff (b + 1 - a) k
    have h0 : 1 ≤ Sort.bitsLen (b + 1 - a) := (zbU a b hab hb).2.2.1
    omega
  unfold zw
  rw [← h1]
  omega
end Go.Proofs.YtckabcbfbpejkaaDoor.Av
namespace Go.Proofs.YtckabcbfbpejkaaDoor.Av
open Go
set_option linter.unusedSimpArgs false
set_option linter.unusedVariables false
set_option maxRecDepth 100000
set_option maxHeartbeats 4000000
set_option pp.maxSteps 600
theorem zel (n : Nat) (hn : n ≤ 32) : PCalls Tryd.prog 50 [.raw (.int .i64 n)] (.raw (.int .i64 ((2 ^ (32 - n) : Nat) : Int))) := by
  refine zL Tryd.func50 rfl (N := 7) rfl rfl (by simp) (by simp [noIds]) fun σ => ?_
  have hall : ∀ m, m < 33 → IntKind.i64.wrap (2 ^ min m IntKind.i64.bits) = ((2 ^ m : Nat) : Int) := by decide
  have e1 : IntKind.i64.wrap (32 - (n : Int)) = ((32 - n : Nat) : Int) := by rw [zq (by omega) (by omega)]; omega
  obtain ⟨m, hm⟩ : ∃ m, 32 - n = m := ⟨_, rfl⟩
  have q1 := hall m (by omega)
  rw [hm] at e1 ⊢
  have e2 : IntKind.u64.wrap (m : Int) = m := zc0 (by omega) (by omega)
  have e0 : (0 : Int) ≤ m := by omega
  generalize 2 ^ m = q at *
  have FF := fI @e1 (fI @e2 (fI @e0 @q1)); exact zr
theorem za1 (p : Pf) (h0 : 0 ≤ p.addr) (h1 : p.addr < 4294967296) : PCalls Tryd.prog 18 [zab p] (.raw (.bool (zD p))) := by
  refine zL Tryd.func18 rfl (N := 21) rfl rfl (by simp) (by simp [noIds]) fun σ => ?_
  obtain ⟨a, l⟩ := p
  by_cases c1 : 0 ≤ l
  · obtain ⟨n, rfl⟩ : ∃ n : Nat, l = n := ⟨l.toNat, by omega⟩
    by_cases c2 : n ≤ 32
    · have hc := zel n c2
      have hp : 0 < 2 ^ (32 - n) := Nat.pow_pos (by omega)
      have e : IntKind.i64.wrap a = a := zq (by simp at h0; omega) (by simp at h1; omega)
      have e2 : a.tmod ((2 ^ (32 - n) : Nat) : Int) = a % ((2 ^ (32 - n) : Nat) : Int) := Int.tmod_eq_emod_of_nonneg h0
      have hr : zD ⟨a, n⟩ = decide (a % ((2 ^ (32 - n) : Nat) : Int) = 0) := by simp [zD]; omega
      rw [hr]
      generalize 2 ^ (32 - n) = q at *
      have e3 : ¬ q = 0 := by omega
      have c2' : (n : Int) ≤ 32 := by omega
      have c3 : (a % (q : Int) = 0) = True ∨ (a % (q : Int) = 0) = False := by by_cases h : a % (q : Int) = 0 <;> simp [h]
      rcases c3 with c3 | c3
      all_goals
        have FF := fI zab.eq_1 (fI @c1 (fI @c2' (fI @e (fI @e2 (fI @e3 (fI @c3 (fI @zh (fI @zl @zb)))))))); exact zr
    · have c2' : ¬ (n : Int) ≤ 32 := by omega
      have hr : zD ⟨a, n⟩ = false := by simp [zD, c2]; omega
      rw [hr]
      have FF := fI zab.eq_1 (fI @c1 (fI @c2' (fI @zh (fI @zl @zb)))); exact zr
  · have hr : zD ⟨a, l⟩ = false := by simp [zD, c1]
    rw [hr]
    have FF := fI zab.eq_1 (fI @c1 (fI @zh (fI @zl @zb))); exact zr
theorem zdk (p : Pf) (h0 : 0 ≤ p.addr) (h1 : p.addr < 4294967296) : PCalls Tryd.prog 23 [zab p] (zaI p) := by
  have hr := za1 p h0 h1
  refine zL Tryd.func23 rfl (N := 22) rfl rfl (by simp) (by unfold zaI noIds; split <;> simp [AV.ids, zg, zjb]) fun σ => ?_
  cases hb : zD p with
  | false =>
    have e : zaI p = .tup [rgA 0 0, .raw (.int .i64 21)] := by unfold zaI; rw [hb]; rfl
    rw [hb] at hr
    rw [e]
    unfold zab at *
    have FF := fI rgA.eq_1 (fI @zh (fI @zl @zb)); exact zr
  | true =>
    obtain ⟨a, l⟩ := p
    obtain ⟨a, rfl⟩ : ∃ n : Nat, a = n := ⟨a.toNat, by simp at h0; omega⟩
    have b1 := hb
    unfold zD at b1
    simp only [Bool.and_eq_true, decide_eq_true_eq] at b1
    obtain ⟨n, rfl⟩ : ∃ n : Nat, l = n := ⟨l.toNat, by omega⟩
    rw [zbR] at hb
    rw [zbT hb, zai]
    rw [zbR, hb] at hr
    have hm := (zbp.1 hb).1
    have hel : a + 2 ^ (32 - n) - 1 < 4294967296 := by
      obtain ⟨q, hq⟩ := Nat.dvd_of_mod_eq_zero (zbp.1 hb).2
      have e32 : 4294967296 = 2 ^ (32 - n) * 2 ^ n := by rw [← Nat.pow_add, show 32 - n + n = 32 by omega]
      have hp : 0 < 2 ^ (32 - n) := Nat.pow_pos (by omega)
      have ha : a < 4294967296 := by simp at h1; omega
      rw [hq, e32] at ha
      have hq2 : q < 2 ^ n := Nat.lt_of_mul_lt_mul_left ha
      have := Nat.mul_le_mul_left (2 ^ (32 - n)) (show q + 1 ≤ 2 ^ n from hq2)
      rw [Nat.mul_add, Nat.mul_one] at this
      omega
    have hc := zel n hm
    have hp : 0 < 2 ^ (32 - n) := Nat.pow_pos (by omega)
    have hq : 2 ^ (32 - n) ≤ 2 ^ 32 := Nat.pow_le_pow_right (by omega) (by omega)
    simp only [] at h1
    generalize 2 ^ (32 - n) = q at *
    have e1 : IntKind.i64.wrap (a : Int) = a := zq (by omega) (by omega)
    have e2 : IntKind.i64.wrap ((a : Int) + q) = ((a + q : Nat) : Int) := by rw [zq (by omega) (by omega)]; omega
    have e3 : IntKind.i64.wrap (((a + q : Nat) : Int) - 1) = ((a + q - 1 : Nat) : Int) := by rw [zq (by omega) (by omega)]; omega
    have e4 : IntKind.u32.wrap ((a + q - 1 : Nat) : Int) = ((a + q - 1 : Nat) : Int) := zbM (by omega) (by omega)
    generalize a + q - 1 = y at *
    generalize a + q = z at *
    unfold zab at *
    have FF := fI @e1 (fI @e2 (fI @e3 (fI @e4 (fI @zh (fI @zl @zb))))); exact zr
end Go.Proofs.YtckabcbfbpejkaaDoor.Av
namespace Go.Proofs.YtckabcbfbpejkaaDoor.Av
open Go
set_option linter.unusedSimpArgs false
set_option linter.unusedVariables false
set_option maxRecDepth 100000
set_option maxHeartbeats 4000000
set_option pp.maxSteps 600
def zmu : ByteArray := ⟨#[48, 49, 50, 51, 52, 53, 54, 55, 56, 57]⟩
theorem zlN : ∀ d, d < 10 → zmu.extract d (d + 1) = zd [UInt8.ofNat (48 + d)] := by decide
def zfS (m : Nat) : Bs := if m = 0 then [] else zz m
theorem zhm {m : Nat} (h : 0 < m) : zfS m = zfS (m / 10) ++ [UInt8.ofNat (48 + m % 10)] := by
  unfold zfS
  rw [if_neg (by omega)]
  by_cases hs : m < 10
  · rw [zbC hs, if_pos (by omega), Nat.mod_eq_of_lt hs]; rfl
  · rw [zcY hs, if_neg (by omega)]
theorem zhn (s : Bs) : (zd s).toList.isEmpty = decide (s = []) := by
  rw [ByteArray.toList_eq, zaG]; cases s <;> rfl
theorem zbj (N : Nat) (hN : N < 9223372036854775808) : PCalls Tryd.prog 49 [.raw (.int .i64 N)] (zk (zz N)) := by
  refine zL Tryd.func49 rfl (N := 21) rfl rfl (by simp) (by simp [noIds]) fun σ => ?_
  have hl20 := zbx N 20 (by omega) (by omega)
  refine zmo ?_
  refine zav (fun n A τ => τ = σ ∧ ∃ (m : Nat) (s : Bs), A 0 = .raw (.int .i64 m) ∧ A 3 = zk s ∧ m ≤ N ∧ (s = [] ∧ m = N ∨ s ≠ [] ∧ zfS m ++ s = zz N) ∧ n = m + if s = [] then 1 else 0) (N + 1) ?_ ?_
  · exact ⟨rfl, N, [], by simp, by simp [zk, zd], by omega, .inl ⟨rfl, rfl⟩, by simp⟩
  rintro n A τ ⟨rfl, m, s, a0, a3, hm, hs, rfl⟩ I1 hI1
  have hE : (zd s).toList.isEmpty = decide (s = []) := zhn s
  have eF : (ByteArray.mk #[48, 49, 50, 51, 52, 53, 54, 55, 56, 57]).size = 10 := rfl
  have e1 : (m : Int).tmod 10 = ((m % 10 : Nat) : Int) := by rw [show (10 : Int) = ((10 : Nat) : Int) from rfl, Int.ofNat_tmod]
  have e2 : (m : Int).tdiv 10 = ((m / 10 : Nat) : Int) := by rw [Int.tdiv_eq_ediv_of_nonneg (by omega)]; omega
  have e3 : IntKind.i64.wrap ((m / 10 : Nat) : Int) = ((m / 10 : Nat) : Int) := zq (by omega) (by omega)
  have e4 : IntKind.i64.wrap (((m % 10 : Nat) : Int) + 1) = ((m % 10 + 1 : Nat) : Int) := by rw [zq (by omega) (by omega)]; omega
  have hx := zlN (m % 10) (by omega)
  have hgo : (s = [] ∨ 0 < m) → (s.length ≤ 20 ∧ (UInt8.ofNat (48 + m % 10) :: s) ≠ [] ∧ zfS (m / 10) ++ (UInt8.ofNat (48 + m % 10) :: s) = zz N) := fun hc => by
    rcases hs with ⟨rfl, rfl⟩ | ⟨h1, h2⟩
    · refine ⟨by simp, by simp, ?_⟩
      rcases Nat.eq_zero_or_pos m with h0 | h0
      · subst h0; rw [zbC (by omega)]; rfl
      · rw [← zhm h0]; unfold zfS; rw [if_neg (by omega)]
    · rcases hc with hc | hc
      · exact absurd hc h1
      · rw [zhm hc, List.append_assoc] at h2
        refine ⟨?_, by simp, by simpa using h2⟩
        have := congrArg List.length h2
        simp at this; omega
  by_cases hc : s = [] ∨ 0 < m
  · obtain ⟨g1, g2, g3⟩ := hgo hc
    have hlt : m / 10 + (if (UInt8.ofNat (48 + m % 10) :: s) = [] then 1 else 0) < m + if s = [] then 1 else 0 := by
      rw [if_neg g2]
      rcases hc with hc | hc
      · rw [if_pos hc]; omega
      · split <;> omega
    have hcat : zd [UInt8.ofNat (48 + m % 10)] ++ zd s = zd (UInt8.ofNat (48 + m % 10) :: s) := zar _ _
    have sz1 : ((zd [UInt8.ofNat (48 + m % 10)]).size : Int) + ((zd s).size : Int) ≤ 9223372036854775807 := by rw [zy, zy]; simp; omega
    have hmd : m / 10 ≤ N := by omega
    have hfin : ∀ A', A' 0 = .raw (.int .i64 ((m / 10 : Nat) : Int)) → A' 3 = zk (UInt8.ofNat (48 + m % 10) :: s) → I1 A' τ := fun A' x0 x3 =>
      hI1 _ A' τ hlt ⟨rfl, m / 10, _, x0, x3, hmd, .inr ⟨g2, g3⟩, rfl⟩
    have e5 : (0 : Int) < (m : Int) ↔ 0 < m := by omega
    unfold zk at *
    unfold zmu at hx
    generalize zd (UInt8.ofNat (48 + m % 10) :: s) = z at *
    generalize m / 10 = d at *
    generalize zd [UInt8.ofNat (48 + m % 10)] = f at *
    have hm10 : (m % 10 + 1 ≤ 10) = True := by simp; omega
    have hm11 : (m % 10 ≤ m % 10 + 1) = True := by simp
    generalize m % 10 + 1 = r1 at *
    generalize m % 10 = r at *
    by_cases hs0 : s = []
    · have hE' : (zd s).toList.isEmpty = true := by rw [hE]; simp [hs0]
      have FF := fI @a0 (fI @a3 (fI @hE' (fI @eF (fI @e1 (fI @e2 (fI @e3 (fI @e4 (fI @hx (fI @hcat (fI @sz1 (fI @hm10 @hm11))))))))))); refine gxC ?_; clear FF
      refine hfin _ ?_ ?_ <;> simp
    · have hm0 : 0 < m := by rcases hc with h | h; exact absurd h hs0; exact h
      have hE' : (zd s).toList.isEmpty = false := by rw [hE]; simp [hs0]
      have FF := fI @a0 (fI @a3 (fI @hE' (fI @eF (fI @hm0 (fI @e1 (fI @e2 (fI @e3 (fI @e4 (fI @hx (fI @hcat (fI @sz1 (fI @hm10 @hm11)))))))))))); refine gxC ?_; clear FF
      refine hfin _ ?_ ?_ <;> simp
  · have h1 : ¬ s = [] := fun e => hc (.inl e)
    have h2 : m = 0 := by omega
    subst h2
    have h3 : s = zz N := by
      rcases hs with ⟨h, _⟩ | ⟨_, h⟩
      · exact absurd h h1
      · simpa [zfS] using h
    subst h3
    have hE' : (zd (zz N)).toList.isEmpty = false := by rw [hE]; simp [h1]
    unfold zk at *
    have FF := fI @a0 (fI @a3 @hE'); exact zr
theorem zbB (a : Nat) (h : a < 4294967296) : PCalls Tryd.prog 17 [.raw (.int .u32 a)] (zk (zv a)) := by
  have h1 := zbj (a / 16777216) (by omega)
  have h2 := zbj (a / 65536 % 256) (by omega)
  have h3 := zbj (a / 256 % 256) (by omega)
  have h4 := zbj (a % 256) (by omega)
  have l1 := zbx (a / 16777216) 3 (by omega) (by omega)
  have l2 := zbx (a / 65536 % 256) 3 (by omega) (by omega)
  have l3 := zbx (a / 256 % 256) 3 (by omega) (by omega)
  have l4 := zbx (a % 256) 3 (by omega) (by omega)
  rw [← zy] at l1 l2 l3 l4
  have e0 : IntKind.i64.wrap (a : Int) = a := zq (by omega) (by omega)
  have d : ∀ n k : Nat, (n : Int).tdiv k = ((n / k : Nat) : Int) := fun n k => by rw [Int.tdiv_eq_ediv_of_nonneg (by omega)]; exact (Int.natCast_ediv n k).symm
  have q : ∀ n k : Nat, (n : Int).tmod k = ((n % k : Nat) : Int) := fun n k => by rw [Int.ofNat_tmod]
  have wd : ∀ n : Nat, n < 4294967296 → IntKind.i64.wrap (n : Int) = n := fun n hn => zq (by omega) (by omega)
  have d1 : (a : Int).tdiv 16777216 = ((a / 16777216 : Nat) : Int) := by rw [show (16777216 : Int) = ((16777216 : Nat) : Int) from rfl, d]
  have w1 := wd (a / 16777216) (by omega)
  have d2 : (a : Int).tdiv 65536 = ((a / 65536 : Nat) : Int) := by rw [show (65536 : Int) = ((65536 : Nat) : Int) from rfl, d]
  have w2 := wd (a / 65536) (by omega)
  have d3 : (a : Int).tdiv 256 = ((a / 256 : Nat) : Int) := by rw [show (256 : Int) = ((256 : Nat) : Int) from rfl, d]
  have w3 := wd (a / 256) (by omega)
  have q2 : ((a / 65536 : Nat) : Int).tmod 256 = ((a / 65536 % 256 : Nat) : Int) := by rw [show (256 : Int) = ((256 : Nat) : Int) from rfl, q]
  have q3 : ((a / 256 : Nat) : Int).tmod 256 = ((a / 256 % 256 : Nat) : Int) := by rw [show (256 : Int) = ((256 : Nat) : Int) from rfl, q]
  have q4 : (a : Int).tmod 256 = ((a % 256 : Nat) : Int) := by rw [show (256 : Int) = ((256 : Nat) : Int) from rfl, q]
  have eX : zd (zz (a / 16777216)) ++ ByteArray.mk #[46] ++ zd (zz (a / 65536 % 256)) ++ ByteArray.mk #[46] ++ zd (zz (a / 256 % 256)) ++ ByteArray.mk #[46] ++ zd (zz (a % 256)) = zd (zv a) := by
    have : ByteArray.mk #[46] = zd [46] := rfl
    rw [this, zar, zar, zar, zar, zar, zar, zej]
    simp
  unfold zk at *
  generalize a / 65536 % 256 = n2 at *
  generalize a / 256 % 256 = n3 at *
  generalize a % 256 = n4 at *
  generalize a / 16777216 = n1 at *
  generalize a / 65536 = m2 at *
  generalize a / 256 = m3 at *
  generalize zd (zv a) = Z at *
  generalize zd (zz n1) = X1 at *
  generalize zd (zz n2) = X2 at *
  generalize zd (zz n3) = X3 at *
  generalize zd (zz n4) = X4 at *
  have e1 : (ByteArray.mk #[46]).size = 1 := rfl
  have s1 : (X1.size : Int) + 1 ≤ 9223372036854775807 := by omega
  have s2 : (X1.size : Int) + 1 + X2.size ≤ 9223372036854775807 := by omega
  have s3 : (X1.size : Int) + 1 + X2.size + 1 ≤ 9223372036854775807 := by omega
  have s4 : (X1.size : Int) + 1 + X2.size + 1 + X3.size ≤ 9223372036854775807 := by omega
  have s5 : (X1.size : Int) + 1 + X2.size + 1 + X3.size + 1 ≤ 9223372036854775807 := by omega
  have s6 : (X1.size : Int) + 1 + X2.size + 1 + X3.size + 1 + X4.size ≤ 9223372036854775807 := by omega
  refine zL Tryd.func17 rfl (N := 26) rfl rfl (by simp) (by simp [noIds]) fun σ => ?_
  have FF := fI @e0 (fI @e1 (fI @d1 (fI @d2 (fI @d3 (fI @w1 (fI @w2 (fI @w3 (fI @q2 (fI @q3 (fI @q4 (fI @s1 (fI @s2 (fI @s3 (fI @s4 (fI @s5 (fI @s6 (fI @eX (fI @zh (fI @zl @zb))))))))))))))))))); exact zr
theorem zhy (a n : Nat) (h : a < 4294967296) (hn : n < 100) : PCalls Tryd.prog 20 [.agg [.raw (.int .u32 a), .raw (.int .i64 n)]] (zk (zaP a n)) := by
  have h1 := zbB a h
  have h2 := zbj n (by omega)
  have hl := zaC h
  have hd := zbx n 2 (by omega) (by omega)
  refine zL Tryd.func20 rfl (N := 11) rfl rfl (by simp) (by simp [noIds]) fun σ => ?_
  have e1 : (ByteArray.mk #[47]).size = 1 := rfl
  have s1 : ((zd (zv a)).size : Int) + 1 ≤ 9223372036854775807 := by rw [zy]; omega
  have s2 : ((zd (zv a)).size : Int) + 1 + ((zd (zz n)).size : Int) ≤ 9223372036854775807 := by rw [zy, zy]; omega
  have eX : zd (zv a) ++ ByteArray.mk #[47] ++ zd (zz n) = zd (zaP a n) := by
    have : ByteArray.mk #[47] = zd [47] := rfl
    rw [this, zar, zar]; rfl
  unfold zk at *
  generalize zd (zaP a n) = Z at *
  generalize zd (zv a) = X at *
  generalize zd (zz n) = Y at *
  have FF := fI @e1 (fI @s1 (fI @s2 (fI @eX (fI @zh (fI @zl @zb))))); exact zr
theorem zeX (a b : Nat) (h : a < 4294967296) (h' : b < 4294967296) : PCalls Tryd.prog 22 [.agg [.raw (.int .u32 a), .raw (.int .u32 b)]] (zk (zao a b)) := by
  have h1 := zbB a h
  have h2 := zbB b h'
  have hl := zaC h
  have hd := zaC h'
  refine zL Tryd.func22 rfl (N := 11) rfl rfl (by simp) (by simp [noIds]) fun σ => ?_
  have e1 : (ByteArray.mk #[45]).size = 1 := rfl
  have s1 : ((zd (zv a)).size : Int) + 1 ≤ 9223372036854775807 := by rw [zy]; omega
  have s2 : ((zd (zv a)).size : Int) + 1 + ((zd (zv b)).size : Int) ≤ 9223372036854775807 := by rw [zy, zy]; omega
  have eX : zd (zv a) ++ ByteArray.mk #[45] ++ zd (zv b) = zd (zao a b) := by
    have : ByteArray.mk #[45] = zd [45] := rfl
    rw [this, zar, zar]; rfl
  unfold zk at *
  generalize zd (zao a b) = Z at *
  generalize zd (zv a) = X at *
  generalize zd (zv b) = Y at *
  have FF := fI @e1 (fI @s1 (fI @s2 (fI @eX (fI @zh (fI @zl @zb))))); exact zr
end Go.Proofs.YtckabcbfbpejkaaDoor.Av
namespace Go.Proofs.YtckabcbfbpejkaaDoor.Av
open Go
set_option linter.unusedSimpArgs false
set_option linter.unusedVariables false
def zdv : Nat → Bs
  | 0 => [102, 111, 114, 119, 97, 114, 100]
  | 1 => [100, 114, 111, 112]
  | 2 => [112, 101, 114, 109, 105, 116]
  | _ => [100, 101, 110, 121]
def zkw (r : Ru) : List Bs := [zz r.id.toNat, zz r.dev.toNat, zz r.prio.toNat, zdv r.kind.toNat, zao r.r.lo.toNat r.r.hi.toNat] ++ if r.kind = 0 then [zz r.port.toNat] else []
def znF (r : Ru) : Bs := Lib.join (zkw r) [32]
structure RuOK (r : Ru) : Prop where
  b : zlt r = true
  lo : 0 ≤ r.r.lo
  hi : r.r.hi < 4294967296
structure RuN (r : Ru) : Prop where
  id0 : 1 ≤ r.id
  id1 : r.id ≤ 1048576
  dev0 : 0 ≤ r.dev
  dev1 : r.dev ≤ 7
  prio0 : 0 ≤ r.prio
  prio1 : r.prio ≤ 1024
  kind0 : 0 ≤ r.kind
  kind1 : r.kind ≤ 3
  port0 : 0 ≤ r.port
  port1 : r.port ≤ 3
  kp : r.kind = 0 ∨ r.port = 0
  le : r.r.lo ≤ r.r.hi
structure Cand (c : List Bs → Option Ru) : Prop where
  back : ∀ r, RuOK r → c (zkw r) = some r
  ok : ∀ w r, c w = some r → 0 ≤ r.r.lo ∧ r.r.hi < 4294967296
def zql (c : List Bs → Option Ru) (s : Bs) : Option Ru := match c (zf 32 s) with
  | some r => if zlt r = true ∧ znF r = s then some r else none
  | none => none
def zjP (s : Bs) : Int := match Lib.atoiAll s with | .ok v => if Lib.itoa v = s then v else -1 | _ => -1
def zaJ (most : Nat) (s : Bs) : Int := match zag most s with | some n => n | none => -1
def znG (s : Bs) : Int := if s = zdv 0 then 0 else if s = zdv 1 then 1 else if s = zdv 2 then 2 else if s = zdv 3 then 3 else -1
def znH (s : Bs) : Int := if s = zdv 1 then 1 else if s = zdv 2 then 2 else if s = zdv 3 then 3 else 0
def zqm (w : List Bs) : Option Ru :=
  if w.length = 5 ∨ w.length = 6 then
    match zbu (w.getD 4 []) with
    | some (a, b) => some ⟨zjP (w.getD 0 []), zjP (w.getD 1 []), zjP (w.getD 2 []), znG (w.getD 3 []), ⟨a, b⟩, if w.length = 6 then zjP (w.getD 5 []) else 0⟩
    | none => none
  else none
def zqn (w : List Bs) : Option Ru :=
  if w.length = 5 ∨ w.length = 6 then
    match zbu (w.getD 4 []) with
    | some (a, b) => some ⟨zaJ 1048576 (w.getD 0 []), zaJ 9 (w.getD 1 []), zaJ 1024 (w.getD 2 []), znH (w.getD 3 []), ⟨a, b⟩, if w.length = 6 then zaJ 9 (w.getD 5 []) else 0⟩
    | none => none
  else none
end Go.Proofs.YtckabcbfbpejkaaDoor.Av
namespace Go.Proofs.YtckabcbfbpejkaaDoor.Av
open Go
set_option linter.unusedSimpArgs false
set_option linter.unusedVariables false
set_option maxRecDepth 100000
set_option maxHeartbeats 4000000
set_option pp.maxSteps 600
theorem zlO {s : Bs} {i : Nat} {c : UInt8} (h : s[i]? = some c) : (zd s).extract i (i + 1) = zd [c] := by
  obtain ⟨hi, hc⟩ := List.getElem?_eq_some_iff.1 h
  have : ((zd s).extract i (i + 1)).data.toList = [c] := by
    rw [Lib.extract_data, zaG, ← List.getElem_cons_drop hi, hc]
    simp
  rw [← zfd ((zd s).extract i (i + 1)), this]
theorem zmv {s : Bs} {i : Nat} {c : UInt8} (h : s[i]? = some c) : (zd s)[i]? = some c := by
  obtain ⟨hi, hc⟩ := List.getElem?_eq_some_iff.1 h
  rw [getElem?_pos (zd s) i (by rw [zy]; exact hi)]
  congr 1
theorem zjg {s : Bs} {i : Nat} {c : UInt8} (h : s[i]? = some c) (hi : i < (zd s).size) : (zd s)[i] = c := by
  have h1 := zmv h
  rw [getElem?_pos (zd s) i hi] at h1
  exact Option.some.inj h1
theorem zlc (b : UInt8) (s : Bs) : (zf b s).length ≤ s.length + 1 := by
  induction s with
  | nil => simp [zf]
  | cons c l ih =>
    unfold zf
    split
    · simp; omega
    · cases hp : zf b l with
      | nil => simp
      | cons p ps => rw [hp] at ih; simp at ih ⊢; omega
theorem zcr (s : Bs) (b : UInt8) (hs : s.length ≤ 1000) : PCalls Tryd.prog 54 [zk s, .raw (.int .u8 b.toNat)] (zM (zf b s) false) := by
  refine zL Tryd.func54 rfl (N := 40) rfl rfl (by simp) (by simp [noIds]) fun σ0 => ?_
  have stO : zu (zk []).cells = true := rfl
  have stE : AV.raw (.string (ByteArray.mk #[])) = zk [] := rfl
  have FF := fI @stO @stE; refine gxC ?_; clear FF
  refine zav (fun n A τ => Ext σ0 τ ∧ A 0 = zk s ∧ A 1 = .raw (.int .u8 b.toNat) ∧ ∃ (i : Nat) (v : AV), A 5 = v ∧ OwnL σ0 τ 1 v ((zf b (s.take i)).map zk) ∧ A 6 = .raw (.int .i64 i) ∧ i ≤ s.length ∧ n = s.length - i) s.length ?_ ?_
  · refine ⟨Ext.new _ _ _ _, by simp [zk], by simp, 0, _, rfl, .inr ⟨⟨7, σ0.nx 7, 1⟩, by simp [zf], rfl, by simp [zh, zf, zk, zd], zah _ _ _⟩, by simp, by omega, by omega⟩
  rintro n A τ ⟨hE, a0, a1, i, v, a5, hO, a6, hi, rfl⟩ I1 hI1
  have hsz := zy s
  by_cases hlt : i < s.length
  · have hx : s[i]? = some s[i] := List.getElem?_eq_getElem hlt
    have ha := zjg hx (by omega)
    have hsub := zlO hx
    have hst : zf b (s.take (i + 1)) = if s[i] = b then zf b (s.take i) ++ [[]] else zdm (zf b (s.take i)) s[i] := by rw [List.take_add_one, hx]; exact zfo b _ _
    have hps := zlc b (s.take i)
    have hpl := zb7 b (s.take i)
    rw [List.length_take] at hps hpl
    generalize s[i] = c at *
    have w1 : IntKind.i64.wrap ((i : Int) + 1) = ((i + 1 : Nat) : Int) := by rw [zq (by omega) (by omega)]; omega
    have hlt' : i < (zd s).size := by omega
    have hle1 : i + 1 ≤ (zd s).size := by omega
    have hbb : ((c.toNat : Int) = (b.toNat : Int)) ↔ c = b := by
      constructor
      · intro e; exact UInt8.toNat.inj (by omega)
      · rintro rfl; rfl
    by_cases hc : c = b
    · rw [if_pos hc] at hst
      subst hc
      (try ((first | with_reducible refine z6 ?_ | with_reducible refine zam ?_ | with_reducible refine zan ?_); simp [-cellOK, a0, a1, a5, a6, zk, hlt', ha, stO, -zB])); repeat' (first | ((first | refine zY ?_ | refine z8 ?_ | refine dN (by decide +kernel) ?_ | refine dC (by decide +kernel) ?_ | (refine zp ?_ ?_ <;> (intro hg; simp only [hg])) | fail) <;> simp [-cellOK, a0, a1, a5, a6, zk, hlt', ha, stO, -zB]) | refine z1 ?_ | refine zH ?_ | (refine zaM ?_; simp only [zaN]; try simp) | (refine zE (fun hc => ?_) (fun hc => ?_) <;> try simp at hc) | fail)
      refine zcU zlr (hO.ext (Ext.new _ _ _ _)) (hE.trans (Ext.new _ _ _ _)) (ys := [zk []]) (by simp [zk, zd]) (.inr rfl) (by simp [zk]) (by simp [zf]; omega) ?_
      intro v' τ' hO' hE' _ _
      have FF := fI @a0 (fI @a1 (fI @a5 (fI @a6 @w1))); refine gxC ?_; clear FF
      exact hI1 (s.length - (i + 1)) _ _ (by omega) ⟨hE', by simp [a0], by simp [a1], i + 1, v', by simp, by rw [hst]; simpa using hO', by simp, by omega, rfl⟩
    · rw [if_neg hc] at hst
      have hcc : ¬ (c.toNat : Int) = (b.toNat : Int) := fun e => hc (hbb.1 e)
      have hcn : ¬ c.toNat = b.toNat := fun e => hc (UInt8.toNat.inj e)
      obtain ⟨qs, p, hqp⟩ : ∃ qs p, zf b (s.take i) = qs ++ [p] := ⟨_, _, (List.dropLast_concat_getLast (zaT b _)).symm⟩
      rw [hqp, zdV] at hst
      rw [hqp] at hO hps hpl
      have hp := hpl p (by simp)
      rcases hO with ⟨h0, _⟩ | ⟨j, rfl, hjs, hm, hn⟩
      · simp at h0
      · obtain ⟨k, hqk⟩ : ∃ k, qs.length = k := ⟨_, rfl⟩
        obtain ⟨L, hL⟩ : ∃ L, (qs ++ [p]).map zk = L := ⟨_, rfl⟩
        have hLl : L.length = k + 1 := by rw [← hL, ← hqk]; simp
        have hLk : L[k]'(by omega) = zk p := by simp [← hL, ← hqk]
        have hLs : L.set k (zk (p ++ [c])) = (qs ++ [p ++ [c]]).map zk := by rw [← hL, ← hqk]; simp
        rw [hL] at hm a5
        rw [hLl] at a5
        have w2 : IntKind.i64.wrap (k : Int) = (k : Int) := zq (by omega) (by simp at hps; omega)
        have c3 : (0 : Int) ≤ (i : Int) + 1 := by omega
        have c2 : (k : Int) < (k : Int) + 1 := by omega
        have sz2 : ((zd p).size : Int) + ((zd [c]).size : Int) ≤ 9223372036854775807 := by rw [zy, zy]; simp; omega
        have hcat : zd p ++ zd [c] = zd (p ++ [c]) := zar _ _
        have hsp : setPart (.raw (.string (zd p))) 0 [.raw (.string (zd (p ++ [c])))] = zk (p ++ [c]) := rfl
        have hcl : (AV.raw (.string (zd p))).cells = [.raw (.string (zd p))] := rfl
        have hck : zu [AV.raw (.string (zd (p ++ [c])))] = true := rfl
        unfold zk at hLk
        have FF := fI @a0 (fI @a1 (fI @a5 (fI @a6 (fI zk.eq_1 (fI @hlt' (fI @hle1 (fI @ha (fI @hcc (fI @c2 (fI @c3 (fI @w1 (fI @w2 (fI @hm (fI @hLk (fI @hLl (fI @hjs (fI @hsub (fI @sz2 (fI @hcat (fI @hsp (fI @hcl @hck))))))))))))))))))))); refine gxC ?_; clear FF
        refine hI1 (s.length - (i + 1)) _ _ (by omega) ⟨⟨fun i' o h' => ?_, hE.nx⟩, by simp [a0, zk], by simp [a1], i + 1, .rs j 0 (k + 1), by simp [a5], ?_, by simp, by omega, rfl⟩
        · rw [zI (fun e => by rw [e, hn] at h'; cases h')]; exact hE.m i' o h'
        · rw [hst, ← hLs]
          exact OwnL.of hjs (by simp [hm, zk]) hn (by simp [hLl])
  · have : i = s.length := by omega
    subst this
    rw [List.take_length] at hO
    have FF := fI @a0 (fI @a1 (fI @a5 (fI @a6 (fI zk.eq_1 @hsz)))); refine gxC ?_; clear FF
    exact zk0 (.inr rfl) (by simp) hO hE
theorem zld {s : Bs} {i : Nat} {c : UInt8} (h : s[i]? = some c) : val (s.take (i + 1)) = 10 * val (s.take i) + (c.toNat - 48) := by
  rw [List.take_add_one, h]; exact zhK _ _
theorem zem {most : Nat} {s : Bs} (hm : most ≤ 1048576) (h : (∃ c ∈ s, c.toNat < 48 ∨ 57 < c.toNat) ∨ 10 < s.length) : zaJ most s = -1 := by
  unfold zaJ
  cases hn : zag most s with
  | none => rfl
  | some n =>
    obtain ⟨rfl, h2⟩ := zbn.1 hn
    rcases h with ⟨c, hc, h⟩ | h
    · have := zeA n c hc; omega
    · have := zbx n 10 (by omega) (by omega); omega
theorem zkx (most : Nat) (s : Bs) : zaJ most s = if s = zz (val s) ∧ val s ≤ most then (val s : Int) else -1 := by
  unfold zaJ zag
  by_cases h : s = zz (val s) ∧ val s ≤ most
  · rw [if_pos h, if_pos h]
  · rw [if_neg h, if_neg h]
theorem zdw (s : Bs) (most : Nat) (hs : s.length ≤ 1000) (hm : most ≤ 1048576) : PCalls Tryd.prog 55 [zk s, .raw (.int .i64 most)] (.raw (.int .i64 (zaJ most s))) := by
  refine zL Tryd.func55 rfl (N := 49) rfl rfl (by simp) (by simp [noIds]) fun σ => ?_
  have wm1 : IntKind.i64.wrap (-1) = -1 := zq (by omega) (by omega)
  have FF := zk.eq_1; refine gxC ?_; clear FF
  refine zav (fun n A τ => τ = σ ∧ A 0 = zk s ∧ A 1 = .raw (.int .i64 most) ∧ ∃ (i m : Nat), A 5 = .raw (.int .i64 m) ∧ A 6 = .raw (.int .i64 i) ∧ i ≤ s.length ∧ i ≤ 10 ∧ m = val (s.take i) ∧ m < 10 ^ i ∧ (∀ c ∈ s.take i, 48 ≤ c.toNat ∧ c.toNat ≤ 57) ∧ n = s.length - i) s.length ?_ ?_
  · exact ⟨rfl, by simp [zk], by simp, 0, 0, by simp, by simp, by omega, by omega, rfl, by decide, by simp, by omega⟩
  rintro n A τ ⟨rfl, a0, a1, i, m, a5, a6, hi, hi10, hmv, hm10, hdig, rfl⟩ I1 hI1
  have hsz := zy s
  by_cases hlt : i < s.length
  · have hx : s[i]? = some s[i] := List.getElem?_eq_getElem hlt
    have hmem : s[i] ∈ s := List.getElem_mem hlt
    have ha := zjg hx (by omega)
    have hv := zld hx
    have hdt : ∀ c ∈ s.take (i + 1), c ∈ s.take i ∨ c = s[i] := by
      intro c hc
      rw [List.take_add_one, hx] at hc
      rcases List.mem_append.1 hc with h | h
      · exact .inl h
      · exact .inr (by simpa using h)
    generalize s[i] = c at *
    have hlt' : i < (zd s).size := by omega
    have w1 : IntKind.i64.wrap ((i : Int) + 1) = ((i + 1 : Nat) : Int) := by rw [zq (by omega) (by omega)]; omega
    by_cases h1 : c.toNat < 48
    · have hr := zem (s := s) hm (.inl ⟨c, hmem, .inl h1⟩)
      have h1' : ((c.toNat : Int) < 48) = True := by simp; omega
      rw [hr]
      have FF := fI @a0 (fI @a1 (fI @a5 (fI @a6 (fI zk.eq_1 (fI @hlt' (fI @ha (fI @h1' @wm1))))))); exact zr
    · have h1' : ((c.toNat : Int) < 48) = False := by simp; omega
      by_cases h2 : 57 < c.toNat
      · have hr := zem (s := s) hm (.inl ⟨c, hmem, .inr h2⟩)
        have h2' : ((57 : Int) < (c.toNat : Int)) = True := by simp; omega
        rw [hr]
        have FF := fI @a0 (fI @a1 (fI @a5 (fI @a6 (fI zk.eq_1 (fI @hlt' (fI @ha (fI @h1' (fI @h2' @wm1)))))))); exact zr
      · have h2' : ((57 : Int) < (c.toNat : Int)) = False := by simp; omega
        by_cases h3 : 9 < i
        · have hr := zem (s := s) hm (.inr (by omega))
          have h3' : ((9 : Int) < (i : Int)) = True := by simp; omega
          rw [hr]
          have FF := fI @a0 (fI @a1 (fI @a5 (fI @a6 (fI zk.eq_1 (fI @hlt' (fI @ha (fI @h1' (fI @h2' (fI @h3' @wm1))))))))); exact zr
        · have h3' : ((9 : Int) < (i : Int)) = False := by simp; omega
          have p10 : 10 ^ i ≤ 10 ^ 9 := Nat.pow_le_pow_right (by omega) (by omega)
          have hp : 10 ^ (i + 1) = 10 * 10 ^ i := by rw [Nat.pow_succ, Nat.mul_comm]
          obtain ⟨d, hd⟩ : ∃ d, c.toNat - 48 = d := ⟨_, rfl⟩
          have e1 : IntKind.u8.wrap ((c.toNat : Int) - 48) = (d : Int) := by
            have : IntKind.u8.wrap ((c.toNat : Int) - 48) = ((c.toNat : Int) - 48) % 256 := by simp [IntKind.wrap, IntKind.bits, IntKind.signed]
            rw [this]; omega
          have e2 : IntKind.i64.wrap (d : Int) = d := zq (by omega) (by omega)
          have e3 : IntKind.i64.wrap (10 * (m : Int)) = 10 * (m : Int) := zq (by omega) (by omega)
          have e4 : IntKind.i64.wrap (10 * (m : Int) + (d : Int)) = ((10 * m + d : Nat) : Int) := by rw [zq (by omega) (by omega)]; omega
          have hnew : 10 * m + d = val (s.take (i + 1)) ∧ 10 * m + d < 10 ^ (i + 1) := by rw [hv, hd, hmv, hp, ← hmv]; omega
          obtain ⟨m', hm'⟩ : ∃ m', 10 * m + d = m' := ⟨_, rfl⟩
          rw [hm'] at e4 hnew
          have FF := fI @a0 (fI @a1 (fI @a5 (fI @a6 (fI zk.eq_1 (fI @hlt' (fI @ha (fI @h1' (fI @h2' (fI @h3' (fI @e1 (fI @e2 (fI @e3 (fI @e4 @w1))))))))))))); refine gxC ?_; clear FF
          exact hI1 (s.length - (i + 1)) _ _ (by omega) ⟨rfl, by simp [a0, zk], by simp [a1], i + 1, m', by simp, by simp, by omega, by omega, hnew.1, hnew.2, fun c' hc' => by rcases hdt c' hc' with h | h; exact hdig c' h; subst h; omega, rfl⟩
  · have : i = s.length := by omega
    subst this
    rw [List.take_length] at hmv hdig
    have p10 : 10 ^ s.length ≤ 10 ^ 10 := Nat.pow_le_pow_right (by omega) hi10
    have hD := zbj m (by omega)
    have hE := zhn s
    have hB := zjc s (zz m)
    rw [zkx, ← hmv]
    have hnl : ¬ s.length < (zd s).size := by omega
    by_cases h1 : s = []
    · have hne : ¬ (s = zz m ∧ m ≤ most) := fun h => zhL m (by rw [← h.1, h1])
      rw [if_neg hne]
      have hE' : (zd s).toList.isEmpty = true := by rw [hE]; simp [h1]
      unfold zk at *
      have FF := fI @a0 (fI @a1 (fI @a5 (fI @a6 (fI @hnl (fI @hsz (fI @hE' @wm1)))))); exact zr
    · have hE' : (zd s).toList.isEmpty = false := by rw [hE]; simp [h1]
      by_cases h2 : s = zz m
      · have hB' : ((zd s).toList == (zd (zz m)).toList) = true := by rw [hB]; simpa using h2
        unfold zk at *
        generalize zd (zz m) = X at *
        by_cases h3 : m ≤ most
        · rw [if_pos ⟨h2, h3⟩]
          have h3' : ¬ most < m := by omega
          clear h2
          have FF := fI @a0 (fI @a1 (fI @a5 (fI @a6 (fI @hnl (fI @hsz (fI @hE' (fI @hB' (fI @h3 (fI @h3' @wm1))))))))); exact zr
        · rw [if_neg (fun h => h3 h.2)]
          have h3' : most < m := by omega
          clear h2
          have FF := fI @a0 (fI @a1 (fI @a5 (fI @a6 (fI @hnl (fI @hsz (fI @hE' (fI @hB' (fI @h3 (fI @h3' @wm1))))))))); exact zr
      · have hB' : ((zd s).toList == (zd (zz m)).toList) = false := by rw [hB]; simpa using h2
        rw [if_neg (fun h => h2 h.1)]
        unfold zk at *
        generalize zd (zz m) = X at *
        have FF := fI @a0 (fI @a1 (fI @a5 (fI @a6 (fI @hnl (fI @hsz (fI @hE' (fI @hB' @wm1))))))); exact zr
end Go.Proofs.YtckabcbfbpejkaaDoor.Av
namespace Go.Proofs.YtckabcbfbpejkaaDoor.Av
open Go
set_option linter.unusedSimpArgs false
set_option linter.unusedVariables false
set_option maxRecDepth 100000
set_option maxHeartbeats 4000000
set_option pp.maxSteps 600
theorem zfy {m : Nat} {x : Bs} (h : zag m x = none) : zaJ m x = -1 := by unfold zaJ; rw [h]
theorem zfz {m : Nat} {x : Bs} {n : Nat} (h : zag m x = some n) : zaJ m x = n := by unfold zaJ; rw [h]
theorem zbb (s : Bs) (hs : s.length ≤ 1000) : PCalls Tryd.prog 29 [zk s] (zcq (zS s)) := by
  have hS := zcr s 46 hs
  have hlen := zb7 46 s
  refine zL Tryd.func29 rfl (N := 30) rfl rfl (by simp) (zis _) fun σ => ?_
  unfold zS
  generalize zf 46 s = ps at *
  have e46 : (((46 : UInt8).toNat : Nat) : Int) = 46 := rfl
  rw [e46] at hS
  by_cases h4 : ps.length = 4
  · rw [if_pos h4]
    obtain ⟨T, hT⟩ : ∃ T, zbf ps 0 = T := ⟨_, rfl⟩
    rw [hT]
    have h4' : (ps.length : Int) = 4 := by omega
    have FF := fI zM.eq_1 @h4'; refine gxC ?_; clear FF
    refine zav (fun n B ρ => Ext σ ρ ∧ B 4 = zM ps false ∧ ∃ k a : Nat, B 6 = .raw (.int .i64 k) ∧ k ≤ 4 ∧ n = 4 - k ∧ B 5 = .raw (.int .i64 a) ∧ a < 256 ^ k ∧ zbf (ps.drop k) a = T) 4 ?_ ?_
    · exact ⟨by simp (maxDischargeDepth := 30), by simp [zM], 0, 0, by simp, by omega, by omega, by simp, by decide, by simpa using hT⟩
    rintro n B ρ ⟨hE, a4, k, a, a6, hk, rfl, a5, ha, hf⟩ I1 hI1
    by_cases hlt : k < 4
    · have hkl : k < ps.length := by omega
      have hx : ps[k]? = some ps[k] := List.getElem?_eq_getElem hkl
      have w1 : IntKind.i64.wrap ((k : Int) + 1) = ((k + 1 : Nat) : Int) := by rw [zq (by omega) (by omega)]; omega
      have hlt' : (k : Int) < 4 := by omega
      have hN := zdw ps[k] 255 (by have := hlen _ (List.getElem_mem hkl); omega) (by omega)
      have hd : ps.drop k = ps[k] :: ps.drop (k + 1) := (List.getElem_cons_drop hkl).symm
      rw [hd] at hf
      generalize ps[k] = x at *
      have ha24 : a < 16777216 := Nat.lt_of_lt_of_le ha (by have : 256 ^ k ≤ 256 ^ 3 := Nat.pow_le_pow_right (by omega) (by omega); simpa using this)
      cases hn : zag 255 x with
      | none =>
        rw [zfy hn] at hN
        rw [zcW, hn] at hf
        simp only [] at hf
        subst hf
        have hr : zcq none = .tup [.raw (.int .u32 0), .raw (.int .i64 21)] := rfl
        rw [hr]
        have FF := fI zM.eq_1 (fI @a4 (fI @a5 (fI @a6 (fI @hlt' (fI @hx @z7))))); exact zr
      | some c =>
        have hc := zfP hn
        rw [zfz hn] at hN
        rw [zcW, hn] at hf
        simp only [] at hf
        obtain ⟨y, hy⟩ : ∃ y, a * 256 + c = y := ⟨_, rfl⟩
        have e1 : IntKind.i64.wrap (256 * (a : Int)) = 256 * (a : Int) := zq (by omega) (by omega)
        have e3 : IntKind.i64.wrap (256 * (a : Int) + (c : Int)) = (y : Int) := by rw [zq (by omega) (by omega)]; omega
        have c0 : ((c : Int) < 0) = False := by simp
        have hy2 : y < 256 ^ (k + 1) := by rw [Nat.pow_succ]; omega
        rw [hy] at hf
        have FF := fI zM.eq_1 (fI @a4 (fI @a5 (fI @a6 (fI @hlt' (fI @hx (fI @z7 (fI @c0 (fI @e1 (fI @e3 @w1))))))))); refine gxC ?_; clear FF
        exact hI1 (4 - (k + 1)) _ _ (by omega) ⟨hE, by simp [a4, zM], k + 1, y, by simp, by omega, rfl, by simp, hy2, hf⟩
    · have : k = 4 := by omega
      subst this
      rw [List.drop_eq_nil_of_le (by omega)] at hf
      subst hf
      have hf0 : zbf [] a = some a := rfl
      rw [hf0]
      have hr : zcq (some a) = .tup [.raw (.int .u32 a), .raw (.int .i64 0)] := rfl
      have p4 : 256 ^ 4 = 4294967296 := by decide
      have wa : IntKind.u32.wrap (a : Int) = a := zbM (by omega) (by omega)
      rw [hr]
      have FF := fI @a4 (fI @a5 (fI @a6 @wa)); exact zr
  · rw [if_neg h4]
    have h4' : ¬ (ps.length : Int) = 4 := by omega
    have hr : zcq none = .tup [.raw (.int .u32 0), .raw (.int .i64 21)] := rfl
    rw [hr]
    have FF := fI zM.eq_1 @h4'; exact zr
theorem zho (l : List Bs) : (∃ h t, l = [h, t]) ∨ ¬ (l.length : Int) = 2 := by
  match l with
  | [] => right; simp
  | [a] => right; simp
  | [a, b] => left; exact ⟨a, b, rfl⟩
  | a :: b :: c :: r => right; simp; omega
theorem zjQ {s : Bs} (h : ¬ ((zf 47 s).length : Int) = 2) : zdj s = none := by
  unfold zdj
  split
  · rename_i e; rw [e] at h; simp at h
  · rfl
theorem zi2 {s : Bs} (hp : zaQ s = none) (h : ¬ ((zf 45 s).length : Int) = 2) : zb8 s = none := by
  unfold zb8
  rw [hp]
  try simp only []
  split
  · rename_i e; rw [e] at h; simp at h
  · rfl
theorem zdN (s : Bs) (hs : s.length ≤ 1000) : PCalls Tryd.prog 31 [zk s] (zei (zaQ s)) := by
  have hS := zcr s 47 hs
  have hlen := zb7 47 s
  have e47 : (((47 : UInt8).toNat : Nat) : Int) = 47 := rfl
  rw [e47] at hS
  rw [← zi1]
  refine zL Tryd.func31 rfl (N := 38) rfl rfl (by simp) (zhh _) fun σ => ?_
  rcases zho (zf 47 s) with ⟨h, t, hps⟩ | hne
  · unfold zdj
    rw [hps] at hS hlen ⊢
    have hA := zbb h (by have := hlen h (by simp); omega)
    have hN := zdw t 32 (by have := hlen t (by simp); omega) (by omega)
    have lt := fun a => zeh (s := h) (a := a)
    try simp only []
    cases ha : zS h with
    | none =>
      rw [ha, zba] at hA
      have hR := za1 ⟨0, zaJ 32 t⟩ (by simp) (by simp)
      unfold zab at hR
      generalize zaJ 32 t = z at *
      generalize zD ⟨0, z⟩ = b at *
      try simp only []
      rw [zaq]
      cases b
      all_goals
        have FF := fI zM.eq_1 (fI @z7 (fI @zh (fI @zl @zb))); exact zr
    | some a =>
      have la := lt a ha
      rw [ha, zaU] at hA
      have hR := za1 ⟨a, zaJ 32 t⟩ (by simp) (by simp; omega)
      unfold zab at hR
      try simp only []
      cases hn : zag 32 t with
      | none =>
        rw [zfy hn] at hN hR
        have hr : zD ⟨a, -1⟩ = false := by simp [zD]
        rw [hr] at hR
        try simp only []
        rw [zaq]
        have FF := fI zM.eq_1 (fI @z7 (fI @zh (fI @zl @zb))); exact zr
      | some n =>
        rw [zfz hn] at hN hR
        rw [zbR] at hR
        try simp only []
        cases hr : zaD a n with
        | true =>
          rw [hr] at hR
          rw [if_pos rfl, zbS]
          have FF := fI zM.eq_1 (fI @z7 (fI @zh (fI @zl @zb))); exact zr
        | false =>
          rw [hr] at hR
          rw [if_neg (by simp), zaq]
          have FF := fI zM.eq_1 (fI @z7 (fI @zh (fI @zl @zb))); exact zr
  · rw [zjQ hne, zaq]
    generalize zf 47 s = ps at *
    have FF := fI zM.eq_1 (fI @hne (fI @zh (fI @zl @zb))); exact zr
theorem zet (s : Bs) (hs : s.length ≤ 1000) : PCalls Tryd.prog 33 [zk s] (zds (zbu s)) := by
  have hP := zdN s hs
  rw [← ziy]
  refine zL Tryd.func33 rfl (N := 57) rfl rfl (by simp) (zhi _) fun σ => ?_
  cases hp : zaQ s with
  | some p =>
    unfold zb8
    rw [hp]
    obtain ⟨a, n⟩ := p
    obtain ⟨h1, _, _, h4⟩ := zgE hp
    have la := zeh h1
    have hR := zdk ⟨a, n⟩ (by simp) (by simp; omega)
    rw [zbT h4] at hR
    rw [hp, zbS] at hP
    try simp only []
    unfold zab at hR
    generalize a + 2 ^ (32 - n) - 1 = e at *
    rw [zai] at hR ⊢
    have FF := fI @zh (fI @zl @zb); exact zr
  | none =>
    rw [hp, zaq] at hP
    have hS := zcr s 45 hs
    have hlen := zb7 45 s
    have e45 : (((45 : UInt8).toNat : Nat) : Int) = 45 := rfl
    rw [e45] at hS
    rcases zho (zf 45 s) with ⟨h, t, hps⟩ | hne
    · unfold zb8
      rw [hp]
      try simp only []
      clear hp
      rw [hps] at hS hlen ⊢
      have hA := zbb h (by have := hlen h (by simp); omega)
      have hB := zbb t (by have := hlen t (by simp); omega)
      try simp only []
      cases ha : zS h with
      | none =>
        rw [ha, zba] at hA
        try simp only []
        rw [zaR]
        cases hb : zS t with
        | none =>
          rw [hb, zba] at hB
          have FF := fI zM.eq_1 (fI @z7 (fI @zh (fI @zl @zb))); exact zr
        | some c =>
          rw [hb, zaU] at hB
          have FF := fI zM.eq_1 (fI @z7 (fI @zh (fI @zl @zb))); exact zr
      | some a =>
        rw [ha, zaU] at hA
        try simp only []
        cases hb : zS t with
        | none =>
          rw [hb, zba] at hB
          try simp only []
          rw [zaR]
          have FF := fI zM.eq_1 (fI @z7 (fI @zh (fI @zl @zb))); exact zr
        | some c =>
          rw [hb, zaU] at hB
          try simp only []
          by_cases hle : a ≤ c
          · have hle' : ¬ c < a := by omega
            rw [if_pos hle, zai]
            have FF := fI zM.eq_1 (fI @z7 (fI @hle (fI @hle' (fI @zh (fI @zl @zb))))); exact zr
          · have hle' : c < a := by omega
            rw [if_neg hle, zaR]
            have FF := fI zM.eq_1 (fI @z7 (fI @hle (fI @hle' (fI @zh (fI @zl @zb))))); exact zr
    · rw [zi2 hp hne, zaR]
      generalize zf 45 s = ps at *
      have FF := fI zM.eq_1 (fI @hne (fI @zh (fI @zl @zb))); exact zr
end Go.Proofs.YtckabcbfbpejkaaDoor.Av
namespace Go.Proofs.YtckabcbfbpejkaaDoor.Av
open Go
set_option linter.unusedSimpArgs false
set_option linter.unusedVariables false
set_option maxRecDepth 100000
set_option maxHeartbeats 4000000
set_option pp.maxSteps 600
theorem zgW (a b : Nat) (ha : a < 4294967296) (hb : b < 4294967296) : PCalls Tryd.prog 25 [.agg [.raw (.int .u32 a), .raw (.int .u32 b)]] (zax a b) := by
  refine zL Tryd.func25 rfl (N := 50) rfl rfl (by simp) (by unfold zax noIds; split <;> simp [AV.ids, zg]) fun σ => ?_
  by_cases hle : a ≤ b
  · have hle' : ¬ b < a := by omega
    have hr : zax a b = .tup [zV (zA a b) false, .raw (.int .i64 0)] := by unfold zax; rw [if_pos hle]
    have e1 : IntKind.i64.wrap (a : Int) = a := zq (by omega) (by omega)
    have e2 : IntKind.i64.wrap (b : Int) = b := zq (by omega) (by omega)
    rw [hr]
    have FF := fI @hle' (fI @e1 (fI @zh (fI @zl @zb))); refine goC ?_; clear FF
    refine zav (fun n B ρ => Ext σ ρ ∧ B 1 = .rp ⟨1, σ.nx 1, 2⟩ 0 0 ∧ ρ.m ⟨1, σ.nx 1, 2⟩ = some (.buf [.agg [.raw (.int .u32 a), .raw (.int .u32 b)]]) ∧ ∃ (w : List (Nat × Nat)) (v : AV) (c : Nat), B 4 = v ∧ OwnL σ ρ 2 v (w.map pfN) ∧ (∀ a l, v ≠ .rs ⟨1, σ.nx 1, 2⟩ a l) ∧ B 5 = .raw (.int .i64 c) ∧ zA a b = w ++ zA c b ∧ n = b + 1 - c) (b + 1 - a) ?_ ?_
    · exact ⟨by simp (maxDischargeDepth := 30), by simp, by simp [zh], [], _, a, rfl, .inl ⟨by simp, by simp⟩, by simp, by simp, by simp, rfl⟩
    rintro n B ρ ⟨hE, b1, m1, w, v, c, b4, hO, hv1, b5, hw, rfl⟩ I1 hI1
    by_cases hc : c ≤ b
    · have hc' : c ≤ b := hc
      obtain ⟨s1, s2, s3, s4⟩ := zbU c b hc hb
      have hst := fun k => zbc (a := c) (b := b) (k := k) hc hb
      rw [zX hc] at hw
      have hlen : (zA a b).length ≤ 4294967296 := by have := zch a b; omega
      rw [hw] at hlen
      simp only [List.length_append, List.length_cons] at hlen
      generalize zw c b = s at *
      clear hr
      have FF := fI @b1 (fI @m1 (fI @b4 (fI @b5 (fI @e2 @hc')))); refine goC ?_; clear FF
      refine zav (fun n B' ρ' => ρ' = ρ ∧ B' 1 = .rp ⟨1, σ.nx 1, 2⟩ 0 0 ∧ B' 4 = v ∧ B' 5 = .raw (.int .i64 c) ∧ ∃ k : Nat, B' 6 = .raw (.int .i64 k) ∧ k ≤ 32 - s ∧ n = 32 - s - k) (32 - s) ?_ ?_
      · exact ⟨rfl, by simp [b1], by simp [b4], by simp [b5], 0, by simp, by omega, by omega⟩
      rintro n B' _ ⟨rfl, c1, c4, c5, k, c6, hk, rfl⟩ I2 hI2
      have hq0 : 0 < 2 ^ (32 - k) := Nat.pow_pos (by omega)
      have hq1 : 2 ^ (32 - k) ≤ 2 ^ 32 := Nat.pow_le_pow_right (by omega) (by omega)
      have hS := zel k (by omega)
      have f1 : (c : Int).tmod ((2 ^ (32 - k) : Nat) : Int) = ((c % 2 ^ (32 - k) : Nat) : Int) := by rw [Int.ofNat_tmod]
      have f2 : IntKind.i64.wrap ((c : Int) + ((2 ^ (32 - k) : Nat) : Int)) = (c : Int) + ((2 ^ (32 - k) : Nat) : Int) := zq (by omega) (by omega)
      have f3 : IntKind.i64.wrap ((c : Int) + ((2 ^ (32 - k) : Nat) : Int) - 1) = ((c + 2 ^ (32 - k) - 1 : Nat) : Int) := by rw [zq (by omega) (by omega)]; omega
      have f5 : ¬ 2 ^ (32 - k) = 0 := by omega
      have w1 : IntKind.i64.wrap ((k : Int) + 1) = ((k + 1 : Nat) : Int) := by rw [zq (by omega) (by omega)]; omega
      have hqs : 32 - k = s → 2 ^ s = 2 ^ (32 - k) := fun e => by rw [e]
      have hk2 := hst (32 - k) (by omega)
      generalize 2 ^ (32 - k) = q at *
      by_cases hlt : k < 32 - s
      · have hn : ¬ (c % q = 0 ∧ c + q - 1 ≤ b) := fun h => by have := hk2.2 h; omega
        by_cases hd : c % q = 0
        · have hd' : (((c % q : Nat) : Int) = 0) = True := by rw [hd]; simp
          have hd2 : c + q - 1 ≤ b ↔ False := by simp; omega
          have hd3 : b < c + q - 1 := by omega
          generalize c + q - 1 = y at *
          have FF := fI @c1 (fI @m1 (fI @c4 (fI @c5 (fI @c6 (fI @e2 (fI @f1 (fI @f2 (fI @f3 (fI @f5 (fI @hd (fI @hd3 @w1))))))))))); refine gxC ?_; clear FF
          exact hI2 (32 - s - (k + 1)) _ _ (by omega) ⟨rfl, by simp [c1], by simp [c4], by simp [c5], k + 1, by simp, by omega, rfl⟩
        · generalize c % q = x at *
          have FF := fI @c1 (fI @m1 (fI @c4 (fI @c5 (fI @c6 (fI @e2 (fI @f1 (fI @f2 (fI @f3 (fI @f5 (fI @hd @w1)))))))))); refine gxC ?_; clear FF
          exact hI2 (32 - s - (k + 1)) _ _ (by omega) ⟨rfl, by simp [c1], by simp [c4], by simp [c5], k + 1, by simp, by omega, rfl⟩
      · have hks : 32 - k = s := by omega
        obtain ⟨hd, hd2⟩ := hk2.1 (by omega)
        have hd3 : ¬ b < c + q - 1 := by omega
        rw [hqs hks] at hw s2 hlen
        have hk3 : 32 - s = k := by omega
        rw [hk3] at hw
        have g1 : IntKind.u32.wrap (c : Int) = c := zbM (by omega) (by omega)
        have hcq : b + 1 - (c + q) < b + 1 - c := by omega
        have fold : AV.agg [.raw (.int .u32 c), .raw (.int .i64 k)] = pfN (c, k) := rfl
        generalize c + q - 1 = y at *
        (try ((first | with_reducible refine z6 ?_ | with_reducible refine zam ?_ | with_reducible refine zan ?_); simp [-cellOK, c1, m1, c4, c5, c6, e2, f1, f2, f3, f5, hd, hd3, g1, fold, zaW, -zB])); repeat' (first | ((first | refine zY ?_ | refine z8 ?_ | refine dN (by decide +kernel) ?_ | refine dC (by decide +kernel) ?_ | refine uP (hS) ?_ | refine .inl ⟨_, .inl (hS), ?_⟩ | (refine zp ?_ ?_ <;> (intro hg; simp only [hg])) | fail) <;> simp [-cellOK, c1, m1, c4, c5, c6, e2, f1, f2, f3, f5, hd, hd3, g1, fold, zaW, -zB]) | refine z1 ?_ | refine zH ?_ | (refine zaM ?_; simp only [zaN]; try simp) | (refine zE (fun hc => ?_) (fun hc => ?_) <;> try simp at hc) | fail)
        refine zcU zlq (hO.ext (Ext.new _ _ _ _)) (hE.trans (Ext.new _ _ _ _)) (ys := [pfN (c, k)]) (by simp [pfN]) (.inr rfl) (by simp [pfN]) (by simp; omega) ?_
        intro v' τ' hO' hE' hkp _
        obtain ⟨hm1, hv2⟩ := hkp _ _ ((Ext.new _ _ _ _).m _ _ m1) hv1
        have FF := fI @c1 (fI @c4 (fI @c5 (fI @c6 @f2))); refine gxC ?_; clear FF
        exact hI1 (b + 1 - (c + q)) _ _ hcq ⟨hE', by simp [c1], hm1, w ++ [(c, k)], v', c + q, by simp, by simpa using hO', hv2, by simp, by simpa using hw, rfl⟩
    · have hc' : ¬ c ≤ b := hc
      rw [zaa hc] at hw
      simp only [List.append_nil] at hw
      subst hw
      have FF := fI @b1 (fI @m1 (fI @b4 (fI @b5 (fI @e2 @hc')))); refine goC ?_; clear FF
      unfold zV
      exact zhe (.inr rfl) (by simp) hO hE
  · have hle' : b < a := by omega
    have hr : zax a b = .tup [.sl 0 [] true, .raw (.int .i64 21)] := by unfold zax; rw [if_neg hle]
    rw [hr]
    have FF := fI @hle' (fI @zh (fI @zl @zb)); exact zr
end Go.Proofs.YtckabcbfbpejkaaDoor.Av
namespace Go.Proofs.YtckabcbfbpejkaaDoor.Av
open Go
set_option linter.unusedSimpArgs false
set_option linter.unusedVariables false
set_option maxRecDepth 100000
set_option maxHeartbeats 4000000
set_option pp.maxSteps 600
theorem zff (a c d : Nat) (n : Int) (ha : a < 4294967296) (hc : c < 4294967296) (hd : d < 4294967296) : PCalls Tryd.prog 4 [zab ⟨a, n⟩, rgA c d] (.raw (.bool true)) := by
  have h1 := zbQ a ha
  have h2 := zbB a ha
  have h3 := za1 ⟨a, n⟩ (by simp) (by simp; omega)
  have h4 := zdr c d hc hd
  have h5 := zeX c d hc hd
  have hL := zbv
  have hT : zD ⟨a, n⟩ = true → ∃ m : Nat, n = m ∧ m ≤ 32 := fun hr => by
    unfold zD at hr
    simp only [Bool.and_eq_true, decide_eq_true_eq] at hr
    exact ⟨n.toNat, by omega, by omega⟩
  have bE : ∀ x : ByteArray, (x.toList == x.toList) = true := fun x => by simp
  refine zL Tryd.func4 rfl (N := 38) rfl rfl (by simp) (by simp [noIds]) fun σ => ?_
  unfold zab rgA zk at *
  generalize zd (zv a) = X at *
  generalize zd (zao c d) = Y at *
  cases hr : zD ⟨a, n⟩ with
  | false =>
    rw [hr] at h3
    clear hT
    by_cases hle : d < c
    · have FF := fI @hle (fI @zh (fI @zl @zb)); exact zr
    · have FF := fI @hle (fI @zh (fI @zl @zb)); exact zr
  | true =>
    rw [hr] at h3
    obtain ⟨m, rfl, hm⟩ := hT hr
    have h6 := zgD a m ha (by omega)
    have h7 := zhy a m ha (by omega)
    unfold zk at h6 h7
    generalize zd (zaP a m) = Z at *
    clear hr
    by_cases hle : d < c
    · have FF := fI @hle (fI @zh (fI @zl @zb)); exact zr
    · have FF := fI @hle (fI @zh (fI @zl @zb)); exact zr
theorem zjR (o : Option Nat) : ∃ a e : Int, zcq o = .tup [.raw (.int .u32 a), .raw (.int .i64 e)] := by
  cases o with
  | none => exact ⟨_, _, zba⟩
  | some a => exact ⟨_, _, zaU a⟩
theorem zi3 (o : Option (Nat × Nat)) : ∃ a n e : Int, zei o = .tup [.agg [.raw (.int .u32 a), .raw (.int .i64 n)], .raw (.int .i64 e)] := by
  cases o with
  | none => exact ⟨_, _, _, zaq⟩
  | some a => exact ⟨_, _, _, zbS a.1 a.2⟩
theorem zi4 (o : Option (Nat × Nat)) : ∃ a n e : Int, zds o = .tup [.agg [.raw (.int .u32 a), .raw (.int .u32 n)], .raw (.int .i64 e)] := by
  cases o with
  | none => exact ⟨_, _, _, zaR⟩
  | some a => exact ⟨_, _, _, zai a.1 a.2⟩
theorem zeY (s : Bs) : PCalls Tryd.prog 7 [zk s] (.raw (.bool true)) := by
  have hL := zbv
  have hsz := zy s
  refine zL Tryd.func7 rfl (N := 80) rfl rfl (by simp) (by simp [noIds]) fun σ => ?_
  by_cases hl : 60 < s.length
  · have hl' : ((60 : Int) < ((zd s).size : Int)) = True := by simp; omega
    unfold zk
    have FF := @hl'; exact zr
  · have hl' : ((60 : Int) < ((zd s).size : Int)) = False := by simp; omega
    have h1 := za9 s (by omega)
    have h2 := zbb s (by omega)
    have h3 := zcB s (by omega)
    have h4 := zdN s (by omega)
    have h5 := zb1 s (by omega)
    have h6 := zet s (by omega)
    obtain ⟨a, e, q1⟩ := zjR (zS s)
    obtain ⟨b, c, d, q2⟩ := zi3 (zaQ s)
    obtain ⟨f, g, h, q3⟩ := zi4 (zbu s)
    rw [q1] at h1 h2
    rw [q2] at h3 h4
    rw [q3] at h5 h6
    clear q1 q2 q3
    unfold zk at *
    have FF := fI @hl' (fI @zh (fI @zl @zb)); exact zr
end Go.Proofs.YtckabcbfbpejkaaDoor.Av
namespace Go.Proofs.YtckabcbfbpejkaaDoor.Av
open Go
set_option linter.unusedSimpArgs false
set_option linter.unusedVariables false
inductive Chain (b : Nat) : Nat → List (Nat × Nat) → Prop
  | nil : Chain b (b + 1) []
  | cons {a n : Nat} {w : List (Nat × Nat)} (hr : zaD a n = true) (hle : a + 2 ^ (32 - n) - 1 ≤ b) (h : Chain b (a + 2 ^ (32 - n)) w) (hx : ∀ n', w.head? = some (a + 2 ^ (32 - n), n') → ofP a (a + 2 ^ (32 - n) + 2 ^ (32 - n') - 1) = none) : Chain b a ((a, n) :: w)
theorem zle {a b s t : Nat} (hab : a ≤ b) (hb : b < 4294967296) (hs : zw a b = s) (hst : a + 2 ^ s + 2 ^ t - 1 ≤ b) : ofP a (a + 2 ^ s + 2 ^ t - 1) = none := by
  have ht : 0 < 2 ^ t := Nat.pow_pos (by omega)
  have hs0 : 0 < 2 ^ s := Nat.pow_pos (by omega)
  have hse : s ≤ 32 := by rw [← hs]; exact (zbU a b hab hb).1
  obtain ⟨u, hu⟩ : ∃ u, zw a (a + 2 ^ s + 2 ^ t - 1) = u := ⟨_, rfl⟩
  have hl := zbU a (a + 2 ^ s + 2 ^ t - 1) (by omega) (by omega)
  rw [hu] at hl
  have hus : u ≤ s := by
    have h1 := (zbc (a := a) (b := a + 2 ^ s + 2 ^ t - 1) (k := u) (by omega) (by omega) hl.1).1 (by omega)
    have h2 := (zbc (a := a) (b := b) (k := u) hab hb hl.1).2 ⟨h1.1, by omega⟩
    omega
  have hpw : 2 ^ u ≤ 2 ^ s := Nat.pow_le_pow_right (by omega) hus
  unfold ofP
  rw [zX (by omega), hu, zX (by omega)]
theorem zfA {a b : Nat} (hab : a ≤ b + 1) (hb : b < 4294967296) : Chain b a (zA a b) := by
  by_cases h : a ≤ b
  · obtain ⟨s1, s2, _, _⟩ := zbU a b h hb
    have hp : 0 < 2 ^ zw a b := Nat.pow_pos (by omega)
    have hst := (zbc (k := zw a b) h hb s1).1 (by omega)
    have ih := zfA (a := a + 2 ^ zw a b) (b := b) (by omega) hb
    have e : 32 - (32 - zw a b) = zw a b := by omega
    rw [zX h]
    refine .cons (zbp.2 ⟨by omega, by rw [e]; exact hst.1⟩) (by rw [e]; exact hst.2) (by rw [e]; exact ih) fun n' hn' => ?_
    rw [e] at hn' ⊢
    by_cases h' : a + 2 ^ zw a b ≤ b
    · obtain ⟨t1, t2, _, _⟩ := zbU _ b h' hb
      rw [zX h'] at hn'
      simp only [List.head?_cons, Option.some.injEq, Prod.mk.injEq, true_and] at hn'
      have e2 : 32 - n' = zw (a + 2 ^ zw a b) b := by omega
      rw [e2]
      exact zle h hb rfl (by omega)
    · rw [zaa h'] at hn'; cases hn'
  · have : a = b + 1 := by omega
    subst this
    rw [zaa h]
    exact .nil
termination_by b + 1 - a
decreasing_by omega
theorem down {k : Nat} : ∀ {c b : Nat}, k ≤ 32 → c % 2 ^ k = 0 → b < 4294967296 → b + 1 - c < 2 ^ k → (zA c b).length ≤ k := by
  induction k using Nat.strongRecOn with
  | _ k ih =>
    intro c b hk hc hb hr
    by_cases h : c ≤ b
    · obtain ⟨s1, s2, s3, s4⟩ := zbU c b h hb
      obtain ⟨t, ht⟩ : ∃ t, zw c b = t := ⟨_, rfl⟩
      rw [ht] at s1 s2
      rw [zX h, ht, List.length_cons]
      have hp : 0 < 2 ^ t := Nat.pow_pos (by omega)
      have htk : t < k := by
        rcases Nat.lt_or_ge t k with h1 | h1
        · exact h1
        · have : 2 ^ k ≤ 2 ^ t := Nat.pow_le_pow_right (by omega) h1
          omega
      have hm : c % 2 ^ t = 0 := ((zbc (k := t) h hb s1).1 (by omega)).1
      have hnot : ¬ t + 1 ≤ zw c b := by omega
      rw [zbc h hb (by omega)] at hnot
      have hm2 : c % 2 ^ (t + 1) = 0 := by
        obtain ⟨q, hq⟩ := Nat.dvd_of_mod_eq_zero hc
        have : 2 ^ k = 2 ^ (t + 1) * 2 ^ (k - (t + 1)) := by rw [← Nat.pow_add]; congr 1; omega
        rw [hq, this, Nat.mul_assoc]; exact Nat.mul_mod_right _ _
      have hlt : b < c + 2 ^ (t + 1) - 1 := Nat.lt_of_not_le fun e => hnot ⟨hm2, e⟩
      have hpt : 2 ^ (t + 1) = 2 * 2 ^ t := by rw [Nat.pow_succ, Nat.mul_comm]
      have := ih t htk (c := c + 2 ^ t) (b := b) (by omega) (by rw [Nat.add_mod_right]; exact hm) hb (by omega)
      omega
    · rw [zaa h]; simp
theorem up {j : Nat} : ∀ {k c b : Nat}, k + j = 31 → 0 < c → c ≤ 4294967296 → c % 2 ^ k = 0 → b < 4294967296 → (zA c b).length ≤ 62 - k := by
  induction j with
  | zero =>
    intro k c b hk h0 h1 hm hb
    have : k = 31 := by omega
    subst this
    obtain ⟨q, hq⟩ := Nat.dvd_of_mod_eq_zero hm
    by_cases h : c ≤ b
    · have hq1 : q = 1 := by omega
      subst hq1
      by_cases hr : b + 1 - c < 2 ^ 31
      · exact down (by omega) hm hb hr
      · have hs : 31 ≤ zw c b := (zbc h hb (by omega)).2 ⟨hm, by omega⟩
        have hp : 2 ^ 31 ≤ 2 ^ zw c b := Nat.pow_le_pow_right (by omega) hs
        rw [zX h, zaa (by omega)]
        simp
    · rw [zaa h]; simp
  | succ j ih =>
    intro k c b hk h0 h1 hm hb
    by_cases hm2 : c % 2 ^ (k + 1) = 0
    · have := ih (k := k + 1) (c := c) (b := b) (by omega) h0 h1 hm2 hb
      omega
    · by_cases h : c ≤ b
      · obtain ⟨s1, s2, s3, s4⟩ := zbU c b h hb
        by_cases hr : b + 1 - c < 2 ^ k
        · have := down (by omega) hm hb hr
          omega
        · have h1' : k ≤ zw c b := (zbc h hb (by omega)).2 ⟨hm, by omega⟩
          have h2' : ¬ k + 1 ≤ zw c b := by rw [zbc h hb (by omega)]; exact fun e => hm2 e.1
          have hsk : zw c b = k := by omega
          rw [zX h, hsk, List.length_cons]
          rw [hsk] at s2
          have hpt : 2 ^ (k + 1) = 2 * 2 ^ k := by rw [Nat.pow_succ, Nat.mul_comm]
          have hm3 : (c + 2 ^ k) % 2 ^ (k + 1) = 0 := by
            obtain ⟨q, hq⟩ := Nat.dvd_of_mod_eq_zero hm
            have hodd : q % 2 = 1 := by
              rcases Nat.mod_two_eq_zero_or_one q with e | e
              · exfalso
                apply hm2
                obtain ⟨r, hr⟩ : ∃ r, q = 2 * r := ⟨q / 2, by omega⟩
                rw [hq, hr, ← Nat.mul_assoc, Nat.mul_comm (2 ^ k) 2, ← hpt]
                exact Nat.mul_mod_right _ _
              · exact e
            obtain ⟨r, hr⟩ : ∃ r, q = 2 * r + 1 := ⟨q / 2, by omega⟩
            have : c + 2 ^ k = 2 ^ (k + 1) * (r + 1) := by
              rw [hq, hr, hpt, Nat.mul_add, Nat.mul_add, ← Nat.mul_assoc, Nat.mul_comm (2 ^ k) 2]; omega
            rw [this]; exact Nat.mul_mod_right _ _
          have := ih (k := k + 1) (c := c + 2 ^ k) (b := b) (by omega) (by omega) (by omega) hm3 hb
          omega
      · rw [zaa h]; simp
theorem zlf {a b : Nat} (hb : b < 4294967296) (hab : a ≤ b) : (zA a b).length ≤ 62 := by
  rcases Nat.eq_zero_or_pos a with e | e
  · subst e
    by_cases hr : b + 1 - 0 < 2 ^ 32
    · have := down (k := 32) (c := 0) (b := b) (by omega) (by omega) hb hr
      omega
    · have hs : 32 ≤ zw 0 b := (zbc (by omega) hb (by omega)).2 ⟨by omega, by omega⟩
      have hp : 2 ^ 32 ≤ 2 ^ zw 0 b := Nat.pow_le_pow_right (by omega) hs
      rw [zX (by omega), zaa (by omega)]
      simp
  · have := up (j := 31) (k := 0) (c := a) (b := b) (by omega) e (by omega) (by omega) hb
    omega
theorem zhp {a b : Nat} (hab : a ≤ b) : 1 ≤ (zA a b).length := by rw [zX hab]; simp
end Go.Proofs.YtckabcbfbpejkaaDoor.Av
namespace Go.Proofs.YtckabcbfbpejkaaDoor.Av
open Go
set_option linter.unusedSimpArgs false
set_option linter.unusedVariables false
set_option maxRecDepth 100000
set_option maxHeartbeats 4000000
set_option pp.maxSteps 600
theorem ziz (w : List (Nat × Nat)) (f g : Bool) (hl : w.length < 2 ^ 60) : PCalls Tryd.prog 27 [zV w f, zV w g] (.raw (.bool true)) := by
  refine zL Tryd.func27 rfl (N := 26) rfl rfl (by simp) (by simp [noIds]) fun σ => ?_
  have FF := zV.eq_1; refine gxC ?_; clear FF
  refine zav (fun n A τ => τ = σ ∧ A 0 = zV w f ∧ A 1 = zV w g ∧ ∃ i : Nat, A 5 = .raw (.int .i64 i) ∧ i ≤ w.length ∧ n = w.length - i) w.length ?_ ?_
  · exact ⟨rfl, by simp [zV], by simp [zV], 0, by simp, by omega, by omega⟩
  rintro n A τ ⟨rfl, a0, a1, i, a5, hi, rfl⟩ I1 hI1
  by_cases hlt : i < w.length
  · have w1 : IntKind.i64.wrap ((i : Int) + 1) = ((i + 1 : Nat) : Int) := by rw [zq (by omega) (by omega)]; omega
    obtain ⟨r, hx⟩ : ∃ r, w[i] = r := ⟨_, rfl⟩
    have FF := fI zV.eq_1 (fI @a0 (fI @a1 (fI @a5 (fI @hlt (fI @hx (fI pfN.eq_1 @w1)))))); refine gxC ?_; clear FF
    exact hI1 (w.length - (i + 1)) _ _ (by omega) ⟨rfl, by simp [a0, zV], by simp [a1, zV], i + 1, by simp, by omega, rfl⟩
  · have : i = w.length := by omega
    subst this
    have FF := fI zV.eq_1 (fI @a0 (fI @a1 @a5)); exact zr
theorem zjS : PCalls Tryd.prog 27 [.sl 0 [] true, .sl 0 [] true] (.raw (.bool true)) := by
  refine zL Tryd.func27 rfl (N := 26) rfl rfl (by simp) (by simp [noIds]) fun σ => ?_
  refine zov ?_
  refine zav (fun n A τ => τ = σ ∧ A 0 = .sl 0 [] true ∧ A 1 = .sl 0 [] true ∧ A 5 = .raw (.int .i64 0)) 0 ?_ ?_
  · exact ⟨rfl, by simp, by simp, by simp⟩
  rintro n A τ ⟨rfl, a0, a1, a5⟩ I1 hI1
  have FF := fI @a0 (fI @a1 @a5); exact zr
theorem ziA (p : Pf) : ∃ x y e : Int, zaI p = .tup [.agg [.raw (.int .u32 x), .raw (.int .u32 y)], .raw (.int .i64 e)] := by
  unfold zaI
  split
  · exact ⟨_, _, _, rfl⟩
  · exact ⟨_, _, _, rfl⟩
theorem zfg (a c d : Nat) (n : Int) (ha : a < 4294967296) (hc : c < 4294967296) (hd : d < 4294967296) : PCalls Tryd.prog 5 [zab ⟨a, n⟩, rgA c d] (.raw (.bool true)) := by
  have h1 := zbz ⟨a, n⟩ (by simp) (by simp; omega)
  have h2 := zdk ⟨a, n⟩ (by simp) (by simp; omega)
  have h3 := zcz ⟨a, n⟩ (by simp) (by simp; omega)
  have h4 := za1 ⟨a, n⟩ (by simp) (by simp; omega)
  have h5 := zci c d hc hd
  have h6 := zgW c d hc hd
  have h7 := zeW c d hc hd
  have hL := zbv
  obtain ⟨x, y, e, q1⟩ := ziA ⟨a, n⟩
  rw [q1] at h1 h2
  clear q1
  generalize zD ⟨a, n⟩ = b at *
  refine zL Tryd.func5 rfl (N := 91) rfl rfl (by simp) (by simp [noIds]) fun σ => ?_
  unfold zab rgA at *
  by_cases hle : c ≤ d
  · have hlen := zch c d
    have hpos := zhp hle
    unfold zax at h5 h6
    rw [if_pos hle] at h5 h6
    have hS := ziz (zA c d) false false (by omega)
    unfold ofP at h7
    generalize zA c d = w at *
    match w, h5, h6, h7, hS, hlen, hpos with
    | [], h5, h6, h7, hS, hlen, hpos => simp at hpos
    | [p], h5, h6, h7, hS, hlen, hpos =>
      have hr : ofA (some p) = .tup [.agg [.raw (.int .u32 p.1), .raw (.int .i64 p.2)], .raw (.bool true)] := rfl
      simp only [] at h7
      rw [hr] at h7
      unfold zV pfN at *
      simp only [List.map_cons, List.map_nil] at *
      have FF := fI @zh (fI @zl @zb); exact zr
    | p :: q :: r, h5, h6, h7, hS, hlen, hpos =>
      have hr : ofA none = .tup [.agg [.raw (.int .u32 0), .raw (.int .i64 0)], .raw (.bool false)] := rfl
      simp only [] at h7
      rw [hr] at h7
      have hne : ¬ ((r.length : Int) + 1 + 1 = 1) := by omega
      have hne2 : (((p :: q :: r).map pfN).length : Int) = 1 ↔ False := by simp; omega
      unfold zV at *
      generalize (p :: q :: r).map pfN = L at *
      have FF := fI @hne2 (fI @zh (fI @zl @zb)); exact zr
  · have hS := zjS
    unfold zax at h5 h6
    rw [if_neg hle] at h5 h6
    unfold ofP at h7
    rw [zaa hle] at h7
    have hr : ofA none = .tup [.agg [.raw (.int .u32 0), .raw (.int .i64 0)], .raw (.bool false)] := rfl
    simp only [] at h7
    rw [hr] at h7
    have FF := fI @zh (fI @zl @zb); exact zr
theorem zlg {b : Nat} {w : List (Nat × Nat)} {c : Nat} {p : Nat × Nat} (h : Chain b c (p :: w)) : p.1 = c ∧ zaD c p.2 = true ∧ c + 2 ^ (32 - p.2) - 1 ≤ b ∧ Chain b (c + 2 ^ (32 - p.2)) w ∧ ∀ q, w.head? = some q → q.1 = c + 2 ^ (32 - p.2) ∧ zaD q.1 q.2 = true ∧ q.1 + 2 ^ (32 - q.2) - 1 ≤ b ∧ ofP c (q.1 + 2 ^ (32 - q.2) - 1) = none := by
  cases h with
  | @cons _ n _ hr hle h hx =>
    refine ⟨rfl, hr, hle, h, fun q hq => ?_⟩
    obtain ⟨c', hc'⟩ : ∃ c', c + 2 ^ (32 - n) = c' := ⟨_, rfl⟩
    simp only [hc'] at hx h ⊢
    cases h with
    | nil => cases hq
    | cons hr' hle' h' hx' =>
      simp only [List.head?_cons, Option.some.injEq] at hq
      subst hq
      exact ⟨rfl, hr', hle', hx _ rfl⟩
theorem zky {b c : Nat} (h : Chain b c []) : c = b + 1 := by cases h; rfl
theorem zfh (c d : Nat) (hc : c < 4294967296) (hd : d < 4294967296) : PCalls Tryd.prog 6 [rgA c d] (.raw (.bool true)) := by
  have h5 := zci c d hc hd
  have hL := zbv
  refine zL Tryd.func6 rfl (N := 110) rfl rfl (by simp) (by simp [noIds]) fun σ => ?_
  unfold rgA at *
  by_cases hle : c ≤ d
  · have hle' : ¬ d < c := by omega
    have hlen := zlf hd hle
    have hpos := zhp hle
    have hch := zfA (a := c) (b := d) (by omega) hd
    unfold zax at h5
    rw [if_pos hle] at h5
    generalize zA c d = w at *
    have wc : IntKind.i64.wrap (c : Int) = c := zq (by omega) (by omega)
    have FF := fI @hle' (fI zV.eq_1 (fI @wc (fI @zh (fI @zl @zb)))); refine gxC ?_; clear FF
    refine zav (fun n A τ => Ext σ τ ∧ A 1 = .rp ⟨1, σ.nx 1, 2⟩ 0 0 ∧ τ.m ⟨1, σ.nx 1, 2⟩ = some (.buf [.agg [.raw (.int .u32 c), .raw (.int .u32 d)]]) ∧ A 3 = zV w false ∧ A 4 = .raw (.int .i64 0) ∧ ∃ i k : Nat, A 6 = .raw (.int .i64 i) ∧ A 5 = .raw (.int .i64 k) ∧ i ≤ w.length ∧ Chain d k (w.drop i) ∧ n = w.length - i) w.length ?_ ?_
    · exact ⟨by simp (maxDischargeDepth := 30), by simp, by simp [zh], by simp [zV], by simp, 0, c, by simp, by simp, by omega, by simpa using hch, by omega⟩
    rintro n A τ ⟨hE, a1, m1, a3, a4, i, k, a6, a5, hi, hk, rfl⟩ I1 hI1
    by_cases hlt : i < w.length
    · obtain ⟨p, hx⟩ : ∃ p, w[i] = p := ⟨_, rfl⟩
      have hdr : w.drop i = w[i] :: w.drop (i + 1) := (List.getElem_cons_drop hlt).symm
      rw [hdr, hx] at hk
      obtain ⟨e1, e2, e3, e4, e5⟩ := zlg hk
      obtain ⟨p1, p2⟩ := p
      simp only [] at e1 e2 e3 e4 e5
      subst e1
      have hq0 : 0 < 2 ^ (32 - p2) := Nat.pow_pos (by omega)
      have hR := zbz ⟨p1, p2⟩ (by simp) (by simp; omega)
      rw [zbT e2, zai] at hR
      unfold zab at hR
      have hq0 : 0 < 2 ^ (32 - p2) := Nat.pow_pos (by omega)
      obtain ⟨y, hy⟩ : ∃ y, p1 + 2 ^ (32 - p2) - 1 = y := ⟨_, rfl⟩
      have hy1 : p1 + 2 ^ (32 - p2) = y + 1 := by omega
      rw [hy1] at e4 e5
      rw [hy] at hR
      have w1 : IntKind.i64.wrap ((i : Int) + 1) = ((i + 1 : Nat) : Int) := by rw [zq (by omega) (by omega)]; omega
      have w2 : IntKind.i64.wrap (p1 : Int) = p1 := zq (by omega) (by omega)
      have w3 : IntKind.i64.wrap (y : Int) = y := zq (by omega) (by omega)
      have w4 : IntKind.i64.wrap ((y : Int) + 1) = ((y + 1 : Nat) : Int) := by rw [zq (by omega) (by omega)]; omega
      have w5 : IntKind.i64.wrap ((y : Int) + 1) = (y : Int) + 1 := zq (by omega) (by omega)
      have w6 : IntKind.i64.wrap ((i : Int) + 1) = (i : Int) + 1 := zq (by omega) (by omega)
      have hy0 : 0 ≤ y := by omega
      clear hy hdr hk e2
      by_cases hl2 : i + 1 < w.length
      · obtain ⟨q, hx2⟩ : ∃ q, w[i + 1] = q := ⟨_, rfl⟩
        have hh : (w.drop (i + 1)).head? = some q := by rw [List.head?_drop, List.getElem?_eq_getElem hl2, hx2]
        obtain ⟨f1, f2, f3, f4⟩ := e5 q hh
        obtain ⟨q1, q2⟩ := q
        simp only [] at f1 f2 f3 f4
        have hq2 : 0 < 2 ^ (32 - q2) := Nat.pow_pos (by omega)
        have hR2 := zbz ⟨q1, q2⟩ (by simp) (by simp; omega)
        rw [zbT f2, zai] at hR2
        unfold zab at hR2
        have hq2 : 0 < 2 ^ (32 - q2) := Nat.pow_pos (by omega)
        obtain ⟨z, hz⟩ : ∃ z, q1 + 2 ^ (32 - q2) - 1 = z := ⟨_, rfl⟩
        rw [hz] at hR2 f3 f4
        have hO := zeW p1 z (by omega) (by omega)
        have hr : ofA none = .tup [.agg [.raw (.int .u32 0), .raw (.int .i64 0)], .raw (.bool false)] := rfl
        rw [f4, hr] at hO
        have hl2' : (i : Int) + 1 < (w.length : Int) := by omega
        have hi1 : (0 : Int) ≤ (i : Int) + 1 := by omega
        clear hz f1 f2 f3 f4 hh e5
        have FF := fI @a1 (fI @m1 (fI @a3 (fI @a4 (fI @a5 (fI @a6 (fI zV.eq_1 (fI pfN.eq_1 (fI @hlt (fI @hl2 (fI @hl2' (fI @hi1 (fI @hx (fI @hx2 (fI @w2 (fI @w3 (fI @w5 (fI @w6 (fI @zh (fI @zl @zb))))))))))))))))))); refine gxC ?_; clear FF
        exact hI1 (w.length - (i + 1)) _ _ (by omega) ⟨by exact exA, by simp [a1], by simp [zh, m1], by simp [a3, zV], by simp [a4], i + 1, y + 1, by simp, by simp, by omega, e4, rfl⟩
      · have hl2' : ¬ (i : Int) + 1 < (w.length : Int) := by omega
        clear e5
        have FF := fI @a1 (fI @m1 (fI @a3 (fI @a4 (fI @a5 (fI @a6 (fI zV.eq_1 (fI pfN.eq_1 (fI @hlt (fI @hl2 (fI @hl2' (fI @hx (fI @w2 (fI @w3 (fI @w5 (fI @w6 (fI @zh (fI @zl @zb))))))))))))))))); refine gxC ?_; clear FF
        exact hI1 (w.length - (i + 1)) _ _ (by omega) ⟨hE.trans (Ext.new _ _ _ _), by simp [a1], by simp [zh, m1], by simp [a3, zV], by simp [a4], i + 1, y + 1, by simp, by simp, by omega, e4, rfl⟩
    · have : i = w.length := by omega
      subst this
      rw [List.drop_length] at hk
      have := zky hk
      subst this
      have w3 : IntKind.i64.wrap (d : Int) = d := zq (by omega) (by omega)
      have w5 : IntKind.i64.wrap ((d : Int) + 1) = (d : Int) + 1 := zq (by omega) (by omega)
      have hp' : (1 : Int) ≤ (w.length : Int) := by omega
      have hm' : (w.length : Int) ≤ 62 := by omega
      have FF := fI @a1 (fI @m1 (fI @a3 (fI @a4 (fI @a5 (fI @a6 (fI zV.eq_1 (fI @w3 (fI @w5 (fI @hp' (fI @hm' (fI @hpos @hlen))))))))))); exact zr
  · have hle' : d < c := by omega
    unfold zax at h5
    rw [if_neg hle] at h5
    have FF := fI @hle' (fI @zh (fI @zl @zb)); exact zr
end Go.Proofs.YtckabcbfbpejkaaDoor.Av
