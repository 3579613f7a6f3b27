/- The law PrefixNested Part 17 of 19: AvS6, AvS7, AvS8. -/
import Derived.Test.YtckabcbfbpejkaaDoorPn8
import Derived.Test.YtckabcbfbpejkaaDoorPn11
import Derived.Test.YtckabcbfbpejkaaDoorPn16
import Derived.Lib.TrailingZeros
namespace Go.Proofs.YtckabcbfbpejkaaDoor.Av
open Go
set_option linter.unusedSimpArgs false
set_option linter.unusedVariables false
set_option maxRecDepth 100000
set_option maxHeartbeats 4000000
set_option pp.maxSteps 600
def zag (a b : Nat) : Nat := min (min (Lib.ctz 64 a) 32) (Sort.bitsLen (b + 1 - a) - 1)
def zU (a b : Nat) : List (Nat × Nat) := if a ≤ b then (a, 32 - zag a b) :: zU (a + 2 ^ zag a b) b else []
termination_by b + 1 - a
decreasing_by have : 0 < 2 ^ zag a b := Nat.pow_pos (by omega); omega
def pfN (p : Nat × Nat) : AV := .agg [.raw (.int .u32 p.1), .raw (.int .i64 p.2)]
theorem zaN (p : Nat × Nat) : (pfN p).cells = [.raw (.int .u32 p.1), .raw (.int .i64 p.2)] := rfl
theorem zjH (a b : Nat) (h : a ≤ b) (hb : b < 4294967296) : zag a b ≤ 32 ∧ 2 ^ zag a b ≤ b + 1 - a ∧ 1 ≤ Sort.bitsLen (b + 1 - a) ∧ Sort.bitsLen (b + 1 - a) ≤ 33 := by
  have h1 : ¬ Sort.bitsLen (b + 1 - a) ≤ 0 := fun e => by rw [Sort.bitsLen_le_iff] at e; simp at e; omega
  have h2 : Sort.bitsLen (b + 1 - a) ≤ 33 := (Sort.bitsLen_le_iff _ _).2 (by simp; omega)
  refine ⟨by unfold zag; omega, ?_, by omega, h2⟩
  have h3 : ¬ Sort.bitsLen (b + 1 - a) ≤ Sort.bitsLen (b + 1 - a) - 1 := by omega
  rw [Sort.bitsLen_le_iff] at h3
  have : 2 ^ zag a b ≤ 2 ^ (Sort.bitsLen (b + 1 - a) - 1) := Nat.pow_le_pow_right (by omega) (by unfold zag; omega)
  omega
theorem zec {a b : Nat} (h : a ≤ b) : zU a b = (a, 32 - zag a b) :: zU (a + 2 ^ zag a b) b := by rw [zU, if_pos h]
theorem zfd {a b : Nat} (h : ¬ a ≤ b) : zU a b = [] := by rw [zU, if_neg h]
theorem zki (x : Nat) : Lib.ctz 64 x ≤ 64 := by
  have : ∀ f x, Lib.ctzFrom f x ≤ f := by
    intro f
    induction f with
    | zero => intro x; simp [Lib.ctzFrom]
    | succ f ih => intro x; unfold Lib.ctzFrom; split <;> have := ih (x / 2) <;> omega
  unfold Lib.ctz
  split
  · omega
  · exact this 64 x
theorem zer {a b : Nat} (i : Id) (his : i.sz = 2) (ha : a < 4294967296) (hb : b < 4294967296) : zkg Tryd.prog 75 [.rp i 0 0] i (.buf [.agg [.raw (.int .u32 a), .raw (.int .u32 b)]]) ((zU a b).map pfN) := by
  intro bb I J h1 h2 h3 σ hi h0
  refine zjh Tryd.func75 rfl (N := 36) rfl rfl (by simp) ?_
  have wa : IntKind.u64.wrap (a : Int) = a := zcM (by omega) (by omega)
  have wb : IntKind.u64.wrap (b : Int) = b := zcM (by omega) (by omega)
  have FF := fI @his (fI @hi (fI @wa @wb)); refine goC ?_; clear FF
  refine zdH (fun n A τ => ∃ k at_ : Nat, A 0 = .fn (.yield bb) [] [] ∧ A 3 = .raw (.int .u64 at_) ∧ A 4 = .raw (.int .u64 b) ∧ τ.m i = some (.buf [.agg [.raw (.int .u32 a), .raw (.int .u32 b)]]) ∧ I k τ ∧ (zU a b).drop k = zU at_ b ∧ k + (zU at_ b).length = (zU a b).length ∧ n = b + 1 - at_) (b + 1 - a) ?_ ?_
  · exact ⟨0, a, by simp, by simp, by simp, hi, h0, by simp, by simp, rfl⟩
  rintro n A τ ⟨k, at_, a0, a3, a4, hti, hIk, hd, hkl, rfl⟩ I1 hI1
  by_cases hle : at_ ≤ b
  · have hle' : (at_ : Int) ≤ b := by omega
    obtain ⟨s1, s2, s3, s4⟩ := zjH at_ b hle hb
    have hT := zi5 at_ (by omega)
    have hL := Zn.len64_calls (b + 1 - at_) (by omega)
    have e1 : IntKind.u64.wrap ((b : Int) - at_) = ((b - at_ : Nat) : Int) := by rw [zcM (by omega) (by omega)]; omega
    have e2 : IntKind.u64.wrap (((b - at_ : Nat) : Int) + 1) = ((b + 1 - at_ : Nat) : Int) := by rw [zcM (by omega) (by omega)]; omega
    have e3 : IntKind.i64.wrap ((Sort.bitsLen (b + 1 - at_) : Int) - 1) = ((Sort.bitsLen (b + 1 - at_) - 1 : Nat) : Int) := by rw [zbQ (by omega) (by omega)]; omega
    rw [zec hle] at hd hkl
    have hcl := zki at_
    have hst : min (min ((Lib.ctz 64 at_ : Nat) : Int) 32) ((Sort.bitsLen (b + 1 - at_) - 1 : Nat) : Int) = (zag at_ b : Nat) := by unfold zag; omega
    have e4 : IntKind.u32.wrap (at_ : Int) = at_ := zb7 (by omega) (by omega)
    have e5 : IntKind.i64.wrap (32 - (zag at_ b : Int)) = ((32 - zag at_ b : Nat) : Int) := by rw [zbQ (by omega) (by omega)]; omega
    have hall : ∀ m, m < 33 → IntKind.u64.wrap (2 ^ min m IntKind.u64.bits) = ((2 ^ m : Nat) : Int) := by decide
    obtain ⟨pw, hpw⟩ : ∃ pw, 2 ^ zag at_ b = pw := ⟨_, rfl⟩
    have hpw0 : 0 < pw := by rw [← hpw]; exact Nat.pow_pos (by omega)
    have e6 := hall (zag at_ b) (by omega)
    rw [hpw] at s2 e6 hd hkl
    have e7 : IntKind.u64.wrap ((at_ : Int) + (pw : Int)) = ((at_ + pw : Nat) : Int) := by rw [zcM (by omega) (by omega)]; omega
    have e8 : (0 : Int) ≤ (zag at_ b : Nat) := by omega
    have hq : at_ < at_ + pw := by omega
    clear hpw
    clear hall
    generalize zag at_ b = m at *
    generalize at_ + pw = q at *
    generalize 32 - m = m2 at *
    generalize Lib.ctz 64 at_ = c at *
    generalize hL1 : Sort.bitsLen (b + 1 - at_) = L at *
    generalize L - 1 = L1 at *
    generalize b - at_ = d1 at *
    generalize hd2 : b + 1 - at_ = d2 at *
    have FF := fI @a0 (fI @a3 (fI @a4 (fI @hle' (fI @e1 (fI @e2 (fI @e3 @hst)))))); refine gxC ?_; clear FF
    have hk : ((zU a b).map pfN)[k]? = some (pfN (at_, m2)) := by
      rw [List.getElem?_map]
      have : (zU a b)[k]? = some (at_, m2) := by
        have h := congrArg (fun l => l[0]?) hd
        simpa using h
      rw [this]; rfl
    have hy := h3 k _ _ _ hk hIk hti
    unfold pfN at hy
    rw [e4, e5]
    refine YK.mono ?_ hy
    rintro _ τ2 (⟨rfl, q1, q2⟩ | ⟨rfl, q3⟩)
    · have FF := fI @a0 (fI @a3 (fI @a4 (fI @e6 (fI @e7 @e8)))); refine goB ?_; clear FF
      refine hI1 (b + 1 - q) _ _ (by omega) ⟨k + 1, q, by simp [a0], by simp, by simp [a4], q2, q1, ?_, by simp at hkl; omega, rfl⟩
      have h := congrArg (fun l => l.drop 1) hd
      simpa [List.drop_drop, Nat.add_comm] using h
    · have FF := fI @a0 (fI @a3 @a4); refine goB ?_; clear FF
      exact zfo (x := .tup []) (.inr rfl) (by simp) (.inr q3)
  · have hle' : ¬ (at_ : Int) ≤ b := by omega
    rw [zfd hle] at hkl
    have FF := fI @a0 (fI @a3 (fI @a4 @hle')); refine goB ?_; clear FF
    refine zfo (x := .tup []) (.inl rfl) (by simp) (.inl ?_)
    have hk : k = (zU a b).length := by simpa using hkl
    rw [← hk]; exact hIk
theorem zfe (a b : Nat) : (zU a b).length ≤ b + 1 - a := by
  by_cases h : a ≤ b
  · rw [zec h, List.length_cons]
    have h2 : 0 < 2 ^ zag a b := Nat.pow_pos (by omega)
    have := zfe (a + 2 ^ zag a b) b
    omega
  · rw [zfd h]; simp
termination_by b + 1 - a
decreasing_by omega
theorem zff (a b : Nat) {σ : St} : ACalls Tryd.prog 51 [.agg [.raw (.int .u32 a), .raw (.int .u32 b)]] σ fun r τ => ∃ i, r = .fn (.func 75) [] [.rp i 0 0] ∧ i.sz = 2 ∧ σ.m i = none ∧ τ.m i = some (.buf [.agg [.raw (.int .u32 a), .raw (.int .u32 b)]]) ∧ Ext σ τ := by
  refine zjh Tryd.func51 rfl (N := 4) rfl rfl (by simp) ?_
  refine zmq ?_
  refine zfo (x := .fn (.func 75) [] [.rp ⟨1, σ.nx 1, 2⟩ 0 0]) (.inr rfl) (by simp) ⟨_, rfl, rfl, zY _ _ _, by simp, Ext.new _ _ _ _⟩
def zfY (l : List (Nat × Nat)) (f : Bool) : AV := .sl 2 (l.map pfN) f
theorem zgM (K : Id → Prop) : ∀ l : List (Nat × Nat), zd K (l.map pfN)
  | [] => by simp [zd]
  | a :: l => by simp only [List.map_cons, zd]; exact ⟨by simp [pfN, AV.ids, zd], zgM K l⟩
@[simp] theorem zmN (K : Id → Prop) (l : List (Nat × Nat)) (f : Bool) : (zfY l f).ids K := by simp only [zfY, AV.ids]; exact zgM K l
def zcr (a b : Nat) : AV := if a ≤ b then .tup [zfY (zU a b) false, .raw (.int .i64 0)] else .tup [.sl 0 [] true, .raw (.int .i64 21)]
theorem zgN (a b : Nat) (ha : a < 4294967296) (hb : b < 4294967296) : PCalls Tryd.prog 24 [.agg [.raw (.int .u32 a), .raw (.int .u32 b)]] (zcr a b) := by
  refine zbp Tryd.func24 rfl (N := 19) rfl rfl (by simp) (by unfold zcr noIds; split <;> simp [AV.ids, zd]) fun σ => ?_
  by_cases hle : a ≤ b
  · have hle' : ¬ (b : Int) < a := by omega
    have hr : zcr a b = .tup [zfY (zU a b) false, .raw (.int .i64 0)] := by unfold zcr; rw [if_pos hle]
    rw [hr]
    have FF := fI @hle' (fI @zV (fI @zZ @zo)); refine goC ?_; clear FF
    have hlen := zfe a b
    have hit := fun (i : Id) (his : i.sz = 2) => zer (a := a) (b := b) i his ha hb
    have hgo := fun σ => zff a b (σ := σ)
    generalize zU a b = w at *
    have hE1 : Ext σ ((σ.new 1 2 (.buf [.agg [.raw (.int .u32 a), .raw (.int .u32 b)]])).new 4 1 (.buf [.sl 0 [] true])) := (Ext.new _ _ _ _).trans (Ext.new _ _ _ _)
    have hw0 : σ.m ⟨4, σ.nx 4, 1⟩ = none := zY _ _ _
    have hwm : ((σ.new 1 2 (.buf [.agg [.raw (.int .u32 a), .raw (.int .u32 b)]])).new 4 1 (.buf [.sl 0 [] true])).m ⟨4, σ.nx 4, 1⟩ = some (.buf [.sl 0 [] true]) := by simp [zV, zo]
    generalize (σ.new 1 2 (.buf [.agg [.raw (.int .u32 a), .raw (.int .u32 b)]])).new 4 1 (.buf [.sl 0 [] true]) = τ1 at *
    refine (hgo τ1).mono ?_
    rintro _ τ3 ⟨i, rfl, his, hi0, hi, hE3⟩
    have hE : Ext σ τ3 := hE1.trans hE3
    have hi0' : σ.m i = none := by
      cases h : σ.m i with
      | none => rfl
      | some o => have := hE1.m i o h; rw [hi0] at this; cases this
    have hwi : (⟨4, σ.nx 4, 1⟩ : Id) ≠ i := fun e => by rw [← e, hwm] at hi0; cases hi0
    have hwm := hE3.m _ _ hwm
    generalize (⟨4, σ.nx 4, 1⟩ : Id) = wv at *
    refine zmr ?_
    refine zhG (f := 75) (w := wv) (es0 := []) (n := 2) (by simp) (hit i his) hE hi hi0' hwm hw0 hwi OwnL.nil ⟨by simp, by simp⟩ ?_ ?_
    · intro bb lo L k x τ c hlo hL0 hLi hwL hx hG hc
      obtain ⟨r, hr, rfl⟩ : ∃ r, w[k]? = some r ∧ x = pfN r := by
        rw [List.getElem?_map] at hx
        cases h : w[k]? with
        | none => rw [h] at hx; cases hx
        | some r => rw [h] at hx; injection hx with hx; exact ⟨r, rfl, hx.symm⟩
      have hk := (List.getElem?_eq_some_iff.1 hr).1
      refine YK.of hG.lp hlo rfl ?_
      clear hlo
      have h2 := hG.lp
      have fold : ∀ r : Nat × Nat, AV.agg [.raw (.int .u32 r.1), .raw (.int .i64 r.2)] = pfN r := fun _ => rfl
      obtain ⟨g1, g2, g3, g4, v, g5, g6, g7⟩ := hG.start (slot := 5) (sz := 2) (x := .buf [pfN r]) (lo2 := lo .busy none) hc hL0 hwL hLi
      (try ((first | with_reducible refine zM ?_ | with_reducible refine zaa ?_ | with_reducible refine zab ?_); simp [-zw, h2, zaN, fold])); repeat' (first | ((first | refine zK ?_ | refine zT ?_ | refine dN (by decide +kernel) ?_ | (refine zk ?_ ?_ <;> (intro hg; simp only [hg])) | fail) <;> simp [-zw, h2, zaN, fold]) | refine zL ?_ | refine zA ?_ | (refine zaB ?_; simp only [zaC]; try simp) | ((first | refine z6 (by simp) ?_ | refine zaL (by simp) (by simp) (by simp (maxDischargeDepth := 30) [-zw, h2, zaN, fold]) ?_ | fail); simp) | (refine zz (fun hc => ?_) (fun hc => ?_) <;> try simp at hc) | fail)
      generalize (τ.new 5 2 (.buf [pfN r])).set L (lo .busy none) = s at *
      generalize (⟨5, τ.nx 5, 2⟩ : Id) = r5 at *
      have hvc := g6.cells
      (try ((first | with_reducible refine zM ?_ | with_reducible refine zaa ?_ | with_reducible refine zab ?_); simp [-zw, g1, g5, zaN, fold, hvc])); repeat' (first | ((first | refine zT ?_ | refine dN (by decide +kernel) ?_ | (refine zk ?_ ?_ <;> (intro hg; simp only [hg])) | fail) <;> simp [-zw, g1, g5, zaN, fold, hvc]) | refine zL ?_ | refine zA ?_ | (refine zaB ?_; simp only [zaC]; try simp) | ((first | refine z6 (by simp) ?_ | refine zaL (by simp) (by simp) (by simp (maxDischargeDepth := 30) [-zw, g1, g5, zaN, fold, hvc]) ?_ | fail); simp) | (apply zda; focus (simp [-zw, g1, g5, zaN, fold, hvc]; done)) | (apply zdb; focus (simp [-zw, g1, g5, zaN, fold, hvc]; done)) | fail)
      have hEs := Ext.new s 16 2 (.buf [pfN r])
      refine ze4 zlx (g6.ext hEs) (g4.trans hEs) (ys := [pfN r]) (by simp) (.inr rfl) (by simp [pfN]) (by simp; omega) ?_
      intro v' τ2 hO2 hE2 hkeep hnx
      obtain ⟨k1, k2⟩ := hkeep _ _ (hEs.m _ _ g5) g7.1
      obtain ⟨k3, k4⟩ := hkeep _ _ (hEs.m _ _ g2) g7.2.1
      obtain ⟨k5, k6⟩ := hkeep _ _ (hEs.m _ _ g3) g7.2.2
      obtain ⟨f1, f2, f3⟩ := Gath.fin (lo2 := lo .ready none) hE2 k3 k1 k5 hO2 ⟨k2, k4, k6⟩ hw0 hL0 hwL hwi hLi
      have f2 : Gath σ wv L i 2 (lo .ready none) (List.take k (w.map pfN) ++ [pfN r]) ((τ2.set wv (.buf [v'])).set L (lo .ready none)) := f2
      have hvc2 := hO2.cells
      have hvo2 := hO2.cellOK
      simp only [cellOK] at hvo2
      have hsp := g6.setPart (x := v')
      have FF := fI @k1 (fI @hvc (fI @hvc2 (fI @hvo2 @hsp))); refine goB ?_; clear FF
      exact ⟨f1, by simpa using f2, f3⟩
    · rintro τ' hE' ⟨v, hv, hO⟩
      have hvc := hO.cells
      have FF := fI @hv @hvc; refine goB ?_; clear FF
      refine zim (.inr rfl) (by simp) hO hE'
  · have hle' : (b : Int) < a := by omega
    have hr : zcr a b = .tup [.sl 0 [] true, .raw (.int .i64 21)] := by unfold zcr; rw [if_neg hle]
    rw [hr]
    have FF := fI @hle' (fI @zV (fI @zZ @zo)); exact gxA
end Go.Proofs.YtckabcbfbpejkaaDoor.Av
namespace Go.Proofs.YtckabcbfbpejkaaDoor.Av
open Go
set_option linter.unusedSimpArgs false
set_option linter.unusedVariables false
set_option maxRecDepth 100000
set_option maxHeartbeats 4000000
set_option pp.maxSteps 600
def ofP (a b : Nat) : Option (Nat × Nat) := match zU a b with | [p] => some p | _ => none
def ofA (o : Option (Nat × Nat)) : AV := match o with | some p => .tup [pfN p, .raw (.bool true)] | none => .tup [pfN (0, 0), .raw (.bool false)]
theorem zkj : zfX [49, 48, 46, 48, 46, 48, 46, 48, 47, 56] = some (167772160, 8) := by decide +kernel
theorem zkk : zb3 258 = [48, 46, 48, 46, 49, 46, 50] := by decide +kernel
theorem zkl : zU 1 6 = [(1, 32), (2, 31), (4, 31), (6, 32)] := by decide +kernel
theorem zfR : PCalls Tryd.prog 14 [] (.raw (.bool true)) := by
  refine zbp Tryd.func14 rfl (N := 52) rfl rfl (by simp) (by simp [noIds]) fun σ => ?_
  have h1 : PCalls Tryd.prog 30 [.raw (.string ⟨#[49, 48, 46, 48, 46, 48, 46, 48, 47, 56]⟩)] (.tup [.agg [.raw (.int .u32 167772160), .raw (.int .i64 8)], .raw (.int .i64 0)]) := by
    have h := zhe [49, 48, 46, 48, 46, 48, 46, 48, 47, 56] (by simp)
    rw [zkj] at h
    exact h
  have h2 : PCalls Tryd.prog 15 [.agg [.raw (.int .u32 167772160), .raw (.int .i64 8)]] (.tup [.agg [.raw (.int .u32 167772160), .raw (.int .u32 184549375)], .raw (.int .i64 0)]) := by
    have h := zcD ⟨167772160, 8⟩ (by decide) (by decide)
    have e : za7 ⟨167772160, 8⟩ = .tup [.agg [.raw (.int .u32 167772160), .raw (.int .u32 184549375)], .raw (.int .i64 0)] := by
      unfold za7
      rw [if_pos (by decide)]
      rfl
    rw [e] at h
    exact h
  have h3 : PCalls Tryd.prog 24 [.agg [.raw (.int .u32 1), .raw (.int .u32 6)]] (.tup [.sl 2 [.agg [.raw (.int .u32 1), .raw (.int .i64 32)], .agg [.raw (.int .u32 2), .raw (.int .i64 31)], .agg [.raw (.int .u32 4), .raw (.int .i64 31)], .agg [.raw (.int .u32 6), .raw (.int .i64 32)]] false, .raw (.int .i64 0)]) := by
    have h := zgN 1 6 (by decide) (by decide)
    unfold zcr at h
    rw [if_pos (by decide), zkl] at h
    exact h
  have h4 : PCalls Tryd.prog 16 [.raw (.int .u32 258)] (.raw (.string ⟨#[48, 46, 48, 46, 49, 46, 50]⟩)) := by
    have h := zhS 258 (by decide)
    rw [zkk] at h
    exact h
  have FF := fI @zV (fI @zZ @zo); exact gxA
end Go.Proofs.YtckabcbfbpejkaaDoor.Av
namespace Go.Proofs.YtckabcbfbpejkaaDoor.Av
open Go
set_option linter.unusedSimpArgs false
set_option linter.unusedVariables false
set_option maxRecDepth 100000
set_option maxHeartbeats 4000000
set_option pp.maxSteps 600
theorem zfg {a n : Nat} : zbr a n = true ↔ n ≤ 32 ∧ a % 2 ^ (32 - n) = 0 := by simp [zbr]
theorem zmt {a n c m : Nat} (h1 : zbr a n = true) (h2 : zbr c m = true) (hnm : n ≤ m) :
    (c < a ∧ c + 2 ^ (32 - m) - 1 < a) ∨ (a ≤ c ∧ c + 2 ^ (32 - m) - 1 ≤ a + 2 ^ (32 - n) - 1 ∧ ¬ c + 2 ^ (32 - m) - 1 < a ∧ ¬ a + 2 ^ (32 - n) - 1 < c ∧ (n = m → a = c)) ∨ (a < c ∧ a + 2 ^ (32 - n) - 1 < c ∧ ¬ c + 2 ^ (32 - m) - 1 ≤ a + 2 ^ (32 - n) - 1 ∧ ¬ c + 2 ^ (32 - m) - 1 < a) := by
  obtain ⟨k1, k2⟩ := zfg.1 h1
  obtain ⟨k3, k4⟩ := zfg.1 h2
  have hk : 2 ^ (32 - n) = 2 ^ (32 - m) * 2 ^ (m - n) := by rw [← Nat.pow_add]; congr 1; omega
  have hq : 0 < 2 ^ (32 - m) := Nat.pow_pos (by omega)
  have hp : 0 < 2 ^ (m - n) := Nat.pow_pos (by omega)
  have he : n = m → 2 ^ (m - n) = 1 := fun e => by subst e; simp
  obtain ⟨i, rfl⟩ := Nat.dvd_of_mod_eq_zero k2
  obtain ⟨j, rfl⟩ := Nat.dvd_of_mod_eq_zero k4
  rw [hk]
  generalize 2 ^ (32 - m) = Q at *
  generalize 2 ^ (m - n) = k at *
  have e1 : Q * k * i = Q * (k * i) := Nat.mul_assoc _ _ _
  have e2 : Q * (k * i) + Q * k = Q * (k * i + k) := (Nat.mul_add _ _ _).symm
  have e3 : Q * j + Q = Q * (j + 1) := by rw [Nat.mul_add, Nat.mul_one]
  rw [e1]
  have up : ∀ x y, x ≤ y → Q * x ≤ Q * y := fun x y h => Nat.mul_le_mul_left Q h
  have up2 : ∀ x y, x < y → Q * x < Q * y := fun x y h => Nat.mul_lt_mul_of_pos_left h hq
  have pk : 0 < Q * k := Nat.mul_pos hq hp
  rcases Nat.lt_or_ge j (k * i) with h | h
  · have := up _ _ (show j + 1 ≤ k * i from h)
    have := up2 _ _ h
    exact .inl ⟨by omega, by omega⟩
  · rcases Nat.lt_or_ge j (k * i + k) with h' | h'
    · have a1 := up _ _ h
      have a2 := up _ _ (show j + 1 ≤ k * i + k from h')
      refine .inr (.inl ⟨a1, by omega, by omega, by omega, fun e => ?_⟩)
      have := he e
      have : j = k * i := by omega
      rw [this]
    · have a1 := up _ _ h'
      exact .inr (.inr ⟨by omega, by omega, by omega, by omega⟩)
theorem zdP (a n c m : Int) (ha : 0 ≤ a) (ha' : a < 4294967296) (hc : 0 ≤ c) (hc' : c < 4294967296) : PCalls Tryd.prog 3 [zbq ⟨a, n⟩, zbq ⟨c, m⟩] (.raw (.bool true)) := by
  have hR1 := zbH ⟨a, n⟩ ha ha'
  have hR2 := zbH ⟨c, m⟩ hc hc'
  have hL := zfR
  have hG1 := zcD ⟨a, n⟩ ha ha'
  have hG2 := zcD ⟨c, m⟩ hc hc'
  refine zbp Tryd.func3 rfl (N := 97) rfl rfl (by simp) (by simp [noIds]) fun σ => ?_
  unfold zbq at *
  cases h1 : zar ⟨a, n⟩ with
  | false =>
    rw [h1] at hR1
    clear hG1 hG2 hR2
    have FF := fI @zV (fI @zZ @zo); exact gxA
  | true =>
    cases h2 : zar ⟨c, m⟩ with
    | false =>
      rw [h1] at hR1; rw [h2] at hR2
      clear hG1 hG2
      have FF := fI @zV (fI @zZ @zo); exact gxA
    | true =>
      have b1 := h1
      have b2 := h2
      unfold zar at b1 b2
      simp only [Bool.and_eq_true, decide_eq_true_eq] at b1 b2
      obtain ⟨a, rfl⟩ : ∃ k : Nat, a = k := ⟨a.toNat, by omega⟩
      obtain ⟨c, rfl⟩ : ∃ k : Nat, c = k := ⟨c.toNat, by omega⟩
      obtain ⟨n, rfl⟩ : ∃ k : Nat, n = k := ⟨n.toNat, by omega⟩
      obtain ⟨m, rfl⟩ : ∃ k : Nat, m = k := ⟨m.toNat, by omega⟩
      clear b1 b2
      have k1 := h1
      have k2 := h2
      rw [zde] at k1 k2
      rw [zfc k1, zdf] at hG1
      rw [zfc k2, zdf] at hG2
      rw [h1] at hR1; rw [h2] at hR2
      clear h1 h2
      by_cases hnm : n ≤ m
      · have hnm' : ¬ m < n := by omega
        have key := zmt k1 k2 hnm
        generalize a + 2 ^ (32 - n) - 1 = e at *
        generalize c + 2 ^ (32 - m) - 1 = f at *
        clear k1 k2
        have c1 : n < m ∨ n = m := by omega
        rcases key with ⟨q1, q2⟩ | ⟨q1, q2, q3, q4, q5⟩ | ⟨q1, q2, q3, q4⟩
        · have q6 : ¬ a ≤ c := by omega
          have q7 : ¬ (a : Int) = c := by omega
          rcases c1 with c1 | c1
          · have FF := fI @hnm (fI @hnm' (fI @q1 (fI @q2 (fI @q6 (fI @q7 (fI @c1 (fI @zV (fI @zZ @zo)))))))); exact gxA
          · subst c1
            have FF := fI @q1 (fI @q2 (fI @q6 (fI @q7 (fI @zV (fI @zZ @zo))))); exact gxA
        · rcases c1 with c1 | c1
          · have FF := fI @hnm (fI @hnm' (fI @q1 (fI @q2 (fI @q3 (fI @q4 (fI @c1 (fI @zV (fI @zZ @zo)))))))); exact gxA
          · have c2 : ¬ n < m := by omega
            have q6 := q5 c1
            subst q6; subst c1
            have FF := fI @q1 (fI @q2 (fI @q3 (fI @q4 (fI @c2 (fI @zV (fI @zZ @zo)))))); exact gxA
        · have q6 : a ≤ c := by omega
          have q7 : ¬ (a : Int) = c := by omega
          rcases c1 with c1 | c1
          · have FF := fI @hnm (fI @hnm' (fI @q1 (fI @q2 (fI @q3 (fI @q4 (fI @q6 (fI @q7 (fI @c1 (fI @zV (fI @zZ @zo)))))))))); exact gxA
          · subst c1
            have FF := fI @q1 (fI @q2 (fI @q3 (fI @q4 (fI @q6 (fI @q7 (fI @zV (fI @zZ @zo))))))); exact gxA
      · have hnm' : m < n := by omega
        have FF := fI @hnm (fI @hnm' (fI @zV (fI @zZ @zo))); exact gxA
end Go.Proofs.YtckabcbfbpejkaaDoor.Av
