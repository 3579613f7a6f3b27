/- Labels: LabelBack, LabelEdits. Part 9 of 17: AvL1, AvL2, AvL3, AvL4, AvL7, AvL8, AvL9, AvL5, AvL10, AvL11, AvL14, AvZ1, AvZ2, AvZ4, AvZ5, AvZ6, AvZ3, AvP3, AvL12, AvL13. -/
import Derived.Test.YtanimmdlgmkmkaaGreatLb6
import Derived.Test.YtanimmdlgmkmkaaGreatLb7
import Derived.Test.YtanimmdlgmkmkaaGreatLb8
namespace Go.Proofs.YtanimmdlgmkmkaaGreat.Av
open Go
set_option linter.unusedSimpArgs false
set_option linter.unusedVariables false
set_option maxRecDepth 100000
set_option maxHeartbeats 4000000
set_option pp.maxSteps 600
theorem zgl {P : Program} {f : FuncId} {sz : Nat} {fl : Bool} {r : AV} (h : ∀ b cap, PCalls P f [.raw (.slice b 0 cap)] r) : PCalls P f [.sl sz [] fl] r :=
  ⟨(h none 0).1, fun σ => ziU fun b cap => (h b cap).2 σ⟩
theorem zps : ∀ z : List Int, z8 (zM (z.map iAV)) = true := fun z => by
  induction z with
  | nil => rfl
  | cons r z ih => simp [zM, iAV, z8, cellOK] at ih ⊢; try exact ih
theorem zoN : ∀ z : List Lk, z8 (zM (z.map zbU)) = true := fun z => by
  induction z with
  | nil => rfl
  | cons r z ih => simp [zM, zbU, z8, cellOK] at ih ⊢; try exact ih
theorem zd0 (l : List Int) (f : Bool) (hl : l.length < 2 ^ 44) : PCalls Tryz.prog 88 [zy l f] (zy l false) := by
  cases l with
  | nil =>
    simp only [zy, List.map_nil]
    refine zgl fun b cap => ?_
    refine zJ Tryz.func88 rfl (N := 8) rfl rfl (by simp) (by simp [noIds]) fun σ => ?_
    cases b with
    | none =>
      (try ((first | with_reducible refine zh ?_ | with_reducible refine zm ?_ | with_reducible refine zo ?_); simp [-cellOK])); repeat' (first | ((first | refine zd ?_ | refine zg ?_ | refine dN (by decide +kernel) ?_ | refine dC (by decide +kernel) ?_ | (refine za ?_ ?_ <;> (intro hg; simp only [hg])) | fail) <;> simp [-cellOK]) | refine zf ?_ | refine zc ?_ | (refine zp ?_; simp only [zq]; try simp) | (refine zb (fun hc => ?_) (fun hc => ?_) <;> try simp at hc) | fail)
      exact zei (x := .sl 0 [] true) (.inr rfl) (by repeat (first | assumption | exact Ext.refl _ | refine zv ?_ | refine Ext.setF ?_ (by first | assumption | (simp [ze, St.set, zk]; done) | exact zt (by assumption)))) (by simp) (by simp only [zah, zF]; exact zcu)
    | some b =>
      (try ((first | with_reducible refine zh ?_ | with_reducible refine zm ?_ | with_reducible refine zo ?_); simp [-cellOK, -zG])); repeat' (first | ((first | refine zd ?_ | refine zg ?_ | refine dN (by decide +kernel) ?_ | refine dC (by decide +kernel) ?_ | (refine za ?_ ?_ <;> (intro hg; simp only [hg])) | fail) <;> simp [-cellOK, -zG]) | refine zf ?_ | refine zc ?_ | (refine zp ?_; simp only [zq]; try simp) | (refine zb (fun hc => ?_) (fun hc => ?_) <;> try simp at hc) | fail)
      refine zal zhm (σ0 := σ) (es := []) (OwnL.of rfl (by simp) (zk _ _ _) rfl) (Ext.new _ _ _ _) (ys := []) (by simp) (.inl rfl) rfl (by simp) ?_
      intro v1 τ1 hO1 hE1 _ _
      rw [List.nil_append] at hO1
      (try ((first | with_reducible refine zh ?_ | with_reducible refine zm ?_ | with_reducible refine zo ?_); simp [-cellOK, -zG])); repeat' (first | ((first | refine zd ?_ | refine zg ?_ | refine dN (by decide +kernel) ?_ | refine dC (by decide +kernel) ?_ | (refine za ?_ ?_ <;> (intro hg; simp only [hg])) | fail) <;> simp [-cellOK, -zG]) | refine zf ?_ | refine zc ?_ | (refine zp ?_; simp only [zq]; try simp) | (refine zb (fun hc => ?_) (fun hc => ?_) <;> try simp at hc) | fail)
      exact zbX (v := v1) (.inr rfl) (by simp) hO1 hE1
  | cons r l =>
    refine zJ Tryz.func88 rfl (N := 8) rfl rfl (by simp) (by simp [noIds]) fun σ => ?_
    (try ((first | with_reducible refine zh ?_ | with_reducible refine zm ?_ | with_reducible refine zo ?_); simp [-cellOK, zy, -zG])); repeat' (first | ((first | refine zd ?_ | refine zg ?_ | refine dN (by decide +kernel) ?_ | refine dC (by decide +kernel) ?_ | (refine za ?_ ?_ <;> (intro hg; simp only [hg])) | fail) <;> simp [-cellOK, zy, -zG]) | refine zf ?_ | refine zc ?_ | (refine zp ?_; simp only [zq]; try simp) | (refine zb (fun hc => ?_) (fun hc => ?_) <;> try simp at hc) | fail)
    refine zal zhm (σ0 := σ) (es := []) (OwnL.of rfl (by simp) (zk _ _ _) rfl) (Ext.new _ _ _ _) (ys := (r :: l).map iAV) (by simp) (.inr rfl) (zps _) (by simp at hl ⊢; omega) ?_
    intro v1 τ1 hO1 hE1 _ _
    rw [List.nil_append] at hO1
    (try ((first | with_reducible refine zh ?_ | with_reducible refine zm ?_ | with_reducible refine zo ?_); simp [-cellOK, -zG])); repeat' (first | ((first | refine zd ?_ | refine zg ?_ | refine dN (by decide +kernel) ?_ | refine dC (by decide +kernel) ?_ | (refine za ?_ ?_ <;> (intro hg; simp only [hg])) | fail) <;> simp [-cellOK, -zG]) | refine zf ?_ | refine zc ?_ | (refine zp ?_; simp only [zq]; try simp) | (refine zb (fun hc => ?_) (fun hc => ?_) <;> try simp at hc) | fail)
    exact zbX (v := v1) (.inr rfl) (by simp) hO1 hE1
theorem zep (l : List Lk) (f : Bool) (hl : l.length < 2 ^ 42) : PCalls Tryz.prog 128 [zw l f] (zw l false) := by
  cases l with
  | nil =>
    simp only [zw, List.map_nil]
    refine zgl fun b cap => ?_
    refine zJ Tryz.func128 rfl (N := 8) rfl rfl (by simp) (by simp [noIds]) fun σ => ?_
    cases b with
    | none =>
      (try ((first | with_reducible refine zh ?_ | with_reducible refine zm ?_ | with_reducible refine zo ?_); simp [-cellOK])); repeat' (first | ((first | refine zd ?_ | refine zg ?_ | refine dN (by decide +kernel) ?_ | refine dC (by decide +kernel) ?_ | (refine za ?_ ?_ <;> (intro hg; simp only [hg])) | fail) <;> simp [-cellOK]) | refine zf ?_ | refine zc ?_ | (refine zp ?_; simp only [zq]; try simp) | (refine zb (fun hc => ?_) (fun hc => ?_) <;> try simp at hc) | fail)
      exact zei (x := .sl 0 [] true) (.inr rfl) (by repeat (first | assumption | exact Ext.refl _ | refine zv ?_ | refine Ext.setF ?_ (by first | assumption | (simp [ze, St.set, zk]; done) | exact zt (by assumption)))) (by simp) (by simp only [zah, zF]; exact zcu)
    | some b =>
      (try ((first | with_reducible refine zh ?_ | with_reducible refine zm ?_ | with_reducible refine zo ?_); simp [-cellOK, -zG])); repeat' (first | ((first | refine zd ?_ | refine zg ?_ | refine dN (by decide +kernel) ?_ | refine dC (by decide +kernel) ?_ | (refine za ?_ ?_ <;> (intro hg; simp only [hg])) | fail) <;> simp [-cellOK, -zG]) | refine zf ?_ | refine zc ?_ | (refine zp ?_; simp only [zq]; try simp) | (refine zb (fun hc => ?_) (fun hc => ?_) <;> try simp at hc) | fail)
      refine zal zpc (σ0 := σ) (es := []) (OwnL.of rfl (by simp) (zk _ _ _) rfl) (Ext.new _ _ _ _) (ys := []) (by simp) (.inl rfl) rfl (by simp) ?_
      intro v1 τ1 hO1 hE1 _ _
      rw [List.nil_append] at hO1
      (try ((first | with_reducible refine zh ?_ | with_reducible refine zm ?_ | with_reducible refine zo ?_); simp [-cellOK, -zG])); repeat' (first | ((first | refine zd ?_ | refine zg ?_ | refine dN (by decide +kernel) ?_ | refine dC (by decide +kernel) ?_ | (refine za ?_ ?_ <;> (intro hg; simp only [hg])) | fail) <;> simp [-cellOK, -zG]) | refine zf ?_ | refine zc ?_ | (refine zp ?_; simp only [zq]; try simp) | (refine zb (fun hc => ?_) (fun hc => ?_) <;> try simp at hc) | fail)
      exact zbX (v := v1) (.inr rfl) (by simp) hO1 hE1
  | cons r l =>
    refine zJ Tryz.func128 rfl (N := 8) rfl rfl (by simp) (by simp [noIds]) fun σ => ?_
    (try ((first | with_reducible refine zh ?_ | with_reducible refine zm ?_ | with_reducible refine zo ?_); simp [-cellOK, zw, -zG])); repeat' (first | ((first | refine zd ?_ | refine zg ?_ | refine dN (by decide +kernel) ?_ | refine dC (by decide +kernel) ?_ | (refine za ?_ ?_ <;> (intro hg; simp only [hg])) | fail) <;> simp [-cellOK, zw, -zG]) | refine zf ?_ | refine zc ?_ | (refine zp ?_; simp only [zq]; try simp) | (refine zb (fun hc => ?_) (fun hc => ?_) <;> try simp at hc) | fail)
    refine zal zpc (σ0 := σ) (es := []) (OwnL.of rfl (by simp) (zk _ _ _) rfl) (Ext.new _ _ _ _) (ys := (r :: l).map zbU) (by simp) (.inr rfl) (zoN _) (by simp at hl ⊢; omega) ?_
    intro v1 τ1 hO1 hE1 _ _
    rw [List.nil_append] at hO1
    (try ((first | with_reducible refine zh ?_ | with_reducible refine zm ?_ | with_reducible refine zo ?_); simp [-cellOK, -zG])); repeat' (first | ((first | refine zd ?_ | refine zg ?_ | refine dN (by decide +kernel) ?_ | refine dC (by decide +kernel) ?_ | (refine za ?_ ?_ <;> (intro hg; simp only [hg])) | fail) <;> simp [-cellOK, -zG]) | refine zf ?_ | refine zc ?_ | (refine zp ?_; simp only [zq]; try simp) | (refine zb (fun hc => ?_) (fun hc => ?_) <;> try simp at hc) | fail)
    exact zbX (v := v1) (.inr rfl) (by simp) hO1 hE1
theorem zjt (l : List Ru) (f : Bool) (hl : l.length < 2932031007403) : PCalls Tryz.prog 129 [zu l f] (zu l false) := by
  cases l with
  | nil =>
    simp only [zu, List.map_nil]
    refine zgl fun b cap => ?_
    refine zJ Tryz.func129 rfl (N := 8) rfl rfl (by simp) (by simp [noIds]) fun σ => ?_
    cases b with
    | none =>
      (try ((first | with_reducible refine zh ?_ | with_reducible refine zm ?_ | with_reducible refine zo ?_); simp [-cellOK])); repeat' (first | ((first | refine zd ?_ | refine zg ?_ | refine dN (by decide +kernel) ?_ | refine dC (by decide +kernel) ?_ | (refine za ?_ ?_ <;> (intro hg; simp only [hg])) | fail) <;> simp [-cellOK]) | refine zf ?_ | refine zc ?_ | (refine zp ?_; simp only [zq]; try simp) | (refine zb (fun hc => ?_) (fun hc => ?_) <;> try simp at hc) | fail)
      exact zei (x := .sl 0 [] true) (.inr rfl) (by repeat (first | assumption | exact Ext.refl _ | refine zv ?_ | refine Ext.setF ?_ (by first | assumption | (simp [ze, St.set, zk]; done) | exact zt (by assumption)))) (by simp) (by simp only [zah, zF]; exact zcu)
    | some b =>
      (try ((first | with_reducible refine zh ?_ | with_reducible refine zm ?_ | with_reducible refine zo ?_); simp [-cellOK, -zG])); repeat' (first | ((first | refine zd ?_ | refine zg ?_ | refine dN (by decide +kernel) ?_ | refine dC (by decide +kernel) ?_ | (refine za ?_ ?_ <;> (intro hg; simp only [hg])) | fail) <;> simp [-cellOK, -zG]) | refine zf ?_ | refine zc ?_ | (refine zp ?_; simp only [zq]; try simp) | (refine zb (fun hc => ?_) (fun hc => ?_) <;> try simp at hc) | fail)
      refine zal zce (σ0 := σ) (es := []) (OwnL.of rfl (by simp) (zk _ _ _) rfl) (Ext.new _ _ _ _) (ys := []) (by simp) (.inl rfl) rfl (by simp) ?_
      intro v1 τ1 hO1 hE1 _ _
      rw [List.nil_append] at hO1
      (try ((first | with_reducible refine zh ?_ | with_reducible refine zm ?_ | with_reducible refine zo ?_); simp [-cellOK, -zG])); repeat' (first | ((first | refine zd ?_ | refine zg ?_ | refine dN (by decide +kernel) ?_ | refine dC (by decide +kernel) ?_ | (refine za ?_ ?_ <;> (intro hg; simp only [hg])) | fail) <;> simp [-cellOK, -zG]) | refine zf ?_ | refine zc ?_ | (refine zp ?_; simp only [zq]; try simp) | (refine zb (fun hc => ?_) (fun hc => ?_) <;> try simp at hc) | fail)
      exact zbX (v := v1) (.inr rfl) (by simp) hO1 hE1
  | cons r l =>
    refine zJ Tryz.func129 rfl (N := 8) rfl rfl (by simp) (by simp [noIds]) fun σ => ?_
    (try ((first | with_reducible refine zh ?_ | with_reducible refine zm ?_ | with_reducible refine zo ?_); simp [-cellOK, zu, -zG])); repeat' (first | ((first | refine zd ?_ | refine zg ?_ | refine dN (by decide +kernel) ?_ | refine dC (by decide +kernel) ?_ | (refine za ?_ ?_ <;> (intro hg; simp only [hg])) | fail) <;> simp [-cellOK, zu, -zG]) | refine zf ?_ | refine zc ?_ | (refine zp ?_; simp only [zq]; try simp) | (refine zb (fun hc => ?_) (fun hc => ?_) <;> try simp at hc) | fail)
    refine zal zce (σ0 := σ) (es := []) (OwnL.of rfl (by simp) (zk _ _ _) rfl) (Ext.new _ _ _ _) (ys := (r :: l).map zE) (by simp) (.inr rfl) (ziV _) (by simp at hl ⊢; omega) ?_
    intro v1 τ1 hO1 hE1 _ _
    rw [List.nil_append] at hO1
    (try ((first | with_reducible refine zh ?_ | with_reducible refine zm ?_ | with_reducible refine zo ?_); simp [-cellOK, -zG])); repeat' (first | ((first | refine zd ?_ | refine zg ?_ | refine dN (by decide +kernel) ?_ | refine dC (by decide +kernel) ?_ | (refine za ?_ ?_ <;> (intro hg; simp only [hg])) | fail) <;> simp [-cellOK, -zG]) | refine zf ?_ | refine zc ?_ | (refine zp ?_; simp only [zq]; try simp) | (refine zb (fun hc => ?_) (fun hc => ?_) <;> try simp at hc) | fail)
    exact zbX (v := v1) (.inr rfl) (by simp) hO1 hE1
theorem zj6 (n : Nw) (f : Fl) (hn : NwOK n) : PCalls Tryz.prog 75 [z7 n f] (z7 n flN) := by
  have h1 := zd0 n.t.ports f.p hn.ports
  have h2 := zep n.t.links f.l hn.links
  have h3 := zjt n.rules f.r hn.rules
  have hfl : AV.agg [zy n.t.ports false, zw n.t.links false, zu n.rules false] = z7 n flN := rfl
  refine zJ Tryz.func75 rfl (N := 16) rfl rfl (by simp) (by simp [noIds]) fun σ => ?_
  have c1 : (zy n.t.ports false).cells = [zy n.t.ports false] := rfl
  have c2 : (zw n.t.links false).cells = [zw n.t.links false] := rfl
  have c3 : (zu n.rules false).cells = [zu n.rules false] := rfl
  (try ((first | with_reducible refine zh ?_ | with_reducible refine zm ?_ | with_reducible refine zo ?_); simp [-cellOK, zr, c1, c2, c3, hfl, zz, zB, ze])); repeat' (first | ((first | refine zd ?_ | refine zg ?_ | refine dN (by decide +kernel) ?_ | refine dC (by decide +kernel) ?_ | refine uP (h1) ?_ | refine .inl ⟨_, .inl (h1), ?_⟩ | refine uP (h2) ?_ | refine .inl ⟨_, .inl (h2), ?_⟩ | refine uP (h3) ?_ | refine .inl ⟨_, .inl (h3), ?_⟩ | (refine za ?_ ?_ <;> (intro hg; simp only [hg])) | fail) <;> simp [-cellOK, zr, c1, c2, c3, hfl, zz, zB, ze]) | refine zf ?_ | refine zc ?_ | (refine zp ?_; simp only [zq]; try simp) | (refine zl (by simp) ?_; simp) | (refine zD (by simp) (by simp [noIds]) (by repeat (first | assumption | exact Ext.refl _ | refine zv ?_ | refine Ext.setF ?_ (by first | assumption | (simp [ze, St.set, zk]; done) | exact zt (by assumption)))) ?_; simp [-cellOK, zr, c1, c2, c3, hfl, zz, zB, ze, zS]) | (refine zb (fun hc => ?_) (fun hc => ?_) <;> try simp at hc) | fail)
  rfl
def atI (n : Nw) (d a : Int) : Int := if (zaR n d a).1 = 2 then -3 else if (zaR n d a).1 = 1 then -2 else if (zaR n d a).1 = 0 then -1 else (zaR n d a).2.port
theorem zoO (n : Nw) (f : Fl) (d a : Int) (hn : NwOK n) : PCalls Tryz.prog 134 [z7 n f, .raw (.int .i64 d), .raw (.int .u32 a)] (.raw (.int .i64 (atI n d a))) := by
  have h1 := zm1 n f d a hn.links hn.rules
  unfold atI
  generalize zaR n d a = s at h1 ⊢
  obtain ⟨k, p⟩ := s
  refine zJ Tryz.func134 rfl (N := 25) rfl rfl (by simp) (by simp [noIds]) fun σ => ?_
  by_cases k2 : k = 2
  · (try ((first | with_reducible refine zh ?_ | with_reducible refine zm ?_ | with_reducible refine zo ?_); simp [-cellOK, zr, zC, zz, zB, ze, k2])); repeat' (first | ((first | refine zd ?_ | refine zg ?_ | refine dN (by decide +kernel) ?_ | refine dC (by decide +kernel) ?_ | refine uP (h1) ?_ | refine .inl ⟨_, .inl (h1), ?_⟩ | (refine za ?_ ?_ <;> (intro hg; simp only [hg])) | fail) <;> simp [-cellOK, zr, zC, zz, zB, ze, k2]) | refine zf ?_ | refine zc ?_ | (refine zp ?_; simp only [zq]; try simp) | (refine zl (by simp) ?_; simp) | (refine zD (by simp) (by simp [noIds]) (by repeat (first | assumption | exact Ext.refl _ | refine zv ?_ | refine Ext.setF ?_ (by first | assumption | (simp [ze, St.set, zk]; done) | exact zt (by assumption)))) ?_; simp [-cellOK, zr, zC, zz, zB, ze, k2, zS]) | (refine zb (fun hc => ?_) (fun hc => ?_) <;> try simp at hc) | fail)
  by_cases k1 : k = 1
  · (try ((first | with_reducible refine zh ?_ | with_reducible refine zm ?_ | with_reducible refine zo ?_); simp [-cellOK, zr, zC, zz, zB, ze, k2, k1])); repeat' (first | ((first | refine zd ?_ | refine zg ?_ | refine dN (by decide +kernel) ?_ | refine dC (by decide +kernel) ?_ | refine uP (h1) ?_ | refine .inl ⟨_, .inl (h1), ?_⟩ | (refine za ?_ ?_ <;> (intro hg; simp only [hg])) | fail) <;> simp [-cellOK, zr, zC, zz, zB, ze, k2, k1]) | refine zf ?_ | refine zc ?_ | (refine zp ?_; simp only [zq]; try simp) | (refine zl (by simp) ?_; simp) | (refine zD (by simp) (by simp [noIds]) (by repeat (first | assumption | exact Ext.refl _ | refine zv ?_ | refine Ext.setF ?_ (by first | assumption | (simp [ze, St.set, zk]; done) | exact zt (by assumption)))) ?_; simp [-cellOK, zr, zC, zz, zB, ze, k2, k1, zS]) | (refine zb (fun hc => ?_) (fun hc => ?_) <;> try simp at hc) | fail)
  by_cases k0 : k = 0
  · (try ((first | with_reducible refine zh ?_ | with_reducible refine zm ?_ | with_reducible refine zo ?_); simp [-cellOK, zr, zC, zz, zB, ze, k2, k1, k0])); repeat' (first | ((first | refine zd ?_ | refine zg ?_ | refine dN (by decide +kernel) ?_ | refine dC (by decide +kernel) ?_ | refine uP (h1) ?_ | refine .inl ⟨_, .inl (h1), ?_⟩ | (refine za ?_ ?_ <;> (intro hg; simp only [hg])) | fail) <;> simp [-cellOK, zr, zC, zz, zB, ze, k2, k1, k0]) | refine zf ?_ | refine zc ?_ | (refine zp ?_; simp only [zq]; try simp) | (refine zl (by simp) ?_; simp) | (refine zD (by simp) (by simp [noIds]) (by repeat (first | assumption | exact Ext.refl _ | refine zv ?_ | refine Ext.setF ?_ (by first | assumption | (simp [ze, St.set, zk]; done) | exact zt (by assumption)))) ?_; simp [-cellOK, zr, zC, zz, zB, ze, k2, k1, k0, zS]) | (refine zb (fun hc => ?_) (fun hc => ?_) <;> try simp at hc) | fail)
  (try ((first | with_reducible refine zh ?_ | with_reducible refine zm ?_ | with_reducible refine zo ?_); simp [-cellOK, zr, zC, zz, zB, ze, k2, k1, k0, zQ])); repeat' (first | ((first | refine zd ?_ | refine zg ?_ | refine dN (by decide +kernel) ?_ | refine dC (by decide +kernel) ?_ | refine uP (h1) ?_ | refine .inl ⟨_, .inl (h1), ?_⟩ | (refine za ?_ ?_ <;> (intro hg; simp only [hg])) | fail) <;> simp [-cellOK, zr, zC, zz, zB, ze, k2, k1, k0, zQ]) | refine zf ?_ | refine zc ?_ | (refine zp ?_; simp only [zq]; try simp) | (refine zl (by simp) ?_; simp) | (refine zD (by simp) (by simp [noIds]) (by repeat (first | assumption | exact Ext.refl _ | refine zv ?_ | refine Ext.setF ?_ (by first | assumption | (simp [ze, St.set, zk]; done) | exact zt (by assumption)))) ?_; simp [-cellOK, zr, zC, zz, zB, ze, k2, k1, k0, zQ, zS]) | (refine zb (fun hc => ?_) (fun hc => ?_) <;> try simp at hc) | fail)
def zeq (n : Nw) (T : Option Tab) (d : Int) : List Int := (List.range (T.getD zL).b.sz.toNat).map fun i : Nat => atI n d ((zaS T i).getD ⟨0, 0⟩).lo
theorem zj7 (n : Nw) (f : Fl) (T : Option Tab) (d : Int) (hn : NwOK n) (hz : (T.getD zL).b.sz < 2 ^ 40) :
    PCalls Tryz.prog 78 [z7 n f, zaj T, .raw (.int .i64 d)] (zy (zeq n T d) false) := by
  have hlen := ze4 T
  refine zJ Tryz.func78 rfl (N := 32) rfl rfl (by simp) (by simp [noIds]) fun σ => ?_
  unfold zeq
  have hat := fun i : Int => zgf T i hz
  generalize (T.getD zL).b.sz = N at *
  obtain ⟨M, hM⟩ : ∃ M : Nat, N.toNat = M := ⟨_, rfl⟩
  rw [hM]
  refine zf ?_
  (try ((first | with_reducible refine zh ?_ | with_reducible refine zm ?_ | with_reducible refine zo ?_); simp [-cellOK, zr])); repeat' (first | ((first | refine zd ?_ | refine zg ?_ | refine dN (by decide +kernel) ?_ | refine dC (by decide +kernel) ?_ | refine uP (hlen) ?_ | refine .inl ⟨_, .inl (hlen), ?_⟩ | (refine za ?_ ?_ <;> (intro hg; simp only [hg])) | fail) <;> simp [-cellOK, zr]) | refine zf ?_ | refine zc ?_ | (refine zp ?_; simp only [zq]; try simp) | (refine zb (fun hc => ?_) (fun hc => ?_) <;> try simp at hc) | fail)
  refine zaf ⟨3, σ.nx 3, 3⟩ ?_
  generalize hτ : St.del _ _ = τ
  generalize hA : (fun t => zF _ _ _) = A
  have a1 : A 1 = zaj T := by rw [← hA]; cases T <;> simp [zaj, zcL]
  have a2 : A 2 = .raw (.int .i64 d) := by rw [← hA]; simp
  have a3 : A 3 = .pp (z7 n f).cells 0 := by rw [← hA, ← hτ]; simp [zF, St.new, St.del, zr]
  have a7 : A 7 = .sl 0 [] true := by rw [← hA]; simp
  have a12 : A 12 = .raw (.int .i64 N) := by rw [← hA]; simp
  have a13 : A 13 = .raw (.int .i64 0) := by rw [← hA]; simp
  have hE : Ext σ τ := by
    rw [← hτ]
    refine ⟨fun i o h => ?_, fun s => ?_⟩
    · rw [zR (fun e => by rw [e, zk] at h; cases h)]
      exact zaP _ _ h
    · exact St.new_le σ 3 3 (.buf [z7 n f]) s
  clear hτ hA
  refine zZ (fun n' B ρ => Ext σ ρ ∧ B 1 = zaj T ∧ B 2 = .raw (.int .i64 d) ∧ B 3 = .pp (z7 n f).cells 0 ∧ B 12 = .raw (.int .i64 N) ∧ ∃ (i : Nat) (v : AV), B 13 = .raw (.int .i64 i) ∧ i ≤ M ∧ n' = M - i ∧ B 7 = v ∧ OwnL σ ρ 1 v (((List.range i).map fun i : Nat => atI n d ((zaS T i).getD ⟨0, 0⟩).lo).map iAV)) M ?_ ?_
  · exact ⟨hE, a1, a2, a3, a12, 0, .sl 0 [] true, a13, by omega, by omega, a7, .inl ⟨by simp, rfl⟩⟩
  clear hE a1 a2 a3 a7 a12 a13
  rintro n' B ρ ⟨hE, a1, a2, a3, a12, i, v, a13, hi, rfl, a7, hO⟩ I1 hI1
  by_cases hlt : (i : Int) < N
  · have w1 : IntKind.i64.wrap ((i : Int) + 1) = ((i + 1 : Nat) : Int) := by rw [zU (by omega) (by omega)]; omega
    have hat := hat i
    obtain ⟨r, hr⟩ : ∃ r, (zaS T i).getD ⟨0, 0⟩ = r := ⟨_, rfl⟩
    have hstep := zoO n f d r.lo hn
    have hr' : AV.agg [.raw (.int .u32 r.lo), .raw (.int .u32 r.hi)] = zau r := rfl
    rw [hr] at hat
    generalize (zaS T i).isSome = bz at hat
    (try ((first | with_reducible refine zh ?_ | with_reducible refine zm ?_ | with_reducible refine zo ?_); simp [-cellOK, a1, a2, a3, a7, a12, a13, hlt, zr, zC, zT, zz, zB, ze, -zG])); repeat' (first | ((first | refine zd ?_ | refine zg ?_ | refine dN (by decide +kernel) ?_ | refine dC (by decide +kernel) ?_ | refine uP (hat) ?_ | refine .inl ⟨_, .inl (hat), ?_⟩ | refine uP (hstep) ?_ | refine .inl ⟨_, .inl (hstep), ?_⟩ | (refine za ?_ ?_ <;> (intro hg; simp only [hg])) | fail) <;> simp [-cellOK, a1, a2, a3, a7, a12, a13, hlt, zr, zC, zT, zz, zB, ze, -zG]) | refine zf ?_ | refine zc ?_ | (refine zp ?_; simp only [zq]; try simp) | (refine zl (by simp) ?_; simp) | (refine zD (by simp) (by simp [noIds]) (by repeat (first | assumption | exact Ext.refl _ | refine zv ?_ | refine Ext.setF ?_ (by first | assumption | (simp [ze, St.set, zk]; done) | exact zt (by assumption)))) ?_; simp [-cellOK, a1, a2, a3, a7, a12, a13, hlt, zr, zC, zT, zz, zB, ze, -zG, zS]) | (refine zb (fun hc => ?_) (fun hc => ?_) <;> try simp at hc) | fail)
    refine zal zhm (σ0 := σ) (hO.ext (by repeat (first | assumption | exact Ext.refl _ | refine zv ?_ | refine Ext.setF ?_ (by first | assumption | (simp [ze, St.set, zk]; done) | exact zt (by assumption))))) (by repeat (first | assumption | exact Ext.refl _ | refine zv ?_ | refine Ext.setF ?_ (by first | assumption | (simp [ze, St.set, zk]; done) | exact zt (by assumption)))) (ys := [iAV (atI n d r.lo)]) (by simp [zz, ze, iAV]) (.inr rfl) (by simp [iAV]) (by simp; omega) ?_
    intro v' τ' hO' hE' _ _
    (try ((first | with_reducible refine zh ?_ | with_reducible refine zm ?_ | with_reducible refine zo ?_); simp [-cellOK, a1, a2, a3, a7, a12, a13, w1])); repeat' (first | ((first | refine zd ?_ | refine zg ?_ | refine dN (by decide +kernel) ?_ | refine dC (by decide +kernel) ?_ | (refine za ?_ ?_ <;> (intro hg; simp only [hg])) | fail) <;> simp [-cellOK, a1, a2, a3, a7, a12, a13, w1]) | refine zf ?_ | refine zc ?_ | (refine zp ?_; simp only [zq]; try simp) | (refine zl (by simp) ?_; simp) | (refine zD (by simp) (by simp [noIds]) (by repeat (first | assumption | exact Ext.refl _ | refine zv ?_ | refine Ext.setF ?_ (by first | assumption | (simp [ze, St.set, zk]; done) | exact zt (by assumption)))) ?_; simp [-cellOK, a1, a2, a3, a7, a12, a13, w1, zS]) | (refine zb (fun hc => ?_) (fun hc => ?_) <;> try simp at hc) | fail)
    refine hI1 (M - (i + 1)) _ _ (by omega) ⟨hE', by simp [a1], by simp [a2], by simp [a3], by simp [a12], i + 1, v', by simp, by omega, rfl, by simp, ?_⟩
    rw [List.range_succ, List.map_append, List.map_append]
    simpa [hr] using hO'
  · have : i = M := by omega
    subst this
    (try ((first | with_reducible refine zh ?_ | with_reducible refine zm ?_ | with_reducible refine zo ?_); simp [-cellOK, a1, a2, a3, a7, a12, a13, hlt])); repeat' (first | ((first | refine zd ?_ | refine zg ?_ | refine dN (by decide +kernel) ?_ | refine dC (by decide +kernel) ?_ | (refine za ?_ ?_ <;> (intro hg; simp only [hg])) | fail) <;> simp [-cellOK, a1, a2, a3, a7, a12, a13, hlt]) | refine zf ?_ | refine zc ?_ | (refine zp ?_; simp only [zq]; try simp) | (refine zb (fun hc => ?_) (fun hc => ?_) <;> try simp at hc) | fail)
    exact zbX (v := v) (.inr rfl) (by simp) hO hE
end Go.Proofs.YtanimmdlgmkmkaaGreat.Av
namespace Go.Proofs.YtanimmdlgmkmkaaGreat.Av
open Go
set_option linter.unusedSimpArgs false
set_option linter.unusedVariables false
set_option maxRecDepth 100000
set_option maxHeartbeats 4000000
set_option pp.maxSteps 600
structure Lab where
  n : Nw
  t : Option Tab
  rows : List (List Int)
def inAV (l : List Int) : AV := zy l false
def zap (L : Lab) : List AV := [zy L.n.t.ports false, zw L.n.t.links false, zu L.n.rules false, zaj L.t, .sl 1 (L.rows.map inAV) false]
def zP : Option Lab → AV
  | none => .raw (.pointer none)
  | some L => .pp (zap L) 0
def zda (l : List Ru) : Option Tab := l.foldl (fun T x => (zcE T x.r).1) (some zL)
def zbj (n : Nw) : Lab := ⟨n, zda n.rules, (List.range n.t.ports.length).map fun d : Nat => zeq n (zda n.rules) d⟩
def ofL (n : Nw) : Option Lab × Int := if zaq n then (some (zbj n), 0) else (none, 71)
theorem zh6 {l : List Ru} (h : ∀ r ∈ l, RgOK r.r) : ∀ k, k ≤ l.length → RepO (zda (l.take k)) (((l.take k).map (·.r)).foldl zeD (some [])) := by
  intro k
  induction k with
  | zero => intro _; exact ⟨zmo, by simp⟩
  | succ k ih =>
    intro hk
    have hx : l[k]? = some l[k] := List.getElem?_eq_getElem (by omega)
    have h1 := (ih (by omega)).step (h _ (List.getElem_mem (by omega : k < l.length)))
    rw [List.take_add_one, hx]
    simp only [zda, List.map_append, List.foldl_append, Option.toList, List.map_cons, List.map_nil, List.foldl_cons, List.foldl_nil] at h1 ⊢
    exact h1.2
theorem znW {l : List Ru} {k : Nat} (hk : k < l.length) : zda (l.take (k + 1)) = (zcE (zda (l.take k)) l[k].r).1 := by
  rw [List.take_add_one, List.getElem?_eq_getElem hk]
  simp only [zda, List.foldl_append, Option.toList, List.foldl_cons, List.foldl_nil]
theorem zoP {l : List Ru} (h : ∀ r ∈ l, RgOK r.r) : ((zda l).getD zL).b.sz < 2 ^ 40 := by
  have h1 := zh6 h l.length (Nat.le_refl _)
  rw [List.take_length] at h1
  obtain ⟨hr, hl⟩ := h1.get
  generalize ((l.map (·.r)).foldl zeD (some [])).getD [] = L at hr hl
  have hcc := zbn L
  have hcl : (zaE L).length ≤ 1 + 2 * L.length := by
    have := zdZ (m := 0 :: zb6 L) (hcc.srt.imp fun h => by omega) fun x hx => by
      rw [List.mem_cons]; simp only [zb6, List.mem_flatMap]; exact (hcc.mem x).1 hx
    have := zek L
    simp only [List.length_cons] at *
    omega
  rw [zdw hr]; omega
@[simp] theorem zb4 (K : Id → Prop) (L : Option Lab) : (zP L).ids K := by
  cases L with
  | none => exact trivial
  | some L =>
    simp only [zP, zap, AV.ids, z9]
    refine ⟨zli K _ _, znK K _ _, znL K _ _, zoC K _, ?_, trivial⟩
    exact zcZ (fun l => zli K l false) L.rows
theorem zel {n : Nw} (h : zaq n = true) : 1 ≤ n.t.ports.length ∧ n.t.ports.length ≤ 8 := by
  unfold zaq zdf at h
  simp only [Bool.and_eq_true, Bool.not_eq_true', decide_eq_false_iff_not] at h
  omega
theorem zh7 (n : Nw) (f : Fl) (hn : NwOK n) : PCalls Tryz.prog 25 [z7 n f] (.tup [zP (ofL n).1, .raw (.int .i64 (ofL n).2)]) := by
  have hr := zg2 n f (by have := hn.ports; omega) hn.links hn.rules
  have ho := zj6 n f hn
  unfold ofL
  cases hb : zaq n with
  | false =>
    rw [hb] at hr
    show PCalls _ _ _ (.tup [.raw (.pointer none), .raw (.int .i64 71)])
    refine zJ Tryz.func25 rfl (N := 65) rfl rfl (by simp) (by simp [noIds]) fun σ => ?_
    (try ((first | with_reducible refine zh ?_ | with_reducible refine zm ?_ | with_reducible refine zo ?_); simp [-cellOK, zr, zC])); repeat' (first | ((first | refine zd ?_ | refine zg ?_ | refine dN (by decide +kernel) ?_ | refine dC (by decide +kernel) ?_ | refine uP (hr) ?_ | refine .inl ⟨_, .inl (hr), ?_⟩ | (refine za ?_ ?_ <;> (intro hg; simp only [hg])) | fail) <;> simp [-cellOK, zr, zC]) | refine zf ?_ | refine zc ?_ | (refine zp ?_; simp only [zq]; try simp) | (refine zl (by simp) ?_; simp) | (refine zD (by simp) (by simp [noIds]) (by repeat (first | assumption | exact Ext.refl _ | refine zv ?_ | refine Ext.setF ?_ (by first | assumption | (simp [ze, St.set, zk]; done) | exact zt (by assumption)))) ?_; simp [-cellOK, zr, zC, zS]) | (refine zb (fun hc => ?_) (fun hc => ?_) <;> try simp at hc) | fail)
  | true =>
    rw [hb] at hr
    show PCalls _ _ _ (.tup [zP (some (zbj n)), .raw (.int .i64 0)])
    refine zJ Tryz.func25 rfl (N := 65) rfl rfl (by simp) (by simp [noIds, zb4]) fun σ => ?_
    obtain ⟨hpos, hp⟩ := zel hb
    have c1 : (z7 n flN).cells = [zy n.t.ports false, zw n.t.links false, zu n.rules false] := rfl
    have htn := ze2
    have f1 : σ.m ⟨1, σ.nx 1, 3⟩ = none := zk _ _ _
    have f15 : σ.m ⟨15, σ.nx 15, 5⟩ = none := zk _ _ _
    refine zf ?_
    (try ((first | with_reducible refine zh ?_ | with_reducible refine zm ?_ | with_reducible refine zo ?_); simp [-cellOK, zr, zC, c1, zz, zB, ze])); repeat' (first | ((first | refine zd ?_ | refine zg ?_ | refine dN (by decide +kernel) ?_ | refine dC (by decide +kernel) ?_ | refine uP (hr) ?_ | refine .inl ⟨_, .inl (hr), ?_⟩ | refine uP (ho) ?_ | refine .inl ⟨_, .inl (ho), ?_⟩ | refine uP (htn) ?_ | refine .inl ⟨_, .inl (htn), ?_⟩ | (refine za ?_ ?_ <;> (intro hg; simp only [hg])) | fail) <;> simp [-cellOK, zr, zC, c1, zz, zB, ze]) | refine zf ?_ | refine zc ?_ | (refine zp ?_; simp only [zq]; try simp) | (refine zb (fun hc => ?_) (fun hc => ?_) <;> try simp at hc) | fail)
    refine zaf ⟨1, σ.nx 1, 3⟩ ?_
    generalize hτ : St.del _ _ = τ
    generalize hA : (fun t => zF _ _ _) = A
    have a1 : A 1 = .pp (z7 n f).cells 0 := by rw [← hA, ← hτ]; simp [zF, St.new, St.del, zr]
    have a4 : A 4 = .rp ⟨15, σ.nx 15, 5⟩ 0 0 := by rw [← hA, ← hτ]; simp [zF, St.new, St.del, St.set, zr]
    have a17 : A 17 = zu n.rules f.r := by rw [← hA]; simp [zu]
    have a18 : A 18 = .raw (.int .i64 n.rules.length) := by rw [← hA]; simp
    have a19 : A 19 = .raw (.int .i64 0) := by rw [← hA]; simp
    have mj : τ.m ⟨15, σ.nx 15, 5⟩ = some (.buf [.agg [zy n.t.ports false, zw n.t.links false, zu n.rules false, zaj (some zL), .sl 0 [] true]]) := by rw [← hτ]; simp [St.new, St.del, St.set, zz, zB, ze, zaj]
    have hE : Ext σ τ := by
      rw [← hτ]
      refine ⟨fun i o h => ?_, fun s => ?_⟩
      · have q1 : i ≠ ⟨1, σ.nx 1, 3⟩ := fun e => by rw [e, f1] at h; cases h
        have q2 : i ≠ ⟨15, σ.nx 15, 5⟩ := fun e => by rw [e, f15] at h; cases h
        simp [St.del, St.new, St.set, q1, q2, h]
      · simp only [St.del, St.new, St.set]
        repeat' split
        all_goals omega
    clear hτ hA
    refine zZ (fun n' B ρ => Ext σ ρ ∧ B 1 = .pp (z7 n f).cells 0 ∧ B 4 = .rp ⟨15, σ.nx 15, 5⟩ 0 0 ∧ B 17 = zu n.rules f.r ∧ B 18 = .raw (.int .i64 n.rules.length) ∧ ∃ i : Nat, B 19 = .raw (.int .i64 i) ∧ i ≤ n.rules.length ∧ n' = n.rules.length - i ∧ ρ.m ⟨15, σ.nx 15, 5⟩ = some (.buf [.agg [zy n.t.ports false, zw n.t.links false, zu n.rules false, zaj (zda (n.rules.take i)), .sl 0 [] true]])) n.rules.length ?_ ?_
    · exact ⟨hE, a1, a4, a17, a18, 0, a19, by omega, by omega, mj⟩
    clear hE a1 a4 a17 a18 a19 mj
    rintro n' B ρ ⟨hE, a1, a4, a17, a18, i, a19, hi, rfl, mj⟩ I1 hI1
    by_cases hlt : i < n.rules.length
    · have hx : n.rules[i]? = some n.rules[i] := List.getElem?_eq_getElem hlt
      have hl3 := hn.rules
      have w1 : IntKind.i64.wrap ((i : Int) + 1) = ((i + 1 : Nat) : Int) := by rw [zU (by omega) (by omega)]; omega
      have hrk := hn.rg _ (List.getElem_mem hlt)
      obtain ⟨g1, g2⟩ := (zh6 hn.rg i (by omega)).step hrk
      have hadd := zj1 (zda (n.rules.take i)) n.rules[i].r g1
      rw [← znW hlt] at hadd
      obtain ⟨x, hxe⟩ : ∃ x, n.rules[i] = x := ⟨_, rfl⟩
      rw [hxe] at hadd
      clear g1 g2 hrk
      have hxr : AV.agg [.raw (.int .u32 x.r.lo), .raw (.int .u32 x.r.hi)] = zau x.r := rfl
      generalize (zcE (zda (n.rules.take i)) x.r).2 = e' at hadd
      generalize zda (n.rules.take i) = T at hadd mj
      obtain ⟨T', hT'⟩ : ∃ T', zda (n.rules.take (i + 1)) = T' := ⟨_, rfl⟩
      rw [hT'] at hadd
      (try ((first | with_reducible refine zh ?_ | with_reducible refine zm ?_ | with_reducible refine zo ?_); simp [-cellOK, a1, a4, a17, a18, a19, zu, hlt, hx, hxe, zs, hxr, zz, zB, ze, mj, w1])); repeat' (first | ((first | refine zd ?_ | refine zg ?_ | refine dN (by decide +kernel) ?_ | refine dC (by decide +kernel) ?_ | refine uP (hadd) ?_ | refine .inl ⟨_, .inl (hadd), ?_⟩ | (refine za ?_ ?_ <;> (intro hg; simp only [hg])) | fail) <;> simp [-cellOK, a1, a4, a17, a18, a19, zu, hlt, hx, hxe, zs, hxr, zz, zB, ze, mj, w1]) | refine zf ?_ | refine zc ?_ | (refine zp ?_; simp only [zq]; try simp) | (refine zl (by simp) ?_; simp) | (refine zD (by simp) (by simp [noIds]) (by repeat (first | assumption | exact Ext.refl _ | refine zv ?_ | refine Ext.setF ?_ (by first | assumption | (simp [ze, St.set, zk]; done) | exact zt (by assumption)))) ?_; simp [-cellOK, a1, a4, a17, a18, a19, zu, hlt, hx, hxe, zs, hxr, zz, zB, ze, mj, w1, zS]) | (refine zb (fun hc => ?_) (fun hc => ?_) <;> try simp at hc) | fail)
      refine hI1 (n.rules.length - (i + 1)) _ _ (by omega) ⟨(by repeat (first | assumption | exact Ext.refl _ | refine zv ?_ | refine Ext.setF ?_ (by first | assumption | (simp [ze, St.set, zk]; done) | exact zt (by assumption)))), by simp [a1], by simp [a4], by simp [a17], by simp [a18], i + 1, by simp, by omega, rfl, ?_⟩
      rw [hT']
      simp [zz, zB, ze, mj]
      rfl
    have : i = n.rules.length := by omega
    subst this
    rw [List.take_length] at mj
    have hz := zoP hn.rg
    unfold zbj
    generalize zda n.rules = T at mj hz ⊢
    (try ((first | with_reducible refine zh ?_ | with_reducible refine zm ?_ | with_reducible refine zo ?_); simp [-cellOK, a1, a4, a17, a18, a19, zr])); repeat' (first | ((first | refine zd ?_ | refine zg ?_ | refine dN (by decide +kernel) ?_ | refine dC (by decide +kernel) ?_ | (refine za ?_ ?_ <;> (intro hg; simp only [hg])) | fail) <;> simp [-cellOK, a1, a4, a17, a18, a19, zr]) | refine zf ?_ | refine zc ?_ | (refine zp ?_; simp only [zq]; try simp) | (refine zl (by simp) ?_; simp) | (refine zD (by simp) (by simp [noIds]) (by repeat (first | assumption | exact Ext.refl _ | refine zv ?_ | refine Ext.setF ?_ (by first | assumption | (simp [ze, St.set, zk]; done) | exact zt (by assumption)))) ?_; simp [-cellOK, a1, a4, a17, a18, a19, zr, zS]) | (refine zb (fun hc => ?_) (fun hc => ?_) <;> try simp at hc) | fail)
    refine zZ (fun n' B ρ => Ext σ ρ ∧ B 4 = .rp ⟨15, σ.nx 15, 5⟩ 0 0 ∧ B 40 = .raw (.int .i64 n.t.ports.length) ∧ ∃ (i : Nat) (v : AV), B 41 = .raw (.int .i64 i) ∧ i ≤ n.t.ports.length ∧ n' = n.t.ports.length - i ∧ ρ.m ⟨15, σ.nx 15, 5⟩ = some (.buf [.agg [zy n.t.ports false, zw n.t.links false, zu n.rules false, zaj T, v]]) ∧ OwnL σ ρ 1 v (((List.range i).map fun d : Nat => zeq n T d).map inAV)) n.t.ports.length ?_ ?_
    · exact ⟨hE, by simp [a4], by simp [zy], 0, .sl 0 [] true, by simp, by omega, by omega, mj, .inl ⟨by simp, rfl⟩⟩
    clear hE a1 a4 a17 a18 a19 mj hI1
    rintro n' B ρ ⟨hE, a4, a40, i, v, a41, hi, rfl, mj, hO⟩ I2 hI2
    by_cases hlt : i < n.t.ports.length
    · have w1 : IntKind.i64.wrap ((i : Int) + 1) = ((i + 1 : Nat) : Int) := by rw [zU (by omega) (by omega)]; omega
      have hrow := zj7 n flN T i hn hz
      have hfl : AV.agg [zy n.t.ports false, zw n.t.links false, zu n.rules false] = z7 n flN := rfl
      have hc1 : ∀ l, (zy l false).cells = [zy l false] := fun _ => rfl
      have hc2 : ∀ l, cellOK (zy l false) = true := fun _ => rfl
      (try ((first | with_reducible refine zh ?_ | with_reducible refine zm ?_ | with_reducible refine zo ?_); simp [-cellOK, a4, a40, a41, hlt, hfl, hc1, hc2, zz, zB, ze, mj, -zG])); repeat' (first | ((first | refine zd ?_ | refine zg ?_ | refine dN (by decide +kernel) ?_ | refine dC (by decide +kernel) ?_ | refine uP (hrow) ?_ | refine .inl ⟨_, .inl (hrow), ?_⟩ | (refine za ?_ ?_ <;> (intro hg; simp only [hg])) | fail) <;> simp [-cellOK, a4, a40, a41, hlt, hfl, hc1, hc2, zz, zB, ze, mj, -zG]) | refine zf ?_ | refine zc ?_ | (refine zp ?_; simp only [zq]; try simp) | (refine zl (by simp) ?_; simp) | (refine zD (by simp) (by simp [noIds]) (by repeat (first | assumption | exact Ext.refl _ | refine zv ?_ | refine Ext.setF ?_ (by first | assumption | (simp [ze, St.set, zk]; done) | exact zt (by assumption)))) ?_; simp [-cellOK, a4, a40, a41, hlt, hfl, hc1, hc2, zz, zB, ze, mj, -zG, zS]) | (refine zb (fun hc => ?_) (fun hc => ?_) <;> try simp at hc) | fail)
      refine zal znG (σ0 := σ) (hO.ext (by repeat (first | assumption | exact Ext.refl _ | refine zv ?_ | refine Ext.setF ?_ (by first | assumption | (simp [ze, St.set, zk]; done) | exact zt (by assumption))))) (by repeat (first | assumption | exact Ext.refl _ | refine zv ?_ | refine Ext.setF ?_ (by first | assumption | (simp [ze, St.set, zk]; done) | exact zt (by assumption)))) (ys := [inAV (zeq n T i)]) (by simp [zz, ze, inAV]) (.inr rfl) (by simp [inAV, zy, zM, z8, cellOK, AV.cells]) (by simp; omega) ?_
      intro v' τ' hO' hE' hk hnx
      obtain ⟨kj, _⟩ := hk ⟨15, σ.nx 15, 5⟩ _ (zaP _ _ mj) (hO.ne_sz (by simp))
      clear hk
      have hv1 := hO'.cells
      have hv2 := hO'.cellOK
      (try ((first | with_reducible refine zh ?_ | with_reducible refine zm ?_ | with_reducible refine zo ?_); simp [-cellOK, a4, a40, a41, w1, kj, hv1, hv2, zz, zB, ze])); repeat' (first | ((first | refine zd ?_ | refine zg ?_ | refine dN (by decide +kernel) ?_ | refine dC (by decide +kernel) ?_ | (refine za ?_ ?_ <;> (intro hg; simp only [hg])) | fail) <;> simp [-cellOK, a4, a40, a41, w1, kj, hv1, hv2, zz, zB, ze]) | refine zf ?_ | refine zc ?_ | (refine zp ?_; simp only [zq]; try simp) | (refine zl (by simp) ?_; simp) | (refine zD (by simp) (by simp [noIds]) (by repeat (first | assumption | exact Ext.refl _ | refine zv ?_ | refine Ext.setF ?_ (by first | assumption | (simp [ze, St.set, zk]; done) | exact zt (by assumption)))) ?_; simp [-cellOK, a4, a40, a41, w1, kj, hv1, hv2, zz, zB, ze, zS]) | (refine zb (fun hc => ?_) (fun hc => ?_) <;> try simp at hc) | fail)
      refine hI2 (n.t.ports.length - (i + 1)) _ _ (by omega) ⟨Ext.setF hE' f15, by simp [a4], by simp [a40], i + 1, v', by simp, by omega, rfl, by simp [kj, zB], ?_⟩
      rw [List.range_succ, List.map_append, List.map_append]
      exact hO'.set (hO'.ne_sz (by simp))
    · have : i = n.t.ports.length := by omega
      subst this
      refine zaf ⟨15, σ.nx 15, 5⟩ ?_
      rcases hO with ⟨hes, rfl⟩ | ⟨k, rfl, hk1, hk2, hk3⟩
      · exfalso
        have := congrArg List.length hes
        simp at this
        rw [this] at hpos
        simp at hpos
      · have hkj : k ≠ ⟨15, σ.nx 15, 5⟩ := fun e => by rw [e] at hk1; cases hk1
        refine zde k ?_
        have g1 : ∀ (m m' : zX) l b, zF m' m (zy l b) = zy l b := fun _ _ _ _ => rfl
        have g2 : ∀ (m m' : zX) l b, zF m' m (zw l b) = zw l b := fun _ _ _ _ => rfl
        have g3 : ∀ (m m' : zX) l b, zF m' m (zu l b) = zu l b := fun _ _ _ _ => rfl
        have g4 : ∀ (m m' : zX), zF m' m (zaj T) = zaj T := fun _ _ => by cases T <;> rfl
        have f4 : zaA ((ρ.del ⟨15, σ.nx 15, 5⟩).del k).m (ρ.del ⟨15, σ.nx 15, 5⟩).m (zF (ρ.del ⟨15, σ.nx 15, 5⟩).m ρ.m (B 4)) = zP (some ⟨n, T, (List.range n.t.ports.length).map fun d : Nat => zeq n T d⟩) := by
          rw [a4, za3 (by simp [St.del]) mj rfl]
          simp only [zaA, AV.cells, List.map_cons, List.map_nil, zP, zap, g1, g2, g3, g4]
          rw [zbI (by simp [St.del]) (by rw [zR hkj]; exact hk2) (by simp), hk1]
          simp
          exact List.take_of_length_le (by simp)
        generalize hπ : (ρ.del ⟨15, σ.nx 15, 5⟩).del k = π
        generalize hA : (fun t => zaA _ _ _) = A
        have b4 : A 4 = zP (some ⟨n, T, (List.range n.t.ports.length).map fun d : Nat => zeq n T d⟩) := by rw [← hA, ← hπ]; exact f4
        have b40 : A 40 = .raw (.int .i64 n.t.ports.length) := by rw [← hA]; simp [a40, zaA, zF]
        have b41 : A 41 = .raw (.int .i64 n.t.ports.length) := by rw [← hA]; simp [a41, zaA, zF]
        have hEp : Ext σ π := by
          rw [← hπ]
          refine ⟨fun i o h => ?_, hE.nx⟩
          rw [zR (fun e => by rw [e, hk3] at h; cases h), zR (fun e => by rw [e, f15] at h; cases h)]
          exact hE.m i o h
        clear hπ hA f4 hE a4 a40 a41 mj hI2
        generalize (⟨n, T, (List.range n.t.ports.length).map fun d : Nat => zeq n T d⟩ : Lab) = R at b4 ⊢
        (try ((first | with_reducible refine zh ?_ | with_reducible refine zm ?_ | with_reducible refine zo ?_); simp [-cellOK, b4, b40, b41])); repeat' (first | ((first | refine zd ?_ | refine zg ?_ | refine dN (by decide +kernel) ?_ | refine dC (by decide +kernel) ?_ | (refine za ?_ ?_ <;> (intro hg; simp only [hg])) | fail) <;> simp [-cellOK, b4, b40, b41]) | refine zf ?_ | refine zc ?_ | (refine zp ?_; simp only [zq]; try simp) | (refine zl (by simp) ?_; simp) | (refine zD (by simp) (by simp [noIds]) (by repeat (first | assumption | exact Ext.refl _ | refine zv ?_ | refine Ext.setF ?_ (by first | assumption | (simp [ze, St.set, zk]; done) | exact zt (by assumption)))) ?_; simp [-cellOK, b4, b40, b41, zS]) | (refine zb (fun hc => ?_) (fun hc => ?_) <;> try simp at hc) | fail)
end Go.Proofs.YtanimmdlgmkmkaaGreat.Av
namespace Go.Proofs.YtanimmdlgmkmkaaGreat.Av
open Go
set_option linter.unusedSimpArgs false
set_option linter.unusedVariables false
set_option maxRecDepth 100000
set_option maxHeartbeats 4000000
set_option pp.maxSteps 600
theorem zd1 (L : Option Lab) : PCalls Tryz.prog 28 [zP L] (.raw (.int .i64 (match L with | none => 0 | some L => (L.t.getD zL).b.sz))) := by
  cases L with
  | none =>
    refine zJ Tryz.func28 rfl (N := 10) rfl rfl (by simp) (by simp [noIds]) fun σ => ?_
    (try ((first | with_reducible refine zh ?_ | with_reducible refine zm ?_ | with_reducible refine zo ?_); simp [-cellOK, zP])); repeat' (first | ((first | refine zd ?_ | refine zg ?_ | refine dN (by decide +kernel) ?_ | refine dC (by decide +kernel) ?_ | (refine za ?_ ?_ <;> (intro hg; simp only [hg])) | fail) <;> simp [-cellOK, zP]) | refine zf ?_ | refine zc ?_ | (refine zp ?_; simp only [zq]; try simp) | (refine zl (by simp) ?_; simp) | (refine zD (by simp) (by simp [noIds]) (by repeat (first | assumption | exact Ext.refl _ | refine zv ?_ | refine Ext.setF ?_ (by first | assumption | (simp [ze, St.set, zk]; done) | exact zt (by assumption)))) ?_; simp [-cellOK, zP, zS]) | (refine zb (fun hc => ?_) (fun hc => ?_) <;> try simp at hc) | fail)
  | some L =>
    have h := ze4 L.t
    refine zJ Tryz.func28 rfl (N := 10) rfl rfl (by simp) (by simp [noIds]) fun σ => ?_
    (try ((first | with_reducible refine zh ?_ | with_reducible refine zm ?_ | with_reducible refine zo ?_); simp [-cellOK, zP, zap])); repeat' (first | ((first | refine zd ?_ | refine zg ?_ | refine dN (by decide +kernel) ?_ | refine dC (by decide +kernel) ?_ | refine uP (h) ?_ | refine .inl ⟨_, .inl (h), ?_⟩ | (refine za ?_ ?_ <;> (intro hg; simp only [hg])) | fail) <;> simp [-cellOK, zP, zap]) | refine zf ?_ | refine zc ?_ | (refine zp ?_; simp only [zq]; try simp) | (refine zl (by simp) ?_; simp) | (refine zD (by simp) (by simp [noIds]) (by repeat (first | assumption | exact Ext.refl _ | refine zv ?_ | refine Ext.setF ?_ (by first | assumption | (simp [ze, St.set, zk]; done) | exact zt (by assumption)))) ?_; simp [-cellOK, zP, zap, zS]) | (refine zb (fun hc => ?_) (fun hc => ?_) <;> try simp at hc) | fail)
theorem zgz (L : Option Lab) (i : Int) (hz : ∀ M, L = some M → (M.t.getD zL).b.sz < 2 ^ 40) :
    PCalls Tryz.prog 72 [zP L, .raw (.int .i64 i)] (.tup [zau ((L.bind fun M => zaS M.t i).getD ⟨0, 0⟩), .raw (.bool (L.bind fun M => zaS M.t i).isSome)]) := by
  cases L with
  | none =>
    refine zJ Tryz.func72 rfl (N := 17) rfl rfl (by simp) (by simp [noIds]) fun σ => ?_
    (try ((first | with_reducible refine zh ?_ | with_reducible refine zm ?_ | with_reducible refine zo ?_); simp [-cellOK, zP, zau, zz, zB, ze])); repeat' (first | ((first | refine zd ?_ | refine zg ?_ | refine dN (by decide +kernel) ?_ | refine dC (by decide +kernel) ?_ | (refine za ?_ ?_ <;> (intro hg; simp only [hg])) | fail) <;> simp [-cellOK, zP, zau, zz, zB, ze]) | refine zf ?_ | refine zc ?_ | (refine zp ?_; simp only [zq]; try simp) | (refine zl (by simp) ?_; simp) | (refine zD (by simp) (by simp [noIds]) (by repeat (first | assumption | exact Ext.refl _ | refine zv ?_ | refine Ext.setF ?_ (by first | assumption | (simp [ze, St.set, zk]; done) | exact zt (by assumption)))) ?_; simp [-cellOK, zP, zau, zz, zB, ze, zS]) | (refine zb (fun hc => ?_) (fun hc => ?_) <;> try simp at hc) | fail)
  | some L =>
    have h := zgf L.t i (hz L rfl)
    show PCalls _ _ _ (.tup [zau ((zaS L.t i).getD ⟨0, 0⟩), .raw (.bool (zaS L.t i).isSome)])
    generalize (zaS L.t i).getD ⟨0, 0⟩ = r at h ⊢
    generalize (zaS L.t i).isSome = b at h ⊢
    have hr : AV.agg [.raw (.int .u32 r.lo), .raw (.int .u32 r.hi)] = zau r := rfl
    refine zJ Tryz.func72 rfl (N := 17) rfl rfl (by simp) (by simp [noIds]) fun σ => ?_
    (try ((first | with_reducible refine zh ?_ | with_reducible refine zm ?_ | with_reducible refine zo ?_); simp [-cellOK, zP, zap, hr, zT, zz, zB, ze])); repeat' (first | ((first | refine zd ?_ | refine zg ?_ | refine dN (by decide +kernel) ?_ | refine dC (by decide +kernel) ?_ | refine uP (h) ?_ | refine .inl ⟨_, .inl (h), ?_⟩ | (refine za ?_ ?_ <;> (intro hg; simp only [hg])) | fail) <;> simp [-cellOK, zP, zap, hr, zT, zz, zB, ze]) | refine zf ?_ | refine zc ?_ | (refine zp ?_; simp only [zq]; try simp) | (refine zl (by simp) ?_; simp) | (refine zD (by simp) (by simp [noIds]) (by repeat (first | assumption | exact Ext.refl _ | refine zv ?_ | refine Ext.setF ?_ (by first | assumption | (simp [ze, St.set, zk]; done) | exact zt (by assumption)))) ?_; simp [-cellOK, zP, zap, hr, zT, zz, zB, ze, zS]) | (refine zb (fun hc => ?_) (fun hc => ?_) <;> try simp at hc) | fail)
def zgm (L : Lab) (d a : Int) : Option Int := if 0 ≤ d ∧ 0 ≤ a then (L.rows[d.toNat]?).bind fun r => r[a.toNat]? else none
theorem zfu (L : Lab) (d a : Int) (hl : L.rows.length < 2 ^ 60) (hr : ∀ r ∈ L.rows, r.length < 2 ^ 60) :
    PCalls Tryz.prog 27 [zP (some L), .raw (.int .i64 d), .raw (.int .i64 a)] (.tup [.raw (.int .i64 ((zgm L d a).getD 0)), .raw (.bool (zgm L d a).isSome)]) := by
  unfold zgm
  refine zJ Tryz.func27 rfl (N := 49) rfl rfl (by simp) (by simp [noIds]) fun σ => ?_
  by_cases h1 : d < 0
  · have h2 : ¬ (0 ≤ d ∧ 0 ≤ a) := by omega
    rw [if_neg h2]
    (try ((first | with_reducible refine zh ?_ | with_reducible refine zm ?_ | with_reducible refine zo ?_); simp [-cellOK, zP, zap, h1])); repeat' (first | ((first | refine zd ?_ | refine zg ?_ | refine dN (by decide +kernel) ?_ | refine dC (by decide +kernel) ?_ | (refine za ?_ ?_ <;> (intro hg; simp only [hg])) | fail) <;> simp [-cellOK, zP, zap, h1]) | refine zf ?_ | refine zc ?_ | (refine zp ?_; simp only [zq]; try simp) | (refine zl (by simp) ?_; simp) | (refine zD (by simp) (by simp [noIds]) (by repeat (first | assumption | exact Ext.refl _ | refine zv ?_ | refine Ext.setF ?_ (by first | assumption | (simp [ze, St.set, zk]; done) | exact zt (by assumption)))) ?_; simp [-cellOK, zP, zap, h1, zS]) | (refine zb (fun hc => ?_) (fun hc => ?_) <;> try simp at hc) | fail)
  obtain ⟨i, rfl⟩ : ∃ i : Nat, d = i := ⟨d.toNat, by omega⟩
  by_cases h3 : i < L.rows.length
  · have h3' : ¬ L.rows.length ≤ i := by omega
    obtain ⟨r, hx⟩ : ∃ r, L.rows[i] = r := ⟨_, rfl⟩
    have hx' : L.rows[i]? = some r := by rw [List.getElem?_eq_getElem h3, hx]
    by_cases h4 : a < 0
    · have h2 : ¬ (0 ≤ (i : Int) ∧ 0 ≤ a) := by omega
      rw [if_neg h2]
      (try ((first | with_reducible refine zh ?_ | with_reducible refine zm ?_ | with_reducible refine zo ?_); simp [-cellOK, zP, zap, inAV, zy, h3, h3', h4, hx, hx'])); repeat' (first | ((first | refine zd ?_ | refine zg ?_ | refine dN (by decide +kernel) ?_ | refine dC (by decide +kernel) ?_ | (refine za ?_ ?_ <;> (intro hg; simp only [hg])) | fail) <;> simp [-cellOK, zP, zap, inAV, zy, h3, h3', h4, hx, hx']) | refine zf ?_ | refine zc ?_ | (refine zp ?_; simp only [zq]; try simp) | (refine zl (by simp) ?_; simp) | (refine zD (by simp) (by simp [noIds]) (by repeat (first | assumption | exact Ext.refl _ | refine zv ?_ | refine Ext.setF ?_ (by first | assumption | (simp [ze, St.set, zk]; done) | exact zt (by assumption)))) ?_; simp [-cellOK, zP, zap, inAV, zy, h3, h3', h4, hx, hx', zS]) | (refine zb (fun hc => ?_) (fun hc => ?_) <;> try simp at hc) | fail)
    obtain ⟨k, rfl⟩ : ∃ k : Nat, a = k := ⟨a.toNat, by omega⟩
    have h2 : (0 ≤ (i : Int) ∧ 0 ≤ (k : Int)) := by omega
    rw [if_pos h2, Int.toNat_natCast, Int.toNat_natCast, hx', Option.bind_some]
    by_cases h5 : k < r.length
    · have h5' : ¬ r.length ≤ k := by omega
      obtain ⟨x, hy⟩ : ∃ x, r[k] = x := ⟨_, rfl⟩
      have hy' : r[k]? = some x := by rw [List.getElem?_eq_getElem h5, hy]
      rw [hy']
      (try ((first | with_reducible refine zh ?_ | with_reducible refine zm ?_ | with_reducible refine zo ?_); simp [-cellOK, zP, zap, inAV, zy, iAV, h3, h3', hx, hx', h5, h5', hy, hy'])); repeat' (first | ((first | refine zd ?_ | refine zg ?_ | refine dN (by decide +kernel) ?_ | refine dC (by decide +kernel) ?_ | (refine za ?_ ?_ <;> (intro hg; simp only [hg])) | fail) <;> simp [-cellOK, zP, zap, inAV, zy, iAV, h3, h3', hx, hx', h5, h5', hy, hy']) | refine zf ?_ | refine zc ?_ | (refine zp ?_; simp only [zq]; try simp) | (refine zl (by simp) ?_; simp) | (refine zD (by simp) (by simp [noIds]) (by repeat (first | assumption | exact Ext.refl _ | refine zv ?_ | refine Ext.setF ?_ (by first | assumption | (simp [ze, St.set, zk]; done) | exact zt (by assumption)))) ?_; simp [-cellOK, zP, zap, inAV, zy, iAV, h3, h3', hx, hx', h5, h5', hy, hy', zS]) | (refine zb (fun hc => ?_) (fun hc => ?_) <;> try simp at hc) | fail)
      all_goals (exfalso; simp only [Bool.not_false, decide_eq_true_eq] at hg; omega)
    · have h5' : r.length ≤ k := by omega
      have hy' : r[k]? = none := List.getElem?_eq_none (by omega)
      rw [hy']
      (try ((first | with_reducible refine zh ?_ | with_reducible refine zm ?_ | with_reducible refine zo ?_); simp [-cellOK, zP, zap, inAV, zy, iAV, h3, h3', hx, hx', h5, h5', hy'])); repeat' (first | ((first | refine zd ?_ | refine zg ?_ | refine dN (by decide +kernel) ?_ | refine dC (by decide +kernel) ?_ | (refine za ?_ ?_ <;> (intro hg; simp only [hg])) | fail) <;> simp [-cellOK, zP, zap, inAV, zy, iAV, h3, h3', hx, hx', h5, h5', hy']) | refine zf ?_ | refine zc ?_ | (refine zp ?_; simp only [zq]; try simp) | (refine zl (by simp) ?_; simp) | (refine zD (by simp) (by simp [noIds]) (by repeat (first | assumption | exact Ext.refl _ | refine zv ?_ | refine Ext.setF ?_ (by first | assumption | (simp [ze, St.set, zk]; done) | exact zt (by assumption)))) ?_; simp [-cellOK, zP, zap, inAV, zy, iAV, h3, h3', hx, hx', h5, h5', hy', zS]) | (refine zb (fun hc => ?_) (fun hc => ?_) <;> try simp at hc) | fail)
  · have h3' : L.rows.length ≤ i := by omega
    have hx' : L.rows[i]? = none := List.getElem?_eq_none (by omega)
    have e : (if 0 ≤ (i : Int) ∧ 0 ≤ a then (L.rows[(i : Int).toNat]?).bind fun r => r[a.toNat]? else none) = none := by
      rw [Int.toNat_natCast, hx']; split <;> rfl
    rw [e]
    (try ((first | with_reducible refine zh ?_ | with_reducible refine zm ?_ | with_reducible refine zo ?_); simp [-cellOK, zP, zap, h3, h3', hx'])); repeat' (first | ((first | refine zd ?_ | refine zg ?_ | refine dN (by decide +kernel) ?_ | refine dC (by decide +kernel) ?_ | (refine za ?_ ?_ <;> (intro hg; simp only [hg])) | fail) <;> simp [-cellOK, zP, zap, h3, h3', hx']) | refine zf ?_ | refine zc ?_ | (refine zp ?_; simp only [zq]; try simp) | (refine zl (by simp) ?_; simp) | (refine zD (by simp) (by simp [noIds]) (by repeat (first | assumption | exact Ext.refl _ | refine zv ?_ | refine Ext.setF ?_ (by first | assumption | (simp [ze, St.set, zk]; done) | exact zt (by assumption)))) ?_; simp [-cellOK, zP, zap, h3, h3', hx', zS]) | (refine zb (fun hc => ?_) (fun hc => ?_) <;> try simp at hc) | fail)
end Go.Proofs.YtanimmdlgmkmkaaGreat.Av
namespace Go.Proofs.YtanimmdlgmkmkaaGreat.Av
open Go
set_option linter.unusedSimpArgs false
set_option linter.unusedVariables false
set_option maxRecDepth 100000
set_option maxHeartbeats 4000000
set_option pp.maxSteps 600
def zi3 (n : Nw) (d a : Int) : Int := if (zci n d a).1 = 2 then -3 else if (zci n d a).1 = 1 then -2 else if (zci n d a).1 = 0 then -1 else (zci n d a).2.port
theorem zoQ {n : Nw} (h : zaq n = true) (d a : Int) : zi3 n d a = atI n d a := by
  unfold zi3 atI
  rw [zpq h]
theorem zme (n : Nw) (f : Fl) (d a : Int) (hn : NwOK n) : PCalls Tryz.prog 82 [z7 n f, .raw (.int .i64 d), .raw (.int .u32 a)] (.raw (.int .i64 (zi3 n d a))) := by
  have h1 := zkt n f d a (by have := hn.links; omega) hn.rules
  unfold zi3
  generalize zci n d a = s at h1 ⊢
  obtain ⟨k, p⟩ := s
  refine zJ Tryz.func82 rfl (N := 25) rfl rfl (by simp) (by simp [noIds]) fun σ => ?_
  by_cases k2 : k = 2
  · (try ((first | with_reducible refine zh ?_ | with_reducible refine zm ?_ | with_reducible refine zo ?_); simp [-cellOK, zr, zC, zz, zB, ze, k2])); repeat' (first | ((first | refine zd ?_ | refine zg ?_ | refine dN (by decide +kernel) ?_ | refine dC (by decide +kernel) ?_ | refine uP (h1) ?_ | refine .inl ⟨_, .inl (h1), ?_⟩ | (refine za ?_ ?_ <;> (intro hg; simp only [hg])) | fail) <;> simp [-cellOK, zr, zC, zz, zB, ze, k2]) | refine zf ?_ | refine zc ?_ | (refine zp ?_; simp only [zq]; try simp) | (refine zl (by simp) ?_; simp) | (refine zD (by simp) (by simp [noIds]) (by repeat (first | assumption | exact Ext.refl _ | refine zv ?_ | refine Ext.setF ?_ (by first | assumption | (simp [ze, St.set, zk]; done) | exact zt (by assumption)))) ?_; simp [-cellOK, zr, zC, zz, zB, ze, k2, zS]) | (refine zb (fun hc => ?_) (fun hc => ?_) <;> try simp at hc) | fail)
  by_cases k1 : k = 1
  · (try ((first | with_reducible refine zh ?_ | with_reducible refine zm ?_ | with_reducible refine zo ?_); simp [-cellOK, zr, zC, zz, zB, ze, k2, k1])); repeat' (first | ((first | refine zd ?_ | refine zg ?_ | refine dN (by decide +kernel) ?_ | refine dC (by decide +kernel) ?_ | refine uP (h1) ?_ | refine .inl ⟨_, .inl (h1), ?_⟩ | (refine za ?_ ?_ <;> (intro hg; simp only [hg])) | fail) <;> simp [-cellOK, zr, zC, zz, zB, ze, k2, k1]) | refine zf ?_ | refine zc ?_ | (refine zp ?_; simp only [zq]; try simp) | (refine zl (by simp) ?_; simp) | (refine zD (by simp) (by simp [noIds]) (by repeat (first | assumption | exact Ext.refl _ | refine zv ?_ | refine Ext.setF ?_ (by first | assumption | (simp [ze, St.set, zk]; done) | exact zt (by assumption)))) ?_; simp [-cellOK, zr, zC, zz, zB, ze, k2, k1, zS]) | (refine zb (fun hc => ?_) (fun hc => ?_) <;> try simp at hc) | fail)
  by_cases k0 : k = 0
  · (try ((first | with_reducible refine zh ?_ | with_reducible refine zm ?_ | with_reducible refine zo ?_); simp [-cellOK, zr, zC, zz, zB, ze, k2, k1, k0])); repeat' (first | ((first | refine zd ?_ | refine zg ?_ | refine dN (by decide +kernel) ?_ | refine dC (by decide +kernel) ?_ | refine uP (h1) ?_ | refine .inl ⟨_, .inl (h1), ?_⟩ | (refine za ?_ ?_ <;> (intro hg; simp only [hg])) | fail) <;> simp [-cellOK, zr, zC, zz, zB, ze, k2, k1, k0]) | refine zf ?_ | refine zc ?_ | (refine zp ?_; simp only [zq]; try simp) | (refine zl (by simp) ?_; simp) | (refine zD (by simp) (by simp [noIds]) (by repeat (first | assumption | exact Ext.refl _ | refine zv ?_ | refine Ext.setF ?_ (by first | assumption | (simp [ze, St.set, zk]; done) | exact zt (by assumption)))) ?_; simp [-cellOK, zr, zC, zz, zB, ze, k2, k1, k0, zS]) | (refine zb (fun hc => ?_) (fun hc => ?_) <;> try simp at hc) | fail)
  (try ((first | with_reducible refine zh ?_ | with_reducible refine zm ?_ | with_reducible refine zo ?_); simp [-cellOK, zr, zC, zz, zB, ze, k2, k1, k0, zQ])); repeat' (first | ((first | refine zd ?_ | refine zg ?_ | refine dN (by decide +kernel) ?_ | refine dC (by decide +kernel) ?_ | refine uP (h1) ?_ | refine .inl ⟨_, .inl (h1), ?_⟩ | (refine za ?_ ?_ <;> (intro hg; simp only [hg])) | fail) <;> simp [-cellOK, zr, zC, zz, zB, ze, k2, k1, k0, zQ]) | refine zf ?_ | refine zc ?_ | (refine zp ?_; simp only [zq]; try simp) | (refine zl (by simp) ?_; simp) | (refine zD (by simp) (by simp [noIds]) (by repeat (first | assumption | exact Ext.refl _ | refine zv ?_ | refine Ext.setF ?_ (by first | assumption | (simp [ze, St.set, zk]; done) | exact zt (by assumption)))) ?_; simp [-cellOK, zr, zC, zz, zB, ze, k2, k1, k0, zQ, zS]) | (refine zb (fun hc => ?_) (fun hc => ?_) <;> try simp at hc) | fail)
end Go.Proofs.YtanimmdlgmkmkaaGreat.Av
namespace Go.Proofs.YtanimmdlgmkmkaaGreat.Av
open Go
set_option linter.unusedSimpArgs false
set_option linter.unusedVariables false
set_option maxRecDepth 100000
set_option maxHeartbeats 4000000
set_option pp.maxSteps 600
theorem zku (r : Ru) (id : Int) : PCalls Tryz.prog 139 [zE r, .raw (.int .i64 id)] (.raw (.int .i64 (cmpI r.id id))) := by
  have h := zen r.id id
  refine zJ Tryz.func139 rfl (N := 9) rfl rfl (by simp) (by simp [noIds]) fun σ => ?_
  (try ((first | with_reducible refine zh ?_ | with_reducible refine zm ?_ | with_reducible refine zo ?_); simp [-cellOK, zs])); repeat' (first | ((first | refine zd ?_ | refine zg ?_ | refine dN (by decide +kernel) ?_ | refine dC (by decide +kernel) ?_ | refine uP (h) ?_ | refine .inl ⟨_, .inl (h), ?_⟩ | (refine za ?_ ?_ <;> (intro hg; simp only [hg])) | fail) <;> simp [-cellOK, zs]) | refine zf ?_ | refine zc ?_ | (refine zp ?_; simp only [zq]; try simp) | (refine zl (by simp) ?_; simp) | (refine zD (by simp) (by simp [noIds]) (by repeat (first | assumption | exact Ext.refl _ | refine zv ?_ | refine Ext.setF ?_ (by first | assumption | (simp [ze, St.set, zk]; done) | exact zt (by assumption)))) ?_; simp [-cellOK, zs, zS]) | (refine zb (fun hc => ?_) (fun hc => ?_) <;> try simp at hc) | fail)
theorem zr9 (i j : Nat) : ((i : Int) + j).fdiv 2 = ((i + j) / 2 : Nat) := by
  rw [Int.fdiv_eq_ediv_of_nonneg _ (by omega)]; omega
def firstGe (c : Ru → Int) (z : List Ru) : Nat := z.findIdx fun r => decide (0 ≤ c r)
theorem zju (g : FuncId) (c : Ru → Int) (z : List Ru) (fz : Bool) (a : Int) (hl : z.length < 2 ^ 60)
    (hg : ∀ r ∈ z, PCalls Tryz.prog g [zE r, .raw (.int .i64 a)] (.raw (.int .i64 (c r))))
    (hm : ∀ (i j : Nat) r s, i < j → z[i]? = some r → z[j]? = some s → c s < 0 → c r < 0) :
    PCalls Tryz.prog 138 [zu z fz, .raw (.int .i64 a), .fn (.func g) [] []] (.tup [.raw (.int .i64 (firstGe c z)), .raw (.bool (match z[firstGe c z]? with | some r => decide (c r = 0) | none => false))]) := by
  refine zJ Tryz.func138 rfl (N := 49) rfl rfl (by simp) (by simp [noIds]) fun σ => ?_
  (try ((first | with_reducible refine zh ?_ | with_reducible refine zm ?_ | with_reducible refine zo ?_); simp [zu])); repeat' (first | ((first | refine zd ?_ | refine zg ?_ | refine dN (by decide +kernel) ?_ | (refine za ?_ ?_ <;> (intro hg; simp only [hg])) | fail) <;> simp [zu]) | refine zf ?_ | refine zc ?_ | (refine zp ?_; simp only [zq]; try simp) | ((first | refine zl (by simp) ?_ | refine zx (by simp) (by simp) (by simp (maxDischargeDepth := 30) [zu]) ?_ | fail); simp) | (refine zb (fun hc => ?_) (fun hc => ?_) <;> try simp at hc) | fail)
  refine zkU (fun n A τ => τ = σ ∧ A 0 = zu z fz ∧ A 1 = .raw (.int .i64 a) ∧ A 2 = .fn (.func g) [] [] ∧ A 8 = .raw (.int .i64 z.length) ∧ ∃ i j : Nat, A 9 = .raw (.int .i64 i) ∧ A 10 = .raw (.int .i64 j) ∧ i ≤ j ∧ j ≤ z.length ∧ n = j - i ∧
    (∀ k r, k < i → z[k]? = some r → c r < 0) ∧ (∀ k r, j ≤ k → z[k]? = some r → 0 ≤ c r)) z.length ?_ ?_
  · simp [zu]
    refine ⟨0, by simp, z.length, by simp, by omega, by omega, by omega, fun k r h => by omega, fun k r h hk => ?_⟩
    have := (List.getElem?_eq_some_iff.1 hk).1; omega
  rintro n A τ ⟨rfl, a0, a1, a2, a8, i, j, a9, a10, hij, hj, rfl, hlo, hhi⟩
  by_cases hlt : i < j
  · have hh : (i + j) / 2 < z.length := by omega
    have hx : z[(i + j) / 2]? = some z[(i + j) / 2] := List.getElem?_eq_getElem hh
    have w1 : IntKind.i64.wrap ((i : Int) + j) = (i : Int) + j := zU (by omega) (by omega)
    have w2 : IntKind.u64.wrap ((i : Int) + j) = (i : Int) + j := zcr (by omega) (by omega)
    have w3 := zr9 i j
    have w4 : IntKind.i64.wrap (((i + j) / 2 : Nat) : Int) = (((i + j) / 2 : Nat) : Int) := zU (by omega) (by omega)
    have w5 : IntKind.i64.wrap ((((i + j) / 2 : Nat) : Int) + 1) = ((((i + j) / 2 : Nat) : Int) + 1) := zU (by omega) (by omega)
    generalize hk : (i + j) / 2 = k at *
    (try ((first | with_reducible refine zh ?_ | with_reducible refine zm ?_ | with_reducible refine zo ?_); simp [a0, a1, a2, a8, a9, a10, zu, hlt, hx, w1, w2, w3, w4, w5, IntKind.bits, zs, zA])); repeat' (first | ((first | refine zd ?_ | refine zg ?_ | refine dN (by decide +kernel) ?_ | (refine za ?_ ?_ <;> (intro hg; simp only [hg])) | fail) <;> simp [a0, a1, a2, a8, a9, a10, zu, hlt, hx, w1, w2, w3, w4, w5, IntKind.bits, zs, zA]) | refine zf ?_ | refine zc ?_ | (refine zp ?_; simp only [zq]; try simp) | ((first | refine zl (by simp) ?_ | refine zx (by simp) (by simp) (by simp (maxDischargeDepth := 30) [a0, a1, a2, a8, a9, a10, zu, hlt, hx, w1, w2, w3, w4, w5, IntKind.bits, zs, zA]) ?_ | fail); simp) | (refine zb (fun hc => ?_) (fun hc => ?_) <;> try simp at hc) | fail)
    refine PCalls.use (hg z[k] (List.getElem_mem _)) ?_
    (try ((first | with_reducible refine zh ?_ | with_reducible refine zm ?_ | with_reducible refine zo ?_); simp [a0, a1, a2, a8, a9, a10, zu, hlt, hx, w1, w2, w3, w4, w5, IntKind.bits, zs, zA])); repeat' (first | ((first | refine zd ?_ | refine zg ?_ | refine dN (by decide +kernel) ?_ | (refine za ?_ ?_ <;> (intro hg; simp only [hg])) | fail) <;> simp [a0, a1, a2, a8, a9, a10, zu, hlt, hx, w1, w2, w3, w4, w5, IntKind.bits, zs, zA]) | refine zf ?_ | refine zc ?_ | (refine zp ?_; simp only [zq]; try simp) | ((first | refine zl (by simp) ?_ | refine zx (by simp) (by simp) (by simp (maxDischargeDepth := 30) [a0, a1, a2, a8, a9, a10, zu, hlt, hx, w1, w2, w3, w4, w5, IntKind.bits, zs, zA]) ?_ | fail); simp) | (refine zb (fun hc => ?_) (fun hc => ?_) <;> try simp at hc) | fail)
    · refine ⟨j - (k + 1), by omega, k + 1, by simp, j, rfl, by omega, hj, rfl, fun l r h h2 => ?_, hhi⟩
      by_cases e : l = k
      · subst e
        rw [hx] at h2
        injection h2 with h2
        subst h2; exact hc
      · exact hm l k r z[k] (by omega) h2 hx hc
    · refine ⟨k - i, by omega, i, rfl, k, rfl, by omega, by omega, rfl, hlo, fun l r h h2 => ?_⟩
      by_cases e : l = k
      · subst e
        rw [hx] at h2
        injection h2 with h2
        subst h2; exact hc
      · exact Int.not_lt.1 fun h3 => absurd (hm k l z[k] r (by omega) hx h2 h3) (by omega)
  · have hij : i = j := by omega
    subst hij
    have hf : firstGe c z = i := by
      unfold firstGe
      by_cases hi : i < z.length
      · rw [List.findIdx_eq hi]
        refine ⟨by simpa using hhi i z[i] (Nat.le_refl _) (List.getElem?_eq_getElem hi), fun k hk => ?_⟩
        have := hlo k z[k] hk (List.getElem?_eq_getElem (by omega))
        simpa using this
      · have : i = z.length := by omega
        subst this
        rw [List.findIdx_eq_length]
        intro r hr
        obtain ⟨k, hk, rfl⟩ := List.mem_iff_getElem.1 hr
        have := hlo k z[k] hk (List.getElem?_eq_getElem hk)
        simpa using this
    rw [hf]
    by_cases hi : i < z.length
    · have hx : z[i]? = some z[i] := List.getElem?_eq_getElem hi
      (try ((first | with_reducible refine zh ?_ | with_reducible refine zm ?_ | with_reducible refine zo ?_); simp [a0, a1, a2, a8, a9, a10, zu, hx, hi, zs, zA])); repeat' (first | ((first | refine zd ?_ | refine zg ?_ | refine dN (by decide +kernel) ?_ | (refine za ?_ ?_ <;> (intro hg; simp only [hg])) | fail) <;> simp [a0, a1, a2, a8, a9, a10, zu, hx, hi, zs, zA]) | refine zf ?_ | refine zc ?_ | (refine zp ?_; simp only [zq]; try simp) | ((first | refine zl (by simp) ?_ | refine zx (by simp) (by simp) (by simp (maxDischargeDepth := 30) [a0, a1, a2, a8, a9, a10, zu, hx, hi, zs, zA]) ?_ | fail); simp) | (refine zb (fun hc => ?_) (fun hc => ?_) <;> try simp at hc) | fail)
      refine PCalls.use (hg z[i] (List.getElem_mem _)) ?_
      (try ((first | with_reducible refine zh ?_ | with_reducible refine zm ?_ | with_reducible refine zo ?_); simp [a0, a1, a2, a8, a9, a10, zu, hx, hi, zs, zA])); repeat' (first | ((first | refine zd ?_ | refine zg ?_ | refine dN (by decide +kernel) ?_ | (refine za ?_ ?_ <;> (intro hg; simp only [hg])) | fail) <;> simp [a0, a1, a2, a8, a9, a10, zu, hx, hi, zs, zA]) | refine zf ?_ | refine zc ?_ | (refine zp ?_; simp only [zq]; try simp) | ((first | refine zl (by simp) ?_ | refine zx (by simp) (by simp) (by simp (maxDischargeDepth := 30) [a0, a1, a2, a8, a9, a10, zu, hx, hi, zs, zA]) ?_ | fail); simp) | (refine zb (fun hc => ?_) (fun hc => ?_) <;> try simp at hc) | fail)
      rw [hx]
    · have hx : z[i]? = none := List.getElem?_eq_none (by omega)
      (try ((first | with_reducible refine zh ?_ | with_reducible refine zm ?_ | with_reducible refine zo ?_); simp [a0, a1, a2, a8, a9, a10, zu, hx, hi, zs, zA])); repeat' (first | ((first | refine zd ?_ | refine zg ?_ | refine dN (by decide +kernel) ?_ | (refine za ?_ ?_ <;> (intro hg; simp only [hg])) | fail) <;> simp [a0, a1, a2, a8, a9, a10, zu, hx, hi, zs, zA]) | refine zf ?_ | refine zc ?_ | (refine zp ?_; simp only [zq]; try simp) | ((first | refine zl (by simp) ?_ | refine zx (by simp) (by simp) (by simp (maxDischargeDepth := 30) [a0, a1, a2, a8, a9, a10, zu, hx, hi, zs, zA]) ?_ | fail); simp) | (refine zb (fun hc => ?_) (fun hc => ?_) <;> try simp at hc) | fail)
      rw [hx]
theorem zh8 {a b : Int} : cmpI a b < 0 ↔ a < b := by unfold cmpI; (repeat' split) <;> omega
theorem znX {a b : Int} : cmpI a b = 0 ↔ a = b := by unfold cmpI; (repeat' split) <;> omega
def zW (z : List Ru) (id : Int) : Nat := firstGe (fun r => cmpI r.id id) z
def zaF (z : List Ru) (id : Int) : Bool := match z[zW z id]? with | some r => decide (r.id = id) | none => false
theorem zeG (L : Lab) (id : Int) (hl : L.n.rules.length < 2 ^ 60) (hs : L.n.rules.Pairwise fun r s => r.id < s.id) :
    PCalls Tryz.prog 89 [zP (some L), .raw (.int .i64 id)] (.tup [.raw (.int .i64 (zW L.n.rules id)), .raw (.bool (zaF L.n.rules id))]) := by
  have h := zju 139 (fun r => cmpI r.id id) L.n.rules false id hl (fun r _ => zku r id) (fun i j r s hij hr hs' hc => by
    rw [zh8] at *
    obtain ⟨hi, rfl⟩ := List.getElem?_eq_some_iff.1 hr
    obtain ⟨hj, rfl⟩ := List.getElem?_eq_some_iff.1 hs'
    have := List.pairwise_iff_getElem.1 hs i j hi hj hij
    omega)
  have e : (match L.n.rules[firstGe (fun r => cmpI r.id id) L.n.rules]? with | some r => decide (cmpI r.id id = 0) | none => false) = zaF L.n.rules id := by
    unfold zaF zW
    cases L.n.rules[firstGe (fun r => cmpI r.id id) L.n.rules]? with
    | none => rfl
    | some r => simp only [znX]
  rw [e] at h
  refine zJ Tryz.func89 rfl (N := 15) rfl rfl (by simp) (by simp [noIds]) fun σ => ?_
  unfold zW
  generalize firstGe (fun r => cmpI r.id id) L.n.rules = k at *
  generalize zaF L.n.rules id = b at *
  (try ((first | with_reducible refine zh ?_ | with_reducible refine zm ?_ | with_reducible refine zo ?_); simp [-cellOK, zP, zap])); repeat' (first | ((first | refine zd ?_ | refine zg ?_ | refine dN (by decide +kernel) ?_ | refine dC (by decide +kernel) ?_ | refine uP (h) ?_ | refine .inl ⟨_, .inl (h), ?_⟩ | (refine za ?_ ?_ <;> (intro hg; simp only [hg])) | fail) <;> simp [-cellOK, zP, zap]) | refine zf ?_ | refine zc ?_ | (refine zp ?_; simp only [zq]; try simp) | (refine zl (by simp) ?_; simp) | (refine zD (by simp) (by simp [noIds]) (by repeat (first | assumption | exact Ext.refl _ | refine zv ?_ | refine Ext.setF ?_ (by first | assumption | (simp [ze, St.set, zk]; done) | exact zt (by assumption)))) ?_; simp [-cellOK, zP, zap, zS]) | (refine zb (fun hc => ?_) (fun hc => ?_) <;> try simp at hc) | fail)
theorem zln {P : Program} {τ : St} {slot : Nat} {t : TypeId} {n by_ len : Nat} {x : AV} {j : Id} {es ys : List AV} {k : AV → St → Prop} (hT : SlT P t n by_) (hm : τ.m j = some (.buf es)) (hj : j.sz = n)
    (hx : zaH τ.m x = some ys) (hxs : ys = [] ∨ zdE x = n) (hc : z8 (zM ys) = true) (hle : len + ys.length ≤ es.length) (hlt : len < es.length)
    (hk : k (.rs j 0 (len + ys.length)) (τ.set j (.buf (es.take len ++ ys ++ es.drop (len + ys.length))))) : OKr (zG P τ.m t (.rs j 0 len) x) (Res.go slot τ k) := by
  obtain ⟨e, z, h1, h2, h3, h4, h5, h6, h7⟩ := hT.ex
  unfold zG
  simp only [h1, h2, h3, h4, hx, hm]
  rw [if_pos ⟨hxs, h5, h6, h7, hc⟩, if_neg (by omega), if_pos ⟨trivial, hle, hj⟩]
  exact hk
def ru0 : Ru := ⟨0, 0, 0, 0, ⟨0, 0⟩, 0⟩
theorem zd2 : AV.agg [.raw (.int .i64 0), .raw (.int .i64 0), .raw (.int .i64 0), .raw (.int .i64 0), .raw (.int .u32 0), .raw (.int .u32 0), .raw (.int .i64 0)] = zE ru0 := rfl
theorem zjv {σ : St} {j : Id} {l : List Ru} {i : Nat} (hi : i < l.length) (hl : l.length < 2932031007403) (hj : j.sz = 7) (hm : σ.m j = some (.buf (l.map zE))) {K : AV → St → Prop}
    (hK : ∀ τ, τ.m j = some (.buf ((l.eraseIdx i ++ [ru0]).map zE)) → (∀ q, q ≠ j → τ.m q = σ.m q) → τ.nx = σ.nx → K (.rs j 0 (l.length - 1)) τ) :
    ACalls Tryz.prog 92 [.rs j 0 l.length, .raw (.int .i64 i), .raw (.int .i64 ((i + 1 : Nat) : Int))] σ K := by
  obtain ⟨m, hm1⟩ : ∃ m, l.length = m + 1 := ⟨l.length - 1, by omega⟩
  have hlen : (l.map zE).length = m + 1 := by simp [hm1]
  rw [hm1] at hi hl hK ⊢
  rw [List.eraseIdx_eq_take_drop_succ] at hK
  have e0 : m + 1 - 1 = m := rfl
  rw [e0] at hK
  refine zeC Tryz.func92 rfl (N := 33) rfl rfl (by simp) ?_
  have n1 : ¬ ((i : Int) = ((i + 1 : Nat) : Int)) := by omega
  have n2 : (0 : Int) ≤ ((i + 1 : Nat) : Int) := by omega
  have n3 : (0 : Int) ≤ ((m + 1 : Nat) : Int) := by omega
  have n4 : i ≤ i + 1 := by omega
  have n5 : i + 1 ≤ m + 1 := by omega
  have n6 : i ≤ m + 1 := by omega
  have t1 : ((i + 1 : Nat) : Int).toNat = i + 1 := rfl
  have t2 : ((m + 1 : Nat) : Int).toNat = m + 1 := rfl
  have hys : (l.map zE).drop (i + 1) = (l.drop (i + 1)).map zE := by rw [List.map_drop]
  have htk : (l.map zE).take i = (l.take i).map zE := by rw [List.map_take]
  have hcut : zaH σ.m (zbf j 0 (i + 1) (m + 1)) = some ((l.drop (i + 1)).map zE) := by
    unfold zbf
    by_cases q : i + 1 < m + 1
    · rw [if_pos (.inr q)]
      have h2 : 0 + (i + 1) + (m + 1 - (i + 1)) ≤ (l.map zE).length := by omega
      simp only [zaH, hm]
      rw [if_pos h2, Nat.zero_add, hys, List.take_of_length_le (by simp; omega)]
    · rw [if_neg (by omega)]
      simp only [zaH]
      rw [List.drop_of_length_le (by omega)]; rfl
  have hcs : ((l.drop (i + 1)).map zE = [] ∨ zdE (zbf j 0 (i + 1) (m + 1)) = 7) := by
    right
    unfold zbf
    split <;> simp [zdE, hj]
  have hc0 : zbf j 0 0 i = .rs j 0 i := by simp [zbf]
  have hdl : ((l.drop (i + 1)).map zE).length = m - i := by simp; omega
  obtain ⟨xl, hlast⟩ : ∃ x : Ru, (l.map zE).drop (i + (m - i)) = [zE x] := by
    have : i + (m - i) = m := by omega
    exact ⟨l[m]'(by omega), by rw [this, List.drop_eq_getElem_cons (by omega), List.drop_of_length_le (by omega)]; simp⟩
  generalize hi1 : i + 1 = i1 at *
  generalize hmm : m + 1 = m1 at *
  refine zf ?_
  (try ((first | with_reducible refine zh ?_ | with_reducible refine zm ?_ | with_reducible refine zo ?_); simp [n1, n2, n3, n4, n5, n6, t1, t2, hj, hc0, -zG])); repeat' (first | ((first | refine zd ?_ | refine zg ?_ | refine dN (by decide +kernel) ?_ | (refine za ?_ ?_ <;> (intro hg; simp only [hg])) | fail) <;> simp [n1, n2, n3, n4, n5, n6, t1, t2, hj, hc0, -zG]) | refine zf ?_ | refine zc ?_ | (refine zp ?_; simp only [zq]; try simp) | (refine zb (fun hc => ?_) (fun hc => ?_) <;> try simp at hc) | fail)
  refine zln zce hm hj hcut hcs (ziV _) (by rw [hdl]; omega) (by omega) ?_
  rw [hdl, htk, hlast]
  have e3 : i + (m - i) = m := by omega
  rw [e3]
  (try ((first | with_reducible refine zh ?_ | with_reducible refine zm ?_ | with_reducible refine zo ?_); simp))
  have hms : ∀ x, (σ.set j x).m j = some x := fun x => zbC hm
  have hle2 : m < m1 := by omega
  have hln : (List.map zE (l.take i) ++ List.map zE (l.drop i1) ++ [zE xl]).length = m1 := by simp; omega
  have ht : (List.map zE (l.take i) ++ List.map zE (l.drop i1) ++ [zE xl]).take m = List.map zE (l.take i) ++ List.map zE (l.drop i1) := by
    rw [List.take_left']; simp; omega
  have hd' : (List.map zE (l.take i) ++ List.map zE (l.drop i1) ++ [zE xl]).drop (m + 1) = [] := List.drop_of_length_le (by omega)
  have hd := hd'
  generalize List.map zE (l.take i) ++ List.map zE (l.drop i1) ++ [zE xl] = E at *
  have h01 : m1 - m = 0 + 1 := by omega
  refine zf ?_
  refine zeZ 4 rfl rfl ?_
  dsimp only [List.take, List.drop]
  simp
  refine zla (e := 73) (n := 7) (k1 := .i64) (k2 := .i64) (i := j) (off := 0) (len := m) (l := m) (h := m1) (es := E) (by simp) (by simp) hj (by omega) (by simp) (by simp) (by simp) (hms _) (by omega) hle2 ?_
  rw [h01]
  have hcl : zds Tryz.prog (σ.set j (.buf E)).m 26 (.rs j m (0 + 1)) = some (.wrv j ((l.take i ++ l.drop i1 ++ [ru0]).map zE) (.tup [])) := by
    have h9 := hms (.buf E)
    generalize (σ.set j (.buf E)).m = mm at h9 ⊢
    simp only [List.map_append, ← ht]
    have hle : m + 1 ≤ E.length := by omega
    have hz : (zE ru0).cells.length = 7 := rfl
    have hz2 := zV ru0
    unfold z8 at hz2
    simp [zds, h9, hj, zd2, hd, hle, hz]
    simpa using hz2
  (try ((first | with_reducible refine zh ?_ | with_reducible refine zm ?_ | with_reducible refine zo ?_); simp [hcl]))
  (try ((first | with_reducible refine zh ?_ | with_reducible refine zm ?_ | with_reducible refine zo ?_); simp)); repeat' (first | ((first | refine zd ?_ | refine zg ?_ | refine dN (by decide +kernel) ?_ | (refine za ?_ ?_ <;> (intro hg; simp only [hg])) | fail) <;> simp) | refine zf ?_ | refine zc ?_ | (refine zp ?_; simp only [zq]; try simp) | (refine zb (fun hc => ?_) (fun hc => ?_) <;> try simp at hc) | fail)
  refine zbH (x := .rs j 0 m) (.inr rfl) (by simp) (hK _ ?_ ?_ rfl)
  · rw [zbC (hms _)]; simp
  · intro q hq; rw [zbg hq, zbg hq]
end Go.Proofs.YtanimmdlgmkmkaaGreat.Av
namespace Go.Proofs.YtanimmdlgmkmkaaGreat.Av
open Go
set_option linter.unusedSimpArgs false
set_option linter.unusedVariables false
set_option maxRecDepth 100000
set_option maxHeartbeats 4000000
set_option pp.maxSteps 600
theorem zjw (l : List Ru) (f : Bool) (hne : l ≠ []) (hl : l.length < 2932031007403) : MCalls Tryz.prog 129 [zu l f] 7 (.buf (l.map zE)) fun i => .rs i 0 l.length := by
  have := ziR (P := Tryz.prog) (f := 129) (args := [zu l f]) (n := 7) (es := l.map zE) (zcZ (zlh _) l) fun σ => zgx l f hl fun v τ hO hE => by
    rcases hO with ⟨h, _⟩ | ⟨j, h1, h2, h3, h4⟩
    · exact absurd (List.map_eq_nil_iff.1 h) hne
    · exact ⟨j, h1, h2, h3, h4, hE⟩
  simpa using this
theorem zi4 (n : Nw) (f : Fl) (hn : NwOK n) (hne : n.rules ≠ []) {σ : St} {K : AV → St → Prop} (hK : ∀ v τ, OwnL σ τ 7 v (n.rules.map zE) → Ext σ τ → K (.agg [zy n.t.ports false, zw n.t.links false, v]) τ) :
    ACalls Tryz.prog 75 [z7 n f] σ K := by
  have h1 := zd0 n.t.ports f.p hn.ports
  have h2 := zep n.t.links f.l hn.links
  have h3 := zjw n.rules f.r hne hn.rules
  refine zeC Tryz.func75 rfl (N := 16) rfl rfl (by simp) ?_
  have c1 : (zy n.t.ports false).cells = [zy n.t.ports false] := rfl
  have c2 : (zw n.t.links false).cells = [zw n.t.links false] := rfl
  (try ((first | with_reducible refine zh ?_ | with_reducible refine zm ?_ | with_reducible refine zo ?_); simp [-cellOK, zr, c1, c2, zz, zB, ze])); repeat' (first | ((first | refine zd ?_ | refine zg ?_ | refine dN (by decide +kernel) ?_ | refine dC (by decide +kernel) ?_ | refine uP (h1) ?_ | refine .inl ⟨_, .inl (h1), ?_⟩ | refine uP (h2) ?_ | refine .inl ⟨_, .inl (h2), ?_⟩ | (refine za ?_ ?_ <;> (intro hg; simp only [hg])) | fail) <;> simp [-cellOK, zr, c1, c2, zz, zB, ze]) | refine zf ?_ | refine zc ?_ | (refine zp ?_; simp only [zq]; try simp) | (refine zb (fun hc => ?_) (fun hc => ?_) <;> try simp at hc) | fail)
  refine .inr ⟨_, _, _, h3, ?_⟩
  (try ((first | with_reducible refine zh ?_ | with_reducible refine zm ?_ | with_reducible refine zo ?_); simp [-cellOK, zr, c1, c2, zz, zB, ze])); repeat' (first | ((first | refine zd ?_ | refine zg ?_ | refine dN (by decide +kernel) ?_ | refine dC (by decide +kernel) ?_ | (refine za ?_ ?_ <;> (intro hg; simp only [hg])) | fail) <;> simp [-cellOK, zr, c1, c2, zz, zB, ze]) | refine zf ?_ | refine zc ?_ | (refine zp ?_; simp only [zq]; try simp) | (refine zb (fun hc => ?_) (fun hc => ?_) <;> try simp at hc) | fail)
  refine zbH (x := .agg [zy n.t.ports false, zw n.t.links false, .rs ⟨14, σ.nx 14, 7⟩ 0 n.rules.length]) (.inr rfl) (by simp [zz, zB, ze]) (hK _ _ (OwnL.of rfl (by simp [zz, zB, ze]) (zk _ _ _) (by simp)) (by repeat (first | assumption | exact Ext.refl _ | refine zv ?_ | refine Ext.setF ?_ (by first | assumption | (simp [ze, St.set, zk]; done) | exact zt (by assumption)))))
def zfK (L : Lab) (T : Option Tab) (d : Nat) : List Int := (List.range (T.getD zL).b.sz.toNat).map fun i : Nat => ((L.rows[d]?).bind fun r => r[(ofT L.t ((zaS T i).getD ⟨0, 0⟩).lo).toNat]?).getD 0
theorem zmf (L : Lab) (T : Option Tab) (d : Nat) (hz : (T.getD zL).b.sz < 2 ^ 40) (hz2 : (L.t.getD zL).b.sz < 2 ^ 40) {row : List Int} (hd : L.rows[d]? = some row)
    (ha : ∀ i : Nat, (i : Int) < (T.getD zL).b.sz → 0 ≤ ((zaS T i).getD ⟨0, 0⟩).lo ∧ ((zaS T i).getD ⟨0, 0⟩).lo < 4294967296 ∧ 0 ≤ ofT L.t ((zaS T i).getD ⟨0, 0⟩).lo ∧ ofT L.t ((zaS T i).getD ⟨0, 0⟩).lo < row.length) :
    PCalls Tryz.prog 143 [zP (some L), zaj T, .raw (.int .i64 d)] (zy (zfK L T d) false) := by
  have hlen := ze4 T
  have hof := fun a h0 h1 => zmb L.t a h0 h1 hz2
  refine zJ Tryz.func143 rfl (N := 43) rfl rfl (by simp) (by simp [noIds]) fun σ => ?_
  have hml : zfK L T d = (List.range (T.getD zL).b.sz.toNat).map fun i : Nat => (row[(ofT L.t ((zaS T i).getD ⟨0, 0⟩).lo).toNat]?).getD 0 := by unfold zfK; rw [hd]; rfl
  rw [hml]
  have hat := fun i : Int => zgf T i hz
  generalize (T.getD zL).b.sz = N at *
  obtain ⟨M, hM⟩ : ∃ M : Nat, N.toNat = M := ⟨_, rfl⟩
  rw [hM]
  refine zf ?_
  (try ((first | with_reducible refine zh ?_ | with_reducible refine zm ?_ | with_reducible refine zo ?_); simp [-cellOK, zP])); repeat' (first | ((first | refine zd ?_ | refine zg ?_ | refine dN (by decide +kernel) ?_ | refine dC (by decide +kernel) ?_ | refine uP (hlen) ?_ | refine .inl ⟨_, .inl (hlen), ?_⟩ | (refine za ?_ ?_ <;> (intro hg; simp only [hg])) | fail) <;> simp [-cellOK, zP]) | refine zf ?_ | refine zc ?_ | (refine zp ?_; simp only [zq]; try simp) | (refine zb (fun hc => ?_) (fun hc => ?_) <;> try simp at hc) | fail)
  refine zZ (fun n' B ρ => Ext σ ρ ∧ B 0 = zP (some L) ∧ B 1 = zaj T ∧ B 2 = .raw (.int .i64 d) ∧ B 12 = .raw (.int .i64 N) ∧ ∃ (i : Nat) (v : AV), B 13 = .raw (.int .i64 i) ∧ i ≤ M ∧ n' = M - i ∧ B 7 = v ∧ OwnL σ ρ 1 v (((List.range i).map fun i : Nat => (row[(ofT L.t ((zaS T i).getD ⟨0, 0⟩).lo).toNat]?).getD 0).map iAV)) M ?_ ?_
  · exact ⟨Ext.refl _, by simp [zP], by simp, by simp, by simp, 0, .sl 0 [] true, by simp, by omega, by omega, by simp, .inl ⟨by simp, rfl⟩⟩
  rintro n' B ρ ⟨hE, a0, a1, a2, a12, i, v, a13, hi, rfl, a7, hO⟩ I1 hI1
  by_cases hlt : (i : Int) < N
  · have w1 : IntKind.i64.wrap ((i : Int) + 1) = ((i + 1 : Nat) : Int) := by rw [zU (by omega) (by omega)]; omega
    have hat := hat i
    obtain ⟨r, hr⟩ : ∃ r, (zaS T i).getD ⟨0, 0⟩ = r := ⟨_, rfl⟩
    obtain ⟨p1, p2, p3, p4⟩ := ha i hlt
    rw [hr] at hat p1 p2 p3 p4
    have hof := hof r.lo p1 p2
    obtain ⟨k, hk⟩ : ∃ k : Nat, ofT L.t r.lo = k := ⟨(ofT L.t r.lo).toNat, by omega⟩
    rw [hk] at hof p4
    have hkl : k < row.length := by omega
    obtain ⟨x, hx⟩ : ∃ x, row[k] = x := ⟨_, rfl⟩
    have hx' : row[k]? = some x := by rw [List.getElem?_eq_getElem hkl, hx]
    have hdl : d < L.rows.length := (List.getElem?_eq_some_iff.1 hd).1
    have hrd : L.rows[d] = row := (List.getElem?_eq_some_iff.1 hd).2
    generalize (zaS T i).isSome = bz at hat
    have f9 : σ.m ⟨9, ρ.nx 9, 2⟩ = none := zt hE
    (try ((first | with_reducible refine zh ?_ | with_reducible refine zm ?_ | with_reducible refine zo ?_); simp [-cellOK, a0, a1, a2, a7, a12, a13, hlt, hrd, hx', hx, hdl, hkl, zP, zap, inAV, zy, iAV, zT, zz, zB, ze, -zG])); repeat' (first | ((first | refine zd ?_ | refine zg ?_ | refine dN (by decide +kernel) ?_ | refine dC (by decide +kernel) ?_ | refine uP (hat) ?_ | refine .inl ⟨_, .inl (hat), ?_⟩ | refine uP (hof) ?_ | refine .inl ⟨_, .inl (hof), ?_⟩ | (refine za ?_ ?_ <;> (intro hg; simp only [hg])) | fail) <;> simp [-cellOK, a0, a1, a2, a7, a12, a13, hlt, hrd, hx', hx, hdl, hkl, zP, zap, inAV, zy, iAV, zT, zz, zB, ze, -zG]) | refine zf ?_ | refine zc ?_ | (refine zp ?_; simp only [zq]; try simp) | (refine zb (fun hc => ?_) (fun hc => ?_) <;> try simp at hc) | fail)
    refine zal zhm (σ0 := σ) (hO.ext (by repeat (first | assumption | exact Ext.refl _ | refine zv ?_ | refine Ext.setF ?_ (by first | assumption | (simp [ze, St.set, zk]; done) | exact zt (by assumption))))) (by repeat (first | assumption | exact Ext.refl _ | refine zv ?_ | refine Ext.setF ?_ (by first | assumption | (simp [ze, St.set, zk]; done) | exact zt (by assumption)))) (ys := [iAV x]) (by simp [zz, ze, iAV]) (.inr rfl) (by simp [iAV]) (by simp; omega) ?_
    intro v' τ' hO' hE' _ _
    (try ((first | with_reducible refine zh ?_ | with_reducible refine zm ?_ | with_reducible refine zo ?_); simp [-cellOK, a0, a1, a2, a7, a12, a13, w1])); repeat' (first | ((first | refine zd ?_ | refine zg ?_ | refine dN (by decide +kernel) ?_ | refine dC (by decide +kernel) ?_ | (refine za ?_ ?_ <;> (intro hg; simp only [hg])) | fail) <;> simp [-cellOK, a0, a1, a2, a7, a12, a13, w1]) | refine zf ?_ | refine zc ?_ | (refine zp ?_; simp only [zq]; try simp) | (refine zl (by simp) ?_; simp) | (refine zD (by simp) (by simp [noIds]) (by repeat (first | assumption | exact Ext.refl _ | refine zv ?_ | refine Ext.setF ?_ (by first | assumption | (simp [ze, St.set, zk]; done) | exact zt (by assumption)))) ?_; simp [-cellOK, a0, a1, a2, a7, a12, a13, w1, zS]) | (refine zb (fun hc => ?_) (fun hc => ?_) <;> try simp at hc) | fail)
    refine hI1 (M - (i + 1)) _ _ (by omega) ⟨hE', by simp [a0], by simp [a1], by simp [a2], by simp [a12], i + 1, v', by simp, by omega, rfl, by simp, ?_⟩
    rw [List.range_succ, List.map_append, List.map_append]
    simpa [hr, hk, hx'] using hO'
  · have : i = M := by omega
    subst this
    (try ((first | with_reducible refine zh ?_ | with_reducible refine zm ?_ | with_reducible refine zo ?_); simp [-cellOK, a0, a1, a2, a7, a12, a13, hlt])); repeat' (first | ((first | refine zd ?_ | refine zg ?_ | refine dN (by decide +kernel) ?_ | refine dC (by decide +kernel) ?_ | (refine za ?_ ?_ <;> (intro hg; simp only [hg])) | fail) <;> simp [-cellOK, a0, a1, a2, a7, a12, a13, hlt]) | refine zf ?_ | refine zc ?_ | (refine zp ?_; simp only [zq]; try simp) | (refine zb (fun hc => ?_) (fun hc => ?_) <;> try simp at hc) | fail)
    exact zbX (v := v) (.inr rfl) (by simp) hO hE
end Go.Proofs.YtanimmdlgmkmkaaGreat.Av
namespace Go.Proofs.YtanimmdlgmkmkaaGreat.Av
open Go
set_option linter.unusedSimpArgs false
set_option linter.unusedVariables false
set_option maxRecDepth 100000
set_option maxHeartbeats 4000000
set_option pp.maxSteps 600
def zct (L : Lab) (n : Nw) (T : Option Tab) (dev : Int) (d : Nat) : List Int := if (d : Int) = dev then zeq n T d else zfK L T d
def zdx (L : Lab) (n : Nw) (T : Option Tab) (dev : Int) : Lab := ⟨n, T, (List.range n.t.ports.length).map (zct L n T dev)⟩
theorem zhK (L : Lab) (n : Nw) (T : Option Tab) (dev : Int) (hn : NwOK n) (hpos : 1 ≤ n.t.ports.length) (hp8 : n.t.ports.length ≤ 8) (hz : (T.getD zL).b.sz < 2 ^ 40) (hz2 : (L.t.getD zL).b.sz < 2 ^ 40)
    (hrows : ∀ d, d < n.t.ports.length → ∃ row, L.rows[d]? = some row ∧ ∀ i : Nat, (i : Int) < (T.getD zL).b.sz → 0 ≤ ((zaS T i).getD ⟨0, 0⟩).lo ∧ ((zaS T i).getD ⟨0, 0⟩).lo < 4294967296 ∧ 0 ≤ ofT L.t ((zaS T i).getD ⟨0, 0⟩).lo ∧ ofT L.t ((zaS T i).getD ⟨0, 0⟩).lo < row.length) :
    PCalls Tryz.prog 91 [zP (some L), z7 n flN, zaj T, .raw (.int .i64 dev)] (zP (some (zdx L n T dev))) := by
  refine zJ Tryz.func91 rfl (N := 53) rfl rfl (by simp) (by simp [noIds, zb4]) fun σ => ?_
  have c1 : (z7 n flN).cells = [zy n.t.ports false, zw n.t.links false, zu n.rules false] := rfl
  have f5 : σ.m ⟨5, σ.nx 5, 3⟩ = none := zk _ _ _
  have f14 : σ.m ⟨14, σ.nx 14, 5⟩ = none := zk _ _ _
  refine zf ?_
  (try ((first | with_reducible refine zh ?_ | with_reducible refine zm ?_ | with_reducible refine zo ?_); simp [-cellOK, zr, zC, c1, zz, zB, ze])); repeat' (first | ((first | refine zd ?_ | refine zg ?_ | refine dN (by decide +kernel) ?_ | refine dC (by decide +kernel) ?_ | (refine za ?_ ?_ <;> (intro hg; simp only [hg])) | fail) <;> simp [-cellOK, zr, zC, c1, zz, zB, ze]) | refine zf ?_ | refine zc ?_ | (refine zp ?_; simp only [zq]; try simp) | (refine zb (fun hc => ?_) (fun hc => ?_) <;> try simp at hc) | fail)
  refine zaf ⟨5, σ.nx 5, 3⟩ ?_
  generalize hτ : St.del _ _ = τ
  generalize hA : (fun t => zF _ _ _) = A
  have a0 : A 0 = zP (some L) := by rw [← hA]; simp [zP, zF]
  have a2 : A 2 = zaj T := by rw [← hA]; cases T <;> simp [zaj, zcL]
  have a3 : A 3 = .raw (.int .i64 dev) := by rw [← hA]; simp
  have a5 : A 5 = .pp (z7 n flN).cells 0 := by rw [← hA, ← hτ]; simp [zF, St.new, St.del, zr]
  have a9 : A 9 = .rp ⟨14, σ.nx 14, 5⟩ 0 0 := by rw [← hA, ← hτ]; simp [zF, St.new, St.del, St.set, ze]
  have a18 : A 18 = .raw (.int .i64 n.t.ports.length) := by rw [← hA]; simp [zy]
  have a19 : A 19 = .raw (.int .i64 0) := by rw [← hA]; simp
  have mj : τ.m ⟨14, σ.nx 14, 5⟩ = some (.buf [.agg [zy n.t.ports false, zw n.t.links false, zu n.rules false, zaj T, .sl 0 [] true]]) := by rw [← hτ]; simp [St.new, St.del, St.set, zz, zB, ze, zr]
  have hE : Ext σ τ := by
    rw [← hτ]
    refine ⟨fun i o h => ?_, fun s => ?_⟩
    · have q1 : i ≠ ⟨5, σ.nx 5, 3⟩ := fun e => by rw [e, f5] at h; cases h
      have q2 : i ≠ ⟨14, σ.nx 14, 5⟩ := fun e => by rw [e, f14] at h; cases h
      simp [St.del, St.new, St.set, q1, q2, h]
    · simp only [St.del, St.new, St.set]
      repeat' split
      all_goals omega
  clear hτ hA
  refine zZ (fun n' B ρ => Ext σ ρ ∧ B 0 = zP (some L) ∧ B 2 = zaj T ∧ B 3 = .raw (.int .i64 dev) ∧ B 5 = .pp (z7 n flN).cells 0 ∧ B 9 = .rp ⟨14, σ.nx 14, 5⟩ 0 0 ∧ B 18 = .raw (.int .i64 n.t.ports.length) ∧ ∃ (i : Nat) (v : AV), B 19 = .raw (.int .i64 i) ∧ i ≤ n.t.ports.length ∧ n' = n.t.ports.length - i ∧ ρ.m ⟨14, σ.nx 14, 5⟩ = some (.buf [.agg [zy n.t.ports false, zw n.t.links false, zu n.rules false, zaj T, v]]) ∧ OwnL σ ρ 1 v (((List.range i).map (zct L n T dev)).map inAV)) n.t.ports.length ?_ ?_
  · exact ⟨hE, a0, a2, a3, a5, a9, a18, 0, .sl 0 [] true, a19, by omega, by omega, mj, .inl ⟨by simp, rfl⟩⟩
  clear hE a0 a2 a3 a5 a9 a18 a19 mj
  rintro n' B ρ ⟨hE, a0, a2, a3, a5, a9, a18, i, v, a19, hi, rfl, mj, hO⟩ I2 hI2
  by_cases hlt : i < n.t.ports.length
  · have w1 : IntKind.i64.wrap ((i : Int) + 1) = ((i + 1 : Nat) : Int) := by rw [zU (by omega) (by have := hn.ports; omega)]; omega
    have hfl : AV.agg [zy n.t.ports false, zw n.t.links false, zu n.rules false] = z7 n flN := rfl
    have hc1 : ∀ l, (zy l false).cells = [zy l false] := fun _ => rfl
    have hc2 : ∀ l, cellOK (zy l false) = true := fun _ => rfl
    have hdev : (((i : Int) = dev) = True ∧ PCalls Tryz.prog 78 [z7 n flN, zaj T, .raw (.int .i64 i)] (zy (zct L n T dev i) false)) ∨ (((i : Int) = dev) = False ∧ PCalls Tryz.prog 143 [zP (some L), zaj T, .raw (.int .i64 i)] (zy (zct L n T dev i) false)) := by
      unfold zct
      by_cases h : (i : Int) = dev
      · left
        rw [if_pos h]
        exact ⟨eq_true h, zj7 n flN T i hn hz⟩
      · right
        rw [if_neg h]
        obtain ⟨row, h1, h2⟩ := hrows i hlt
        exact ⟨eq_false h, zmf L T i hz hz2 h1 h2⟩
    obtain ⟨W, hW⟩ : ∃ W, zct L n T dev i = W := ⟨_, rfl⟩
    rw [hW] at hdev
    rcases hdev with ⟨hd, hrow⟩ | ⟨hd, hrow⟩
    all_goals
      (try ((first | with_reducible refine zh ?_ | with_reducible refine zm ?_ | with_reducible refine zo ?_); simp [-cellOK, zr, zC, a0, a2, a3, a5, a9, a18, a19, hlt, hd, hfl, hc1, hc2, zz, zB, ze, mj, -zG])); repeat' (first | ((first | refine zd ?_ | refine zg ?_ | refine dN (by decide +kernel) ?_ | refine dC (by decide +kernel) ?_ | refine uP (hrow) ?_ | refine .inl ⟨_, .inl (hrow), ?_⟩ | (refine za ?_ ?_ <;> (intro hg; simp only [hg])) | fail) <;> simp [-cellOK, zr, zC, a0, a2, a3, a5, a9, a18, a19, hlt, hd, hfl, hc1, hc2, zz, zB, ze, mj, -zG]) | refine zf ?_ | refine zc ?_ | (refine zp ?_; simp only [zq]; try simp) | (refine zl (by simp) ?_; simp) | (refine zD (by simp) (by simp [noIds]) (by repeat (first | assumption | exact Ext.refl _ | refine zv ?_ | refine Ext.setF ?_ (by first | assumption | (simp [ze, St.set, zk]; done) | exact zt (by assumption)))) ?_; simp [-cellOK, zr, zC, a0, a2, a3, a5, a9, a18, a19, hlt, hd, hfl, hc1, hc2, zz, zB, ze, mj, -zG, zS]) | (refine zb (fun hc => ?_) (fun hc => ?_) <;> try simp at hc) | fail)
      refine zal znG (σ0 := σ) (hO.ext (by repeat (first | assumption | exact Ext.refl _ | refine zv ?_ | refine Ext.setF ?_ (by first | assumption | (simp [ze, St.set, zk]; done) | exact zt (by assumption))))) (by repeat (first | assumption | exact Ext.refl _ | refine zv ?_ | refine Ext.setF ?_ (by first | assumption | (simp [ze, St.set, zk]; done) | exact zt (by assumption)))) (ys := [inAV W]) (by simp [zz, ze, inAV]) (.inr rfl) (by simp [inAV, zy, zM, z8, cellOK, AV.cells]) (by simp; omega) ?_
      intro v' τ' hO' hE' hk hnx
      obtain ⟨kj, _⟩ := hk ⟨14, σ.nx 14, 5⟩ _ (zaP _ _ mj) (hO.ne_sz (by simp))
      clear hk
      have hv1 := hO'.cells
      have hv2 := hO'.cellOK
      (try ((first | with_reducible refine zh ?_ | with_reducible refine zm ?_ | with_reducible refine zo ?_); simp [-cellOK, a0, a2, a3, a5, a9, a18, a19, w1, kj, hv1, hv2, zz, zB, ze])); repeat' (first | ((first | refine zd ?_ | refine zg ?_ | refine dN (by decide +kernel) ?_ | refine dC (by decide +kernel) ?_ | (refine za ?_ ?_ <;> (intro hg; simp only [hg])) | fail) <;> simp [-cellOK, a0, a2, a3, a5, a9, a18, a19, w1, kj, hv1, hv2, zz, zB, ze]) | refine zf ?_ | refine zc ?_ | (refine zp ?_; simp only [zq]; try simp) | (refine zl (by simp) ?_; simp) | (refine zD (by simp) (by simp [noIds]) (by repeat (first | assumption | exact Ext.refl _ | refine zv ?_ | refine Ext.setF ?_ (by first | assumption | (simp [ze, St.set, zk]; done) | exact zt (by assumption)))) ?_; simp [-cellOK, a0, a2, a3, a5, a9, a18, a19, w1, kj, hv1, hv2, zz, zB, ze, zS]) | (refine zb (fun hc => ?_) (fun hc => ?_) <;> try simp at hc) | fail)
      refine hI2 (n.t.ports.length - (i + 1)) _ _ (by omega) ⟨Ext.setF hE' f14, by simp [a0], by simp [a2], by simp [a3], by simp [a5], by simp [a9], by simp [a18], i + 1, v', by simp, by omega, rfl, by simp [kj, zB], ?_⟩
      rw [List.range_succ, List.map_append, List.map_append]
      simp only [List.map_cons, List.map_nil, hW]
      exact hO'.set (hO'.ne_sz (by simp))
  · have : i = n.t.ports.length := by omega
    subst this
    refine zaf ⟨14, σ.nx 14, 5⟩ ?_
    rcases hO with ⟨hes, rfl⟩ | ⟨k, rfl, hk1, hk2, hk3⟩
    · exfalso
      have := congrArg List.length hes
      simp at this
      rw [this] at hpos
      simp at hpos
    · have hkj : k ≠ ⟨14, σ.nx 14, 5⟩ := fun e => by rw [e] at hk1; cases hk1
      refine zde k ?_
      have g1 : ∀ (m m' : zX) l b, zF m' m (zy l b) = zy l b := fun _ _ _ _ => rfl
      have g2 : ∀ (m m' : zX) l b, zF m' m (zw l b) = zw l b := fun _ _ _ _ => rfl
      have g3 : ∀ (m m' : zX) l b, zF m' m (zu l b) = zu l b := fun _ _ _ _ => rfl
      have g4 : ∀ (m m' : zX), zF m' m (zaj T) = zaj T := fun _ _ => by cases T <;> rfl
      have f4 : zaA ((ρ.del ⟨14, σ.nx 14, 5⟩).del k).m (ρ.del ⟨14, σ.nx 14, 5⟩).m (zF (ρ.del ⟨14, σ.nx 14, 5⟩).m ρ.m (B 9)) = zP (some ⟨n, T, (List.range n.t.ports.length).map (zct L n T dev)⟩) := by
        rw [a9, za3 (by simp [St.del]) mj rfl]
        simp only [zaA, AV.cells, List.map_cons, List.map_nil, zP, zap, g1, g2, g3, g4]
        rw [zbI (by simp [St.del]) (by rw [zR hkj]; exact hk2) (by simp), hk1]
        simp
        exact List.take_of_length_le (by simp)
      generalize hπ : (ρ.del ⟨14, σ.nx 14, 5⟩).del k = π
      generalize hA : (fun t => zaA _ _ _) = A
      have b9 : A 9 = zP (some ⟨n, T, (List.range n.t.ports.length).map (zct L n T dev)⟩) := by rw [← hA, ← hπ]; exact f4
      have b18 : A 18 = .raw (.int .i64 n.t.ports.length) := by rw [← hA]; simp [a18, zaA, zF]
      have b19 : A 19 = .raw (.int .i64 n.t.ports.length) := by rw [← hA]; simp [a19, zaA, zF]
      have hEp : Ext σ π := by
        rw [← hπ]
        refine ⟨fun i o h => ?_, hE.nx⟩
        rw [zR (fun e => by rw [e, hk3] at h; cases h), zR (fun e => by rw [e, f14] at h; cases h)]
        exact hE.m i o h
      clear hπ hA f4 hE a0 a2 a3 a5 a9 a18 a19 mj hI2
      unfold zdx
      generalize (⟨n, T, (List.range n.t.ports.length).map (zct L n T dev)⟩ : Lab) = R at b9 ⊢
      (try ((first | with_reducible refine zh ?_ | with_reducible refine zm ?_ | with_reducible refine zo ?_); simp [-cellOK, b9, b18, b19])); repeat' (first | ((first | refine zd ?_ | refine zg ?_ | refine dN (by decide +kernel) ?_ | refine dC (by decide +kernel) ?_ | (refine za ?_ ?_ <;> (intro hg; simp only [hg])) | fail) <;> simp [-cellOK, b9, b18, b19]) | refine zf ?_ | refine zc ?_ | (refine zp ?_; simp only [zq]; try simp) | (refine zl (by simp) ?_; simp) | (refine zD (by simp) (by simp [noIds]) (by repeat (first | assumption | exact Ext.refl _ | refine zv ?_ | refine Ext.setF ?_ (by first | assumption | (simp [ze, St.set, zk]; done) | exact zt (by assumption)))) ?_; simp [-cellOK, b9, b18, b19, zS]) | (refine zb (fun hc => ?_) (fun hc => ?_) <;> try simp at hc) | fail)
end Go.Proofs.YtanimmdlgmkmkaaGreat.Av
namespace Go.Proofs.YtanimmdlgmkmkaaGreat.Av
open Go
set_option linter.unusedSimpArgs false
set_option linter.unusedVariables false
theorem znY {L : List Rg} {i : Nat} {r : Rg} (hr : (za8 (zaE L))[i]? = some r) {a b : Int} (ha : r.lo ≤ a ∧ a ≤ r.hi) (hb : r.lo ≤ b ∧ b ≤ r.hi) (hb2 : a < 4294967296) (hb3 : b < 4294967296) : zgk L a b := by
  have hs := (zbn L).srt
  unfold zgk
  generalize zaE L = c at hr hs ⊢
  rw [zc6] at hr
  cases hi : c[i]? with
  | none => rw [hi] at hr; cases hr
  | some x0 =>
    rw [hi] at hr
    simp only [Option.map_some, Option.some.injEq] at hr
    subst hr
    simp only at ha hb
    have hil := (List.getElem?_eq_some_iff.1 hi).1
    have hiv : c[i] = x0 := (List.getElem?_eq_some_iff.1 hi).2
    rw [List.pairwise_iff_getElem] at hs
    intro x hx
    obtain ⟨j, hj, rfl⟩ := List.getElem_of_mem hx
    by_cases hji : j ≤ i
    · have : c[j] ≤ c[i] := by
        rcases Nat.lt_or_ge j i with q | q
        · exact Int.le_of_lt (hs j i hj hil q)
        · have : j = i := by omega
          subst this; exact Int.le_refl _
      constructor <;> intro _ <;> omega
    · have hk : i + 1 < c.length := by omega
      have e : c[i + 1]? = some c[i + 1] := List.getElem?_eq_getElem hk
      rw [e] at ha hb
      simp only at ha hb
      have : c[i + 1] ≤ c[j] := by
        rcases Nat.lt_or_ge (i + 1) j with q | q
        · exact Int.le_of_lt (hs (i + 1) j hk hj q)
        · have : j = i + 1 := by omega
          subst this; exact Int.le_refl _
      constructor <;> intro _ <;> omega
end Go.Proofs.YtanimmdlgmkmkaaGreat.Av
namespace Go.Proofs.YtanimmdlgmkmkaaGreat.Av
open Go
set_option linter.unusedSimpArgs false
set_option linter.unusedVariables false
theorem zhL {l : List Ru} {last : Int} : zbK last l = true ↔ (∀ r ∈ l, zcm r = true) ∧ (∀ r ∈ l, last < r.id) ∧ l.Pairwise fun r s => r.id < s.id := by
  induction l generalizing last with
  | nil => simp [zbK]
  | cons x l ih =>
    simp only [zbK, Bool.and_eq_true, decide_eq_true_eq, ih, List.forall_mem_cons, List.pairwise_cons]
    constructor
    · rintro ⟨⟨h1, h2⟩, h3, h4, h5⟩
      exact ⟨⟨h1, h3⟩, ⟨h2, fun r hr => by have := h4 r hr; omega⟩, h4, h5⟩
    · rintro ⟨⟨h1, h3⟩, ⟨h2, h6⟩, h4, h5⟩
      exact ⟨⟨h1, h2⟩, h3, h4, h5⟩
theorem zcv {n : Nw} (h : zaq n = true) : n.rules.Pairwise fun r s => r.id < s.id := by
  unfold zaq zcD at h
  simp only [Bool.and_eq_true] at h
  exact (zhL.1 h.2.1.1).2.2
theorem znZ {n : Nw} {l : List Ru} (h : zaq n = true) (hs : l.Sublist n.rules) : zaq ⟨n.t, l⟩ = true := by
  unfold zaq zcD zdJ at h ⊢
  simp only [Bool.and_eq_true, zhL, decide_eq_true_eq, Bool.not_eq_true', List.any_eq_false] at h ⊢
  obtain ⟨h1, ⟨⟨h2, h3, h4⟩, h5⟩, h6⟩ := h
  exact ⟨h1, ⟨⟨fun r hr => h2 r (hs.subset hr), fun r hr => h3 r (hs.subset hr), h4.sublist hs⟩, Nat.le_trans hs.length_le h5⟩, fun r hr => h6 r (hs.subset hr)⟩
theorem zqu {n : Nw} {l : List Ru} (h : NwOK n) (hs : l.Sublist n.rules) : NwOK ⟨n.t, l⟩ where
  rg := fun r hr => h.rg r (hs.subset hr)
  ports := h.ports
  links := h.links
  rules := Nat.lt_of_le_of_lt hs.length_le h.rules
  id := fun r hr => h.id r (hs.subset hr)
theorem zlo {t : Tp} {l m : List Ru} {d : Int} (h : l.filter (fun r => decide (r.dev = d)) = m.filter (fun r => decide (r.dev = d))) (a : Int) : zaR ⟨t, l⟩ d a = zaR ⟨t, m⟩ d a := by
  have key : ∀ (p : Ru → Bool), (∀ r, p r = true → r.dev = d) → l.filter p = m.filter p := fun p hp => by
    have e : ∀ k : List Ru, k.filter p = (k.filter fun r => decide (r.dev = d)).filter p := fun k => by
      rw [List.filter_filter]
      apply List.filter_congr
      intro r _
      cases hr : p r with
      | false => simp
      | true => simp [hp r hr]
    rw [e l, e m, h]
  have k1 := key (zcA d a) fun r hr => by
    unfold zcA zcY at hr
    simp only [Bool.and_eq_true, decide_eq_true_eq] at hr
    exact hr.2.1
  have k2 := key (zcB d a) fun r hr => by
    unfold zcB zcY at hr
    simp only [Bool.and_eq_true, decide_eq_true_eq] at hr
    exact hr.2.1
  have an : ∀ (p : Ru → Bool) (k : List Ru), k.any p = !(k.filter p).isEmpty := fun p k => by
    induction k with
    | nil => rfl
    | cons x k ih => by_cases hx : p x = true <;> simp [hx, ih]
  unfold zaR zdY ze0 zdg
  simp only [an, k1, k2]
def zaO (n : Nw) : List Rg := n.rules.map (·.r)
def zfv (n : Nw) (d : Nat) : List Int := (za8 (zaE (zaO n))).map fun r => atI n d r.lo
structure LabRep (L : Lab) (n : Nw) : Prop where
  net : L.n = n
  ok : NwOK n
  right : zaq n = true
  rep : TabRep (L.t.getD zL) (zaO n)
  rows : L.rows = (List.range n.t.ports.length).map (zfv n)
theorem zh9 {R : List Rg} {i : Nat} (hi : i < (zaE R).length) : ∃ q, (za8 (zaE R))[i]? = some q := ⟨_, List.getElem?_eq_getElem (by rw [zcF]; exact hi)⟩
theorem zlp {n : Nw} {T : Option Tab} (h : TabRep (T.getD zL) (zaO n)) (d : Nat) : zeq n T d = zfv n d := by
  apply List.ext_getElem?
  intro i
  unfold zeq zfv
  rw [zdw h, List.getElem?_map, List.getElem?_map, Int.toNat_natCast]
  by_cases hi : i < (zaE (zaO n)).length
  · rw [List.getElem?_range hi, Option.map_some, zgi h, if_pos (by omega), Int.toNat_natCast]
    obtain ⟨q, hq⟩ := zh9 hi
    rw [hq]; rfl
  · rw [List.getElem?_eq_none (by simp; omega), List.getElem?_eq_none (by rw [zcF]; omega)]; rfl
theorem zn0 {T : Option Tab} {L : List Rg} (h : TabRep (T.getD zL) L) {a : Int} (h0 : 0 ≤ a) (h1 : a < 4294967296) : ∃ (k : Nat) (r : Rg), ofT T a = k ∧ (za8 (zaE L))[k]? = some r ∧ r.lo ≤ a ∧ a ≤ r.hi := by
  have hc := zbn L
  have hp := hc.pos h0
  obtain ⟨k, hk⟩ : ∃ k, (zaE L).countP (fun y => decide (y ≤ a)) = k + 1 := ⟨_, (Nat.succ_pred_eq_of_pos hp).symm⟩
  have hle : k + 1 ≤ (zaE L).length := by rw [← hk]; exact List.countP_le_length
  have hx : (zaE L)[k]? = some (zaE L)[k] := List.getElem?_eq_getElem (by omega)
  have hs := zm3 hc.srt a
  refine ⟨k, _, by rw [zqq h, hk]; omega, by rw [zc6, hx]; rfl, ?_, ?_⟩
  · exact (hs k _ hx).2 (by omega)
  · simp only
    cases hy : (zaE L)[k + 1]? with
    | none => simp only; omega
    | some y =>
      simp only
      have := (hs (k + 1) y hy)
      rw [hk] at this
      omega
theorem zmv {n : Nw} (ho : NwOK n) {k : Nat} {r : Rg} (h : (za8 (zaE (zaO n)))[k]? = some r) : 0 ≤ r.lo ∧ r.lo ≤ r.hi ∧ r.hi < 4294967296 := by
  have hc := zbn (zaO n)
  have hok : ∀ r ∈ zaO n, RgOK r := fun r hr => by
    obtain ⟨x, hx, rfl⟩ := List.mem_map.1 hr
    exact ho.rg x hx
  rw [zc6] at h
  have hrg : ∀ {x}, x ∈ zaE (zaO n) → 0 ≤ x ∧ x < 4294967296 := fun hx => hc.range hok hx
  have hs := hc.srt
  generalize zaE (zaO n) = c at h hrg hs
  cases hi : c[k]? with
  | none => rw [hi] at h; cases h
  | some x0 =>
    rw [hi] at h
    simp only [Option.map_some, Option.some.injEq] at h
    subst h
    have hil := (List.getElem?_eq_some_iff.1 hi).1
    have hiv : c[k] = x0 := (List.getElem?_eq_some_iff.1 hi).2
    have h0 := hrg (List.getElem_mem hil)
    rw [hiv] at h0
    by_cases hk : k + 1 < c.length
    · have e : c[k + 1]? = some c[k + 1] := List.getElem?_eq_getElem hk
      have h2 := hrg (List.getElem_mem hk)
      rw [List.pairwise_iff_getElem] at hs
      have h3 := hs k (k + 1) hil hk (by omega)
      simp only [e]
      refine ⟨?_, ?_, ?_⟩ <;> omega
    · have e : c[k + 1]? = none := List.getElem?_eq_none (by omega)
      simp only [e]
      refine ⟨?_, ?_, ?_⟩ <;> omega
theorem zoR {n : Nw} {k : Nat} {r : Rg} (h : (za8 (zaE (zaO n)))[k]? = some r) {a b : Int} (ha : r.lo ≤ a ∧ a ≤ r.hi) (hb : r.lo ≤ b ∧ b ≤ r.hi) (ha2 : a < 4294967296) (hb2 : b < 4294967296) (d : Int) : atI n d a = atI n d b := by
  have hs := znY h ha hb ha2 hb2
  unfold atI
  rw [znT (fun x hx => List.mem_map.2 ⟨x, hx, rfl⟩) hs ha2 hb2 d]
theorem zgn {L : Lab} {n : Nw} (h : LabRep L n) {d : Nat} (hd : d < n.t.ports.length) : L.rows[d]? = some (zfv n d) := by
  rw [h.rows, List.getElem?_map, List.getElem?_range hd]; rfl
theorem zlq {L : Lab} {n n' : Nw} (h : LabRep L n) {T : Option Tab} (hn : NwOK n') (hT : TabRep (T.getD zL) (zaO n')) {d : Nat} (i : Nat) (hi : (i : Int) < (T.getD zL).b.sz) :
    0 ≤ ((zaS T i).getD ⟨0, 0⟩).lo ∧ ((zaS T i).getD ⟨0, 0⟩).lo < 4294967296 ∧ 0 ≤ ofT L.t ((zaS T i).getD ⟨0, 0⟩).lo ∧ ofT L.t ((zaS T i).getD ⟨0, 0⟩).lo < (zfv n d).length := by
  rw [zdw hT] at hi
  obtain ⟨q, hx⟩ := zh9 (R := zaO n') (i := i) (by omega)
  rw [zgi hT, if_pos (by omega), Int.toNat_natCast, hx, Option.getD_some]
  obtain ⟨h1, h2, h3⟩ := zmv hn hx
  obtain ⟨k, r, e1, e2, e3, e4⟩ := zn0 h.rep h1 (by omega)
  refine ⟨h1, by omega, by omega, ?_⟩
  rw [e1]
  have := (List.getElem?_eq_some_iff.1 e2).1
  unfold zfv
  rw [List.length_map]; omega
theorem zm8 {L : Lab} {n n' : Nw} (h : LabRep L n) {T : Option Tab} (hn : NwOK n') (hT : TabRep (T.getD zL) (zaO n')) {d : Nat} (hd : d < n.t.ports.length) (hs : ∀ a, atI n' d a = atI n d a) : zfK L T d = zfv n' d := by
  apply List.ext_getElem?
  intro i
  unfold zfK
  rw [zgn h hd, zdw hT, List.getElem?_map, Int.toNat_natCast]
  unfold zfv
  rw [List.getElem?_map]
  by_cases hi : i < (zaE (zaO n')).length
  · obtain ⟨q, hx⟩ := zh9 hi
    rw [List.getElem?_range hi, Option.map_some, zgi hT, if_pos (by omega), Int.toNat_natCast, hx, Option.getD_some]
    obtain ⟨h1, h2, h3⟩ := zmv hn hx
    obtain ⟨k, r, e1, e2, e3, e4⟩ := zn0 h.rep h1 (by omega)
    rw [e1, Int.toNat_natCast, Option.bind_some, List.getElem?_map, e2, Option.map_some, Option.map_some, Option.getD_some, hs, zoR e2 ⟨Int.le_refl _, by omega⟩ ⟨e3, e4⟩ (by omega) (by omega)]
  · rw [List.getElem?_eq_none (by simp; omega), List.getElem?_eq_none (by rw [zcF]; omega)]; rfl
theorem zlr {L : Lab} {n n' : Nw} (h : LabRep L n) {T : Option Tab} {dev : Int} (ht : n'.t = n.t) (hn : NwOK n') (hr : zaq n' = true) (hT : TabRep (T.getD zL) (zaO n')) (hdev : ∀ d : Int, d ≠ dev → ∀ a, atI n' d a = atI n d a) : LabRep (zdx L n' T dev) n' where
  net := rfl
  ok := hn
  right := hr
  rep := hT
  rows := by
    show (List.range n'.t.ports.length).map (zct L n' T dev) = _
    apply List.map_congr_left
    intro d hd
    rw [List.mem_range] at hd
    unfold zct
    split
    · exact zlp hT d
    · rename_i hne
      exact zm8 h hn hT (by rw [← ht]; exact hd) fun a => hdev d hne a
theorem zj8 {n : Nw} (hn : NwOK n) (h : zaq n = true) : TabRep ((zda n.rules).getD zL) (zaO n) := by
  have h1 := zh6 hn.rg n.rules.length (Nat.le_refl _)
  rw [List.take_length] at h1
  obtain ⟨hr, -⟩ := h1.get
  have hL : ((n.rules.map (·.r)).foldl zeD (some [])).getD [] = (n.rules.map (·.r)).reverse := by
    have h2 := zbe h
    exact zoF (fun r hr => by obtain ⟨x, hx, rfl⟩ := List.mem_map.1 hr; exact zmt (h2.1 x hx)) (by rw [List.length_map]; omega)
  rw [hL] at hr
  exact hr.perm (List.reverse_perm _)
theorem zg7 {n : Nw} (hn : NwOK n) (h : zaq n = true) : LabRep (zbj n) n where
  net := rfl
  ok := hn
  right := h
  rep := zj8 hn h
  rows := by
    show (List.range n.t.ports.length).map (fun d : Nat => zeq n (zda n.rules) d) = _
    apply List.map_congr_left
    intro d _
    exact zlp (zj8 hn h) d
end Go.Proofs.YtanimmdlgmkmkaaGreat.Av
namespace Go.Proofs.YtanimmdlgmkmkaaGreat.Av
open Go
set_option linter.unusedSimpArgs false
set_option linter.unusedVariables false
set_option maxRecDepth 100000
set_option maxHeartbeats 4000000
set_option pp.maxSteps 600
def zbz (n : Nw) (id : Int) : Nw := ⟨n.t, n.rules.eraseIdx (zW n.rules id)⟩
def za0 (n : Nw) (id : Int) : Ru := (n.rules[zW n.rules id]?).getD ru0
def zdO (L : Lab) (n : Nw) (id : Int) : Lab := zdx L (zbz n id) (zcN L.t (za0 n id).r).1 (za0 n id).dev
theorem zjx {l : List Ru} {id : Int} (h : zaF l id = true) : zW l id < l.length := by
  unfold zaF at h
  cases hx : l[zW l id]? with
  | none => rw [hx] at h; cases h
  | some r => exact (List.getElem?_eq_some_iff.1 hx).1
theorem zb5 {n : Nw} {id : Int} (h : zaF n.rules id = true) : n.rules[zW n.rules id]? = some (za0 n id) := by
  unfold za0
  rw [List.getElem?_eq_getElem (zjx h)]; rfl
theorem zjy (n : Nw) (id : Int) : (zbz n id).rules.Sublist n.rules := List.eraseIdx_sublist _ _
theorem zoS {n : Nw} {id : Int} (h : zaF n.rules id = true) : (zaO n).Perm ((za0 n id).r :: zaO (zbz n id)) := by
  have h2 := zb5 h
  have hlt := zjx h
  have h1 : n.rules = n.rules.take (zW n.rules id) ++ za0 n id :: n.rules.drop (zW n.rules id + 1) := by
    conv => lhs; rw [← List.take_append_drop (zW n.rules id) n.rules, List.drop_eq_getElem_cons hlt, (List.getElem?_eq_some_iff.1 h2).2]
  have h3 : n.rules.Perm (za0 n id :: (zbz n id).rules) := by
    unfold zbz
    rw [List.eraseIdx_eq_take_drop_succ]
    conv => lhs; rw [h1]
    exact List.perm_middle
  exact h3.map (·.r)
theorem zls {L : Lab} {n : Nw} (h : LabRep L n) {id : Int} (hh : zaF n.rules id = true) :
    RgOK (za0 n id).r ∧ zfs L.t (za0 n id).r ≠ 0 ∧ WithOK (L.t.getD zL) (za0 n id).r (-1) ∧ (zcN L.t (za0 n id).r).1 = some ((L.t.getD zL).with_ (za0 n id).r (-1)) ∧ TabRep ((zcN L.t (za0 n id).r).1.getD zL) (zaO (zbz n id)) := by
  have hm : za0 n id ∈ n.rules := List.mem_of_getElem? (zb5 hh)
  have hok := h.ok.rg _ hm
  have hlen : (zaO (zbz n id)).length < 500 := by
    have := (zbe h.right).2
    have := (zjy n id).length_le
    unfold zaO; rw [List.length_map]; omega
  obtain ⟨w1, w2⟩ := zoD (h.rep.perm (zoS hh)) hlen
  have hc : zfs L.t (za0 n id).r ≠ 0 := by
    unfold zfs
    rw [znN h.rep hok]
    have : 0 < (zaO n).count (za0 n id).r := List.count_pos_iff.2 (List.mem_map.2 ⟨_, hm, rfl⟩)
    omega
  have e : (zcN L.t (za0 n id).r).1 = some ((L.t.getD zL).with_ (za0 n id).r (-1)) := by unfold zcN; rw [if_neg hc]
  exact ⟨hok, hc, w1, e, by rw [e]; exact w2⟩
theorem zdp {T : Option Tab} {n : Nw} (h : TabRep (T.getD zL) (zaO n)) (hr : zaq n = true) : (T.getD zL).b.sz < 2 ^ 40 := by
  rw [zdw h]
  have hcc := zbn (zaO n)
  have hcl : (zaE (zaO n)).length ≤ 1 + 2 * (zaO n).length := by
    have := zdZ (m := 0 :: zb6 (zaO n)) (hcc.srt.imp fun h => by omega) fun x hx => by
      rw [List.mem_cons]; simp only [zb6, List.mem_flatMap]; exact (hcc.mem x).1 hx
    have := zek (zaO n)
    simp only [List.length_cons] at *
    omega
  have := (zbe hr).2
  have e : (zaO n).length = n.rules.length := by unfold zaO; simp
  omega
theorem zg8 {α : Type} {p : α → Bool} : ∀ {l : List α} {i : Nat} {x : α}, l[i]? = some x → p x = false → (l.eraseIdx i).filter p = l.filter p
  | [], _, _, h, _ => by simp at h
  | y :: l, 0, x, h, hp => by
    simp at h; subst h
    simp [hp]
  | y :: l, i + 1, x, h, hp => by
    simp at h
    rw [List.eraseIdx_cons_succ, List.filter_cons, List.filter_cons, zg8 h hp]
theorem zpt {n : Nw} {id : Int} (h : zaF n.rules id = true) (d : Int) (hd : d ≠ (za0 n id).dev) (a : Int) : atI (zbz n id) d a = atI n d a := by
  unfold atI zbz
  rw [zlo (zg8 (zb5 h) (by simp; exact fun e => hd e.symm)) a]
theorem zdP {L : Lab} {n : Nw} (h : LabRep L n) {id : Int} (hh : zaF n.rules id = true) : LabRep (zdO L n id) (zbz n id) :=
  zlr h rfl (zqu h.ok (zjy n id)) (znZ h.right (zjy n id)) (zls h hh).2.2.2.2 (zpt hh)
theorem zfL {L : Lab} {n : Nw} (h : LabRep L n) (id : Int) (hh : zaF n.rules id = false) :
    PCalls Tryz.prog 39 [zP (some L), .raw (.int .i64 id)] (.tup [.raw (.pointer none), .raw (.int .i64 143)]) := by
  have hf := zeG L id (by rw [h.net]; have := h.ok.rules; omega) (by rw [h.net]; exact zcv h.right)
  rw [h.net, hh] at hf
  refine zJ Tryz.func39 rfl (N := 55) rfl rfl (by simp) (by simp [noIds]) fun σ => ?_
  (try ((first | with_reducible refine zh ?_ | with_reducible refine zm ?_ | with_reducible refine zo ?_); simp [-cellOK, zP, zap])); repeat' (first | ((first | refine zd ?_ | refine zg ?_ | refine dN (by decide +kernel) ?_ | refine dC (by decide +kernel) ?_ | refine uP (hf) ?_ | refine .inl ⟨_, .inl (hf), ?_⟩ | (refine za ?_ ?_ <;> (intro hg; simp only [hg])) | fail) <;> simp [-cellOK, zP, zap]) | refine zf ?_ | refine zc ?_ | (refine zp ?_; simp only [zq]; try simp) | (refine zl (by simp) ?_; simp) | (refine zD (by simp) (by simp [noIds]) (by repeat (first | assumption | exact Ext.refl _ | refine zv ?_ | refine Ext.setF ?_ (by first | assumption | (simp [ze, St.set, zk]; done) | exact zt (by assumption)))) ?_; simp [-cellOK, zP, zap, zS]) | (refine zb (fun hc => ?_) (fun hc => ?_) <;> try simp at hc) | fail)
theorem zfh {L : Lab} {n : Nw} (h : LabRep L n) (id : Int) (hh : zaF n.rules id = true) :
    PCalls Tryz.prog 39 [zP (some L), .raw (.int .i64 id)] (.tup [zP (some (zdO L n id)), .raw (.int .i64 0)]) := by
  have hf := zeG L id (by rw [h.net]; have := h.ok.rules; omega) (by rw [h.net]; exact zcv h.right)
  rw [h.net, hh] at hf
  obtain ⟨q1, q2, q3, q4, q5⟩ := zls h hh
  have hlt := zjx hh
  have hx := zb5 hh
  have hrep := zdP h hh
  obtain ⟨hpos, hp8⟩ := zel h.right
  have hz2 := zdp h.rep h.right
  have hz := zdp q5 hrep.right
  have hdrop := zl9 L.t (za0 n id).r q1 fun _ => q3
  have hwith := zhK L (zbz n id) (zcN L.t (za0 n id).r).1 (za0 n id).dev hrep.ok hpos hp8 hz hz2 fun d hd => ⟨_, zgn h hd, fun i hi => zlq h hrep.ok q5 i hi⟩
  have hlen40 := (zbe h.right).2
  have hLn := h.net
  have hok := h.ok
  have hne : n.rules ≠ [] := fun e => by rw [e] at hlt; simp at hlt
  have hkind : (zcN L.t (za0 n id).r).2 = 0 := by unfold zcN; rw [if_neg q2]
  rw [hkind] at hdrop
  have hll : zP (some (zdO L n id)) = zP (some (zdx L (zbz n id) (zcN L.t (za0 n id).r).1 (za0 n id).dev)) := rfl
  rw [hll]
  have hdn : zbz n id = ⟨n.t, n.rules.eraseIdx (zW n.rules id)⟩ := rfl
  have hids := zb4 (fun _ => False) (some (zdx L (zbz n id) (zcN L.t (za0 n id).r).1 (za0 n id).dev))
  generalize (zcN L.t (za0 n id).r).1 = T' at *
  generalize zdx L (zbz n id) T' (za0 n id).dev = R at *
  generalize za0 n id = r at *
  generalize zW n.rules id = p at *
  clear q1 q2 q3 q4 q5 hrep hz hz2 h hll hkind
  have hfl : AV.agg [zy L.n.t.ports false, zw L.n.t.links false, zu L.n.rules false] = z7 n flN := by rw [hLn]; rfl
  refine zJ Tryz.func39 rfl (N := 55) rfl rfl (by simp) (by simp [noIds, hids]) fun σ => ?_
  have f8 : σ.m ⟨8, σ.nx 8, 3⟩ = none := zk _ _ _
  (try ((first | with_reducible refine zh ?_ | with_reducible refine zm ?_ | with_reducible refine zo ?_); simp [-cellOK, zP, zap, hfl])); repeat' (first | ((first | refine zd ?_ | refine zg ?_ | refine dN (by decide +kernel) ?_ | refine dC (by decide +kernel) ?_ | refine uP (hf) ?_ | refine .inl ⟨_, .inl (hf), ?_⟩ | (refine za ?_ ?_ <;> (intro hg; simp only [hg])) | fail) <;> simp [-cellOK, zP, zap, hfl]) | refine zf ?_ | refine zc ?_ | (refine zp ?_; simp only [zq]; try simp) | (refine zb (fun hc => ?_) (fun hc => ?_) <;> try simp at hc) | fail)
  refine zi4 n flN hok hne fun v τ hO hE => ?_
  rcases hO with ⟨e, _⟩ | ⟨j, rfl, hj, hm, hn⟩
  · exact absurd (List.map_eq_nil_iff.1 e) hne
  rw [List.length_map]
  have hxp : n.rules[p] = r := (List.getElem?_eq_some_iff.1 hx).2
  have w1 : IntKind.i64.wrap ((p : Int) + 1) = ((p + 1 : Nat) : Int) := by rw [zU (by omega) (by omega)]; omega
  have c1 : (zy n.t.ports false).cells = [zy n.t.ports false] := rfl
  have c2 : (zw n.t.links false).cells = [zw n.t.links false] := rfl
  have g8 : τ.m ⟨8, τ.nx 8, 3⟩ = none := zk _ _ _
  have g9 : τ.m ⟨9, τ.nx 9, 7⟩ = none := zk _ _ _
  have j8 : j ≠ ⟨8, τ.nx 8, 3⟩ := fun e => by rw [e, g8] at hm; cases hm
  have j9 : j ≠ ⟨9, τ.nx 9, 7⟩ := fun e => by rw [e, g9] at hm; cases hm
  (try ((first | with_reducible refine zh ?_ | with_reducible refine zm ?_ | with_reducible refine zo ?_); simp [-cellOK, zP, zap, zz, zB, ze, c1, c2, zs, hm, hj, j8, j9, hlt, hxp, w1])); repeat' (first | ((first | refine zd ?_ | refine zg ?_ | refine dN (by decide +kernel) ?_ | refine dC (by decide +kernel) ?_ | (refine za ?_ ?_ <;> (intro hg; simp only [hg])) | fail) <;> simp [-cellOK, zP, zap, zz, zB, ze, c1, c2, zs, hm, hj, j8, j9, hlt, hxp, w1]) | refine zf ?_ | refine zc ?_ | (refine zp ?_; simp only [zq]; try simp) | (refine zb (fun hc => ?_) (fun hc => ?_) <;> try simp at hc) | fail)
  refine zjv (l := n.rules) (i := p) hlt (by omega) hj (by simp [zz, zB, ze, hm, j8, j9]) fun τ2 m1 m2 m3 => ?_
  have e8 : τ2.m ⟨8, τ.nx 8, 3⟩ = some (.buf [.agg [zy n.t.ports false, zw n.t.links false, .rs j 0 n.rules.length]]) := by
    rw [m2 _ (Ne.symm j8)]; simp [zz, zB, ze]
  have e9 : τ2.m ⟨9, τ.nx 9, 7⟩ = some (.buf [zE r]) := by
    rw [m2 _ (Ne.symm j9)]; simp [zz, zB, ze]; rfl
  have hE2 : Ext σ τ2 := by
    refine ⟨fun i o h => ?_, fun s => ?_⟩
    · have q1 : i ≠ j := fun e => by rw [e, hn] at h; cases h
      have h' := hE.m i o h
      have q8 : i ≠ ⟨8, τ.nx 8, 3⟩ := fun e => by rw [e, g8] at h'; cases h'
      have q9 : i ≠ ⟨9, τ.nx 9, 7⟩ := fun e => by rw [e, g9] at h'; cases h'
      rw [m2 i q1]; simp [zz, zB, ze, q8, q9, h']
    · have := hE.nx s
      rw [m3]
      simp only [St.set, St.new]
      repeat' split
      all_goals omega
  have s8 : σ.m ⟨8, τ.nx 8, 3⟩ = none := by
    cases h : σ.m ⟨8, τ.nx 8, 3⟩ with
    | none => rfl
    | some o => rw [hE.m _ _ h] at g8; cases g8
  have s9 : σ.m ⟨9, τ.nx 9, 7⟩ = none := by
    cases h : σ.m ⟨9, τ.nx 9, 7⟩ with
    | none => rfl
    | some o => rw [hE.m _ _ h] at g9; cases g9
  have i89 : (⟨8, τ.nx 8, 3⟩ : Id) ≠ ⟨9, τ.nx 9, 7⟩ := by simp
  clear m2 m3 hE g8 g9 f8 hm
  generalize (⟨8, τ.nx 8, 3⟩ : Id) = i8 at *
  generalize (⟨9, τ.nx 9, 7⟩ : Id) = i9 at *
  (try ((first | with_reducible refine zh ?_ | with_reducible refine zm ?_ | with_reducible refine zo ?_); simp [zP, zap, e8, e9]))
  generalize hπ : τ2.set i8 _ = π
  have p8 : π.m i8 = some (.buf [.agg [zy n.t.ports false, zw n.t.links false, .rs j 0 (n.rules.length - 1)]]) := by rw [← hπ, zbC e8]
  have p9 : π.m i9 = some (.buf [zE r]) := by rw [← hπ, zbg (Ne.symm i89)]; exact e9
  have pj : π.m j = some (.buf ((n.rules.eraseIdx p ++ [ru0]).map zE)) := by rw [← hπ, zbg j8]; exact m1
  have hE3 : Ext σ π := by rw [← hπ]; exact Ext.setF hE2 s8
  clear hπ e8 e9 m1 hE2
  generalize hA : put 55 _ _ _ = A
  have a0 : A 0 = zP (some L) := by rw [← hA]; simp [zP, zap]
  have a8 : A 8 = .rp i8 0 0 := by rw [← hA]; simp
  have a9 : A 9 = .rp i9 0 0 := by rw [← hA]; simp
  clear hA
  refine zaf i8 ?_
  refine zde j ?_
  refine zaf i9 ?_
  have g1 : ∀ (m m' : zX) l b, zF m' m (zy l b) = zy l b := fun _ _ _ _ => rfl
  have g2 : ∀ (m m' : zX) l b, zF m' m (zw l b) = zw l b := fun _ _ _ _ => rfl
  have fin : ((π.del i8).del j).m i9 = some (.buf [zE r]) := by rw [zR (Ne.symm j9), zR (Ne.symm i89)]; exact p9
  have b8 : zF (((π.del i8).del j).del i9).m ((π.del i8).del j).m (zaA ((π.del i8).del j).m (π.del i8).m (zF (π.del i8).m π.m (A 8))) = .pp (z7 (zbz n id) flN).cells 0 := by
    rw [a8, za3 (by simp [St.del]) p8 rfl]
    simp only [zaA, AV.cells, List.map_cons, List.map_nil, g1, g2]
    rw [zbI (by simp [St.del]) (by rw [zR j8]; exact pj) (by simp [List.length_eraseIdx_of_lt hlt]), hj]
    simp only [zF, hdn, zr, zu, flN, List.drop_zero]
    congr 4
    rw [← List.map_take, List.take_left' (List.length_eraseIdx_of_lt hlt)]
    rfl
  have b9 : zF (((π.del i8).del j).del i9).m ((π.del i8).del j).m (zaA ((π.del i8).del j).m (π.del i8).m (zF (π.del i8).m π.m (A 9))) = .pp (zE r).cells 0 := by
    rw [a9, zb3 (Ne.symm i89)]
    simp only [zaA]
    rw [zb3 (Ne.symm j9), za3 (by simp [St.del]) fin rfl]
  have b0 : zF (((π.del i8).del j).del i9).m ((π.del i8).del j).m (zaA ((π.del i8).del j).m (π.del i8).m (zF (π.del i8).m π.m (A 0))) = zP (some L) := by
    rw [a0]
    simp [zP, zap, zF, zaA, zy, zw, zu]
    cases L.t <;> rfl
  have hE4 : Ext σ (((π.del i8).del j).del i9) := by
    refine ⟨fun i o h => ?_, hE3.nx⟩
    rw [zR (fun e => by rw [e, s9] at h; cases h), zR (fun e => by rw [e, hn] at h; cases h), zR (fun e => by rw [e, s8] at h; cases h)]
    exact hE3.m i o h
  generalize hA' : (fun t => zF _ _ _) = A'
  have c0 : A' 0 = zP (some L) := by rw [← hA']; exact b0
  have c8 : A' 8 = .pp (z7 (zbz n id) flN).cells 0 := by rw [← hA']; exact b8
  have c9 : A' 9 = .pp (zE r).cells 0 := by rw [← hA']; exact b9
  clear hA' b0 b8 b9 fin a0 a8 a9 p8 p9 pj hE3
  generalize ((π.del i8).del j).del i9 = ρ at *
  generalize zbz n id = n' at *
  (try ((first | with_reducible refine zh ?_ | with_reducible refine zm ?_ | with_reducible refine zo ?_); simp [-cellOK, c0, c8, c9, zP, zap, zr, zC, zs, zav])); repeat' (first | ((first | refine zd ?_ | refine zg ?_ | refine dN (by decide +kernel) ?_ | refine dC (by decide +kernel) ?_ | refine uP (hdrop) ?_ | refine .inl ⟨_, .inl (hdrop), ?_⟩ | refine uP (hwith) ?_ | refine .inl ⟨_, .inl (hwith), ?_⟩ | (refine za ?_ ?_ <;> (intro hg; simp only [hg])) | fail) <;> simp [-cellOK, c0, c8, c9, zP, zap, zr, zC, zs, zav]) | refine zf ?_ | refine zc ?_ | (refine zp ?_; simp only [zq]; try simp) | (refine zl (by simp) ?_; simp) | (refine zD (by simp) (by simp [noIds]) (by repeat (first | assumption | exact Ext.refl _ | refine zv ?_ | refine Ext.setF ?_ (by first | assumption | (simp [ze, St.set, zk]; done) | exact zt (by assumption)))) ?_; simp [-cellOK, c0, c8, c9, zP, zap, zr, zC, zs, zav, zS]) | (refine zb (fun hc => ?_) (fun hc => ?_) <;> try simp at hc) | fail)
end Go.Proofs.YtanimmdlgmkmkaaGreat.Av
namespace Go.Proofs.YtanimmdlgmkmkaaGreat.Av
open Go
set_option linter.unusedSimpArgs false
set_option linter.unusedVariables false
def Srt (l : List Ru) : Prop := l.Pairwise fun r s => r.id < s.id
theorem zdq {l : List Ru} {id : Int} {k : Nat} {r : Ru} (hk : l[k]? = some r) (h : k < zW l id) : r.id < id := by
  obtain ⟨hl, rfl⟩ := List.getElem?_eq_some_iff.1 hk
  have := List.not_of_lt_findIdx (p := fun r : Ru => decide (0 ≤ cmpI r.id id)) (xs := l) (i := k) h
  simp only [decide_eq_true_eq, Int.not_le, decide_eq_false_iff_not] at this
  exact zh8.1 this
theorem zcG (l : List Ru) (id : Int) : zW l id ≤ l.length := List.findIdx_le_length
theorem zlt {l : List Ru} {id : Int} {r : Ru} (hk : l[zW l id]? = some r) : id ≤ r.id := by
  obtain ⟨hl, rfl⟩ := List.getElem?_eq_some_iff.1 hk
  have := List.findIdx_getElem (p := fun r : Ru => decide (0 ≤ cmpI r.id id)) (xs := l) (w := hl)
  simp only [decide_eq_true_eq] at this
  refine Int.not_lt.1 fun h => ?_
  have h2 := zh8.2 h
  have h3 : l[zW l id] = l[List.findIdx (fun r : Ru => decide (0 ≤ cmpI r.id id)) l]'hl := rfl
  rw [h3] at h2
  omega
theorem zlu {l : List Ru} {id : Int} {p : Nat} (hp : p ≤ l.length) (h1 : ∀ k r, k < p → l[k]? = some r → r.id < id) (h2 : ∀ r, l[p]? = some r → id ≤ r.id) : zW l id = p := by
  rcases Nat.lt_trichotomy (zW l id) p with h | h | h
  · have hx : l[zW l id]? = some (l[zW l id]'(by omega)) := List.getElem?_eq_getElem (by omega)
    have a := h1 _ _ h hx
    have b := zlt hx
    omega
  · exact h
  · have hx : l[p]? = some (l[p]'(by have := zcG l id; omega)) := List.getElem?_eq_getElem (by have := zcG l id; omega)
    have a := zdq hx h
    have b := h2 _ hx
    omega
theorem zpu {l : List Ru} {id : Int} (h : zaF l id = false) {r : Ru} (hk : l[zW l id]? = some r) : id < r.id := by
  have := zlt hk
  unfold zaF at h
  rw [hk] at h
  simp only [decide_eq_false_iff_not] at h
  omega
theorem zlv {l : List Ru} (hs : Srt l) {id : Int} (h : zaF l id = false) {k : Nat} {r : Ru} (hk : l[k]? = some r) (hp : zW l id ≤ k) : id < r.id := by
  obtain ⟨hl, hr⟩ := List.getElem?_eq_some_iff.1 hk
  have hx : l[zW l id]? = some (l[zW l id]'(by omega)) := List.getElem?_eq_getElem (by omega)
  have a := zpu h hx
  rcases Nat.eq_or_lt_of_le hp with e | e
  · subst e; rw [hx] at hk; injection hk with hk; rw [← hk]; exact a
  · have := List.pairwise_iff_getElem.1 hs _ _ (by omega) hl e
    rw [hr] at this; omega
def zb8 (l : List Ru) (r : Ru) : List Ru := l.take (zW l r.id) ++ r :: l.drop (zW l r.id)
theorem zia (l : List Ru) (r : Ru) : (zb8 l r).Perm (r :: l) := by
  have : (zb8 l r).Perm (r :: (l.take (zW l r.id) ++ l.drop (zW l r.id))) := List.perm_middle
  rwa [List.take_append_drop] at this
theorem zjz (l : List Ru) (r : Ru) : (zb8 l r).length = l.length + 1 := by rw [(zia l r).length_eq]; rfl
theorem zjA {l : List Ru} {r x : Ru} : x ∈ zb8 l r ↔ x = r ∨ x ∈ l := by rw [(zia l r).mem_iff, List.mem_cons]
theorem zn1 (l : List Ru) (r : Ru) : (zb8 l r)[zW l r.id]? = some r := by
  unfold zb8
  have := zcG l r.id
  rw [List.getElem?_append_right (by rw [List.length_take]; omega), List.length_take]
  rw [show zW l r.id - min (zW l r.id) l.length = 0 by omega]; rfl
theorem zj9 (l : List Ru) (r : Ru) : zW (zb8 l r) r.id = zW l r.id := by
  have hp := zcG l r.id
  refine zlu (by rw [zjz]; omega) (fun k x hk hx => ?_) fun x hx => ?_
  · unfold zb8 at hx
    rw [List.getElem?_append_left (by rw [List.length_take]; omega), List.getElem?_take_of_lt hk] at hx
    exact zdq hx hk
  · rw [zn1] at hx; injection hx with hx; rw [hx]; exact Int.le_refl _
theorem zlw (l : List Ru) (r : Ru) : zaF (zb8 l r) r.id = true := by
  unfold zaF
  rw [zj9, zn1]; simp
theorem zn2 (l : List Ru) (r : Ru) : (zb8 l r).eraseIdx (zW l r.id) = l := by
  have hp := zcG l r.id
  unfold zb8
  rw [List.eraseIdx_append_of_length_le (by rw [List.length_take]; omega), List.length_take, show zW l r.id - min (zW l r.id) l.length = 0 by omega]
  simp
theorem zm9 {l : List Ru} {r : Ru} {q : Ru → Bool} (h : q r = false) : (zb8 l r).filter q = l.filter q := by
  unfold zb8
  rw [List.filter_append, List.filter_cons, h, if_neg (by simp), ← List.filter_append, List.take_append_drop]
theorem zpv {l : List Ru} (hs : Srt l) {id : Int} {x : Ru} (hx : l[zW l id]? = some x) (hid : x.id = id) : zb8 (l.eraseIdx (zW l id)) x = l := by
  obtain ⟨hl, hv⟩ := List.getElem?_eq_some_iff.1 hx
  have hle : (l.eraseIdx (zW l id)).length = l.length - 1 := List.length_eraseIdx_of_lt hl
  have hpl : zW (l.eraseIdx (zW l id)) x.id = zW l id := by
    refine zlu (by omega) (fun k r hk hr => ?_) fun r hr => ?_
    · rw [List.getElem?_eraseIdx_of_lt hk] at hr
      have := zdq hr hk
      omega
    · rw [List.getElem?_eraseIdx_of_ge (Nat.le_refl _)] at hr
      obtain ⟨h1, h2⟩ := List.getElem?_eq_some_iff.1 hr
      have := List.pairwise_iff_getElem.1 hs _ _ hl h1 (by omega)
      rw [hv, h2] at this; omega
  unfold zb8
  rw [hpl, List.eraseIdx_eq_take_drop_succ]
  rw [List.take_left' (by rw [List.length_take]; omega), List.drop_left' (by rw [List.length_take]; omega), ← hv, ← List.drop_eq_getElem_cons hl, List.take_append_drop]
structure RuOK (r : Ru) : Prop where
  rg : RgOK r.r
  id : -9223372036854775808 ≤ r.id ∧ r.id < 9223372036854775808
def zbl (n : Nw) (r : Ru) : Nw := ⟨n.t, zb8 n.rules r⟩
def zfM (L : Lab) (n : Nw) (r : Ru) : Lab := zdx L (zbl n r) (zcE L.t r.r).1 r.dev
theorem zlx {n : Nw} (h : NwOK n) (hl : n.rules.length ≤ 40) {r : Ru} (hr : RuOK r) : NwOK (zbl n r) where
  rg := fun x hx => by rcases zjA.1 hx with rfl | hx <;> first | exact hr.rg | exact h.rg x hx
  ports := h.ports
  links := h.links
  rules := by show (zb8 n.rules r).length < _; rw [zjz]; omega
  id := fun x hx => by rcases zjA.1 hx with rfl | hx <;> first | exact hr.id | exact h.id x hx
theorem zmw {L : Lab} {n : Nw} (h : LabRep L n) {r : Ru} (hr : RuOK r) (hR : zaq (zbl n r) = true) :
    r.r.lo ≤ r.r.hi ∧ WithOK (L.t.getD zL) r.r 1 ∧ (zcE L.t r.r).1 = some ((L.t.getD zL).with_ r.r 1) ∧ TabRep ((zcE L.t r.r).1.getD zL) (zaO (zbl n r)) := by
  have hrr := zbe hR
  have hle : r.r.lo ≤ r.r.hi := zmt (hrr.1 r (zjA.2 (.inl rfl)))
  have h40 := (zbe h.right).2
  obtain ⟨w1, w2⟩ := zjp h.rep hr.rg (by unfold zaO; rw [List.length_map]; omega)
  have hn := h.rep.n
  have hl : (zaO n).length = n.rules.length := by unfold zaO; simp
  have e : (zcE L.t r.r).1 = some ((L.t.getD zL).with_ r.r 1) := by
    unfold zcE
    rw [if_neg (by omega), if_neg (by omega)]
  refine ⟨hle, w1, e, ?_⟩
  rw [e]
  have hp : (r.r :: zaO n).Perm (zaO (zbl n r)) := ((zia n.rules r).map fun x : Ru => x.r).symm
  exact w2.perm hp
theorem zeH {L : Lab} {n : Nw} (h : LabRep L n) {r : Ru} (hr : RuOK r) (hR : zaq (zbl n r) = true) : LabRep (zfM L n r) (zbl n r) :=
  zlr h rfl (zlx h.ok (zbe h.right).2 hr) hR (zmw h hr hR).2.2.2 fun d hd a => by
    unfold atI
    rw [show zbl n r = ⟨n.t, zb8 n.rules r⟩ from rfl, zlo (zm9 (by simp; exact fun e => hd e.symm)) a]
theorem zpw (n : Nw) (r : Ru) : zbz (zbl n r) r.id = n := by
  unfold zbz zbl
  simp only
  rw [zj9, zn2]
theorem zib {n : Nw} (hs : Srt n.rules) {id : Int} (h : zaF n.rules id = true) : zbl (zbz n id) (za0 n id) = n ∧ (za0 n id).id = id := by
  have hx := zb5 h
  have hid : (za0 n id).id = id := by
    unfold zaF at h
    rw [hx] at h
    simpa using h
  refine ⟨?_, hid⟩
  unfold zbl zbz
  simp only
  rw [zpv hs hx hid]
theorem zpx {n : Nw} (hs : Srt n.rules) {id : Int} (h : zaF n.rules id = true) : zaF (zbz n id).rules id = false := by
  obtain ⟨e, hid⟩ := zib hs h
  have hx := zb5 h
  obtain ⟨hl, hv⟩ := List.getElem?_eq_some_iff.1 hx
  unfold zaF
  cases hq : (zbz n id).rules[zW (zbz n id).rules id]? with
  | none => rfl
  | some q =>
    have hm : q ∈ (zbz n id).rules := List.mem_of_getElem? hq
    have hne : q.id ≠ id := fun he => by
      unfold zbz at hm
      simp only [List.mem_eraseIdx_iff_getElem] at hm
      obtain ⟨j, hj, hji, rfl⟩ := hm
      rcases Nat.lt_trichotomy j (zW n.rules id) with h1 | h1 | h1
      · have := List.pairwise_iff_getElem.1 hs _ _ hj hl h1
        rw [hv] at this; omega
      · exact hji h1
      · have := List.pairwise_iff_getElem.1 hs _ _ hl hj h1
        rw [hv] at this; omega
    simpa using hne
end Go.Proofs.YtanimmdlgmkmkaaGreat.Av
namespace Go.Proofs.YtanimmdlgmkmkaaGreat.Av.Zn
open Go
set_option linter.unusedSimpArgs false
set_option linter.unusedVariables false
set_option maxRecDepth 100000
attribute [ext] Rg
def zAV (z : List Rg) (full : Bool) : AV := .sl 2 (z.map zau) full
end Go.Proofs.YtanimmdlgmkmkaaGreat.Av.Zn
namespace Go.Proofs.YtanimmdlgmkmkaaGreat.Av.Zn
open Go
set_option linter.unusedSimpArgs false
set_option linter.unusedVariables false
set_option maxRecDepth 100000
set_option pp.maxSteps 300
def _root_.Go.Proofs.YtanimmdlgmkmkaaGreat.Av.Rg.In (r : Rg) : Prop := 0 ≤ r.lo ∧ r.lo < 4294967296 ∧ 0 ≤ r.hi ∧ r.hi < 4294967296
def InZ (z : List Rg) : Prop := ∀ r ∈ z, r.In
def ztr (z : List Rg) (i : Nat) : Bool :=
  match z[i]? with
  | some r => decide (r.lo ≤ r.hi) && (i == 0 || match z[i - 1]? with | some p => decide (p.hi + 1 < r.lo) | none => true)
  | none => true
def zwb (z : List Rg) : Bool := (List.range z.length).all (ztr z)
end Go.Proofs.YtanimmdlgmkmkaaGreat.Av.Zn
namespace Go.Proofs.YtanimmdlgmkmkaaGreat.Av.Zn
open Go
set_option linter.unusedSimpArgs false
set_option linter.unusedVariables false
set_option maxRecDepth 100000
set_option pp.maxSteps 300
def zwc (z : List Rg) (i : Nat) : Int := match i with | 0 => -2 | k + 1 => match z[k]? with | some r => r.hi | none => -2
def zwd (z : List Rg) : AV := match z with | [] => .tup [.raw (.int .u32 0), .raw (.bool false)] | r :: _ => .tup [.raw (.int .u32 r.lo), .raw (.bool true)]
def hasB (z : List Rg) (a : Int) : Bool := z.any fun r => decide (r.lo ≤ a) && decide (a ≤ r.hi)
def zwe (z : List Rg) : Int := (z.map fun r => r.hi - r.lo + 1).sum
end Go.Proofs.YtanimmdlgmkmkaaGreat.Av.Zn
namespace Go.Proofs.YtanimmdlgmkmkaaGreat.Av.Zn
open Go
set_option linter.unusedSimpArgs false
set_option linter.unusedVariables false
set_option maxRecDepth 100000
set_option pp.maxSteps 300
def cmpI (a b : Int) : Int := if a < b then -1 else if b < a then 1 else 0
def firstGe (c : Rg → Int) (z : List Rg) : Nat := z.findIdx fun r => decide (0 ≤ c r)
end Go.Proofs.YtanimmdlgmkmkaaGreat.Av.Zn
namespace Go.Proofs.YtanimmdlgmkmkaaGreat.Av.Zn
open Go
set_option linter.unusedSimpArgs false
set_option linter.unusedVariables false
set_option maxRecDepth 100000
set_option pp.maxSteps 300
structure But (i : Id) (σ τ : St) : Prop where
  m : ∀ l o, l ≠ i → σ.m l = some o → τ.m l = some o
  nx : ∀ s, σ.nx s ≤ τ.nx s
end Go.Proofs.YtanimmdlgmkmkaaGreat.Av.Zn
namespace Go.Proofs.YtanimmdlgmkmkaaGreat.Av.Zn
open Go
set_option linter.unusedSimpArgs false
set_option linter.unusedVariables false
set_option maxRecDepth 100000
end Go.Proofs.YtanimmdlgmkmkaaGreat.Av.Zn
namespace Go.Proofs.YtanimmdlgmkmkaaGreat.Av.Zn
set_option linter.unusedSimpArgs false
set_option linter.unusedVariables false
def MZ (z : List Rg) (a : Int) : Prop := ∃ r ∈ z, r.lo ≤ a ∧ a ≤ r.hi
theorem zly {a : Int} : ¬ MZ [] a := fun ⟨_, h, _⟩ => by cases h
theorem zbM {r : Rg} {z : List Rg} {a : Int} : MZ (r :: z) a ↔ (r.lo ≤ a ∧ a ≤ r.hi) ∨ MZ z a := by
  constructor
  · rintro ⟨s, h, k⟩
    rcases List.mem_cons.1 h with rfl | h
    · exact .inl k
    · exact .inr ⟨s, h, k⟩
  · rintro (h | ⟨s, h, k⟩)
    · exact ⟨r, by simp, h⟩
    · exact ⟨s, by simp [h], k⟩
def RZ : Int → List Rg → Prop
  | _, [] => True
  | b, r :: z => b < r.lo ∧ r.lo ≤ r.hi ∧ RZ (r.hi + 1) z
theorem RZ.gt : ∀ {z : List Rg} {b a : Int}, RZ b z → MZ z a → b < a
  | [], _, _, _, h => absurd h zly
  | r :: z, b, a, k, h => by
    rcases zbM.1 h with h | h
    · have := k.1; omega
    · have := RZ.gt k.2.2 h; have := k.1; have := k.2.1; omega
theorem RZ.ext : ∀ {x y : List Rg} {b c : Int}, RZ b x → RZ c y → (∀ a, MZ x a ↔ MZ y a) → x = y
  | [], [], _, _, _, _, _ => rfl
  | [], s :: y, _, _, _, k, h => absurd ((h s.lo).2 (zbM.2 (.inl ⟨Int.le_refl _, k.2.1⟩))) zly
  | r :: x, [], _, _, k, _, h => absurd ((h r.lo).1 (zbM.2 (.inl ⟨Int.le_refl _, k.2.1⟩))) zly
  | r :: x, s :: y, b, c, k, l, h => by
    obtain ⟨k1, k2, k3⟩ := k
    obtain ⟨l1, l2, l3⟩ := l
    have gx : ∀ {a}, MZ x a → r.hi + 1 < a := fun h => RZ.gt k3 h
    have gy : ∀ {a}, MZ y a → s.hi + 1 < a := fun h => RZ.gt l3 h
    have hlo : r.lo = s.lo := by
      have h1 := (h r.lo).1 (zbM.2 (.inl ⟨Int.le_refl _, k2⟩))
      have h2 := (h s.lo).2 (zbM.2 (.inl ⟨Int.le_refl _, l2⟩))
      rcases zbM.1 h1 with h1 | h1 <;> rcases zbM.1 h2 with h2 | h2
      · omega
      · have := gx h2; omega
      · have := gy h1; omega
      · have := gx h2; have := gy h1; omega
    have hhi : r.hi = s.hi := by
      rcases Int.lt_trichotomy r.hi s.hi with hl | hl | hl
      · have h1 := (h (r.hi + 1)).2 (zbM.2 (.inl ⟨by omega, by omega⟩))
        rcases zbM.1 h1 with h1 | h1
        · omega
        · have := gx h1; omega
      · exact hl
      · have h1 := (h (s.hi + 1)).1 (zbM.2 (.inl ⟨by omega, by omega⟩))
        rcases zbM.1 h1 with h1 | h1
        · omega
        · have := gy h1; omega
    have he : r = s := Rg.ext hlo hhi
    subst he
    congr 1
    refine RZ.ext k3 l3 fun a => ⟨fun ha => ?_, fun ha => ?_⟩
    · rcases zbM.1 ((h a).1 (zbM.2 (.inr ha))) with h1 | h1
      · have := gx ha; omega
      · exact h1
    · rcases zbM.1 ((h a).2 (zbM.2 (.inr ha))) with h1 | h1
      · have := gy ha; omega
      · exact h1
theorem RZ.at : ∀ {z : List Rg} {b : Int}, RZ b z → ∀ i r, z[i]? = some r → b < r.lo ∧ r.lo ≤ r.hi ∧ ∀ s, z[i + 1]? = some s → r.hi + 1 < s.lo
  | [], _, _, _, _, h => by simp at h
  | r :: z, b, k, 0, s, h => by
    simp at h; subst h
    refine ⟨k.1, k.2.1, fun s hs => ?_⟩
    cases z with
    | nil => simp at hs
    | cons t z => simp at hs; subst hs; exact k.2.2.1
  | r :: z, b, k, i + 1, s, h => by
    have := RZ.at k.2.2 i s (by simpa using h)
    refine ⟨by have := k.1; have := k.2.1; omega, this.2.1, fun t ht => this.2.2 t (by simpa using ht)⟩
def mg : Rg → List Rg → List Rg
  | r, [] => [r]
  | r, x :: l => if x.lo ≤ r.hi + 1 then mg ⟨r.lo, max r.hi x.hi⟩ l else r :: mg x l
def zwf : List Rg → List Rg
  | [] => []
  | r :: l => mg r l
def zqv : List Rg → List Rg → List Rg
  | r :: x, s :: y => (if max r.lo s.lo ≤ min r.hi s.hi then [⟨max r.lo s.lo, min r.hi s.hi⟩] else []) ++ if r.hi < s.hi then zqv x (s :: y) else zqv (r :: x) y
  | _, _ => []
termination_by x y => x.length + y.length
def zts : Int → List Rg → List Rg
  | b, [] => if b ≤ 4294967295 then [⟨b, 4294967295⟩] else []
  | b, r :: z => (if b < r.lo then [⟨b, r.lo - 1⟩] else []) ++ zts (r.hi + 1) z
end Go.Proofs.YtanimmdlgmkmkaaGreat.Av.Zn
namespace Go.Proofs.YtanimmdlgmkmkaaGreat.Av
open Go
set_option linter.unusedSimpArgs false
set_option linter.unusedVariables false
set_option maxRecDepth 100000
set_option maxHeartbeats 4000000
set_option pp.maxSteps 600
theorem zi5 : zaq zbr = true := by decide +kernel
theorem zka : zaF zbr.rules 5 = true := by decide +kernel
theorem zpy : zgm (zbj zbr) 2 1 = some (-3) := by decide +kernel
theorem zpz : zgm (zdO (zbj zbr) zbr 5) 2 1 = some (-1) := by decide +kernel
theorem zoT : zaS (zbj zbr).t 1 = some ⟨20, 24⟩ := by decide +kernel
theorem zlz : ((zbj zbr).t.getD zL).b.sz = 7 := by decide +kernel
theorem zoU : ((zdO (zbj zbr) zbr 5).t.getD zL).b.sz = 5 := by decide +kernel
theorem zc7 {L : Lab} {n : Nw} (h : LabRep L n) : L.rows.length < 2 ^ 60 ∧ ∀ r ∈ L.rows, r.length < 2 ^ 60 := by
  have h1 := (zel h.right).2
  have h2 := zdp h.rep h.right
  rw [zdw h.rep] at h2
  refine ⟨by rw [h.rows]; simp; omega, fun r hr => ?_⟩
  rw [h.rows] at hr
  obtain ⟨d, -, rfl⟩ := List.mem_map.1 hr
  unfold zfv
  rw [List.length_map, zcF]; omega
theorem zgB : PCalls Tryz.prog 23 [] (.raw (.bool true)) := by
  have hn := znV
  have r1 := zg7 zmu zi5
  have r2 := zdP r1 zka
  have hof := zh7 zbr flN zmu
  have e0 : ofL zbr = (some (zbj zbr), 0) := by unfold ofL; rw [zi5]; rfl
  rw [e0] at hof
  have hd := zfh r1 5 zka
  have ha1 := zfu (zbj zbr) 2 1 (zc7 r1).1 (zc7 r1).2
  have ha2 := zfu (zdO (zbj zbr) zbr 5) 2 1 (zc7 r2).1 (zc7 r2).2
  have hat := zgz (some (zbj zbr)) 1 fun M h => by injection h with h; rw [← h, zlz]; decide
  have hl1 := zd1 (some (zbj zbr))
  have hl2 := zd1 (some (zdO (zbj zbr) zbr 5))
  rw [zpy] at ha1
  rw [zpz] at ha2
  simp only [Option.bind_some, zoT, Option.getD_some, Option.isSome_some] at ha1 ha2 hat
  simp only [zlz] at hl1
  simp only [zoU] at hl2
  have hrg : zau ⟨20, 24⟩ = .agg [.raw (.int .u32 20), .raw (.int .u32 24)] := rfl
  rw [hrg] at hat
  have hids1 := zb4 (fun _ => False) (some (zbj zbr))
  have hids2 := zb4 (fun _ => False) (some (zdO (zbj zbr) zbr 5))
  obtain ⟨L, hL⟩ : ∃ L, zbj zbr = L := ⟨_, rfl⟩
  obtain ⟨M, hM⟩ : ∃ M, zdO (zbj zbr) zbr 5 = M := ⟨_, rfl⟩
  rw [hM] at hd ha2 hl2 hids2
  rw [hL] at hof hd ha1 hat hl1 hids1
  obtain ⟨cL, hcL⟩ : ∃ c, zap L = c := ⟨_, rfl⟩
  have e1 : zP (some L) = .pp cL 0 := by rw [← hcL]; rfl
  rw [e1] at hof hd ha1 hat hl1 hids1
  clear r1 r2 e0 hL hM e1 hcL
  generalize zbr = N at hn hof
  refine zJ Tryz.func23 rfl (N := 76) rfl rfl (by simp) (by simp [noIds]) fun σ => ?_
  (try ((first | with_reducible refine zh ?_ | with_reducible refine zm ?_ | with_reducible refine zo ?_); simp [-cellOK, zr, zC, zz, zB, ze])); repeat' (first | ((first | refine zd ?_ | refine zg ?_ | refine dN (by decide +kernel) ?_ | refine dC (by decide +kernel) ?_ | refine uP (hn) ?_ | refine .inl ⟨_, .inl (hn), ?_⟩ | refine uP (hof) ?_ | refine .inl ⟨_, .inl (hof), ?_⟩ | refine uP (hd) ?_ | refine .inl ⟨_, .inl (hd), ?_⟩ | refine uP (ha1) ?_ | refine .inl ⟨_, .inl (ha1), ?_⟩ | refine uP (ha2) ?_ | refine .inl ⟨_, .inl (ha2), ?_⟩ | refine uP (hat) ?_ | refine .inl ⟨_, .inl (hat), ?_⟩ | refine uP (hl1) ?_ | refine .inl ⟨_, .inl (hl1), ?_⟩ | refine uP (hl2) ?_ | refine .inl ⟨_, .inl (hl2), ?_⟩ | (refine za ?_ ?_ <;> (intro hg; simp only [hg])) | fail) <;> simp [-cellOK, zr, zC, zz, zB, ze]) | refine zf ?_ | refine zc ?_ | (refine zp ?_; simp only [zq]; try simp) | (refine zl (by simp) ?_; simp) | (refine zD (by simp) (by simp [noIds]) (by repeat (first | assumption | exact Ext.refl _ | refine zv ?_ | refine Ext.setF ?_ (by first | assumption | (simp [ze, St.set, zk]; done) | exact zt (by assumption)))) ?_; simp [-cellOK, zr, zC, zz, zB, ze, zS]) | (refine zb (fun hc => ?_) (fun hc => ?_) <;> try simp at hc) | fail)
end Go.Proofs.YtanimmdlgmkmkaaGreat.Av
namespace Go.Proofs.YtanimmdlgmkmkaaGreat.Av
open Go
set_option linter.unusedSimpArgs false
set_option linter.unusedVariables false
set_option maxRecDepth 100000
set_option maxHeartbeats 4000000
set_option pp.maxSteps 600
def zxP : AV := .agg [.sl 0 [] true, .sl 0 [] true, .sl 0 [] true]
theorem zlA (L : Lab) (hn : NwOK L.n) : PCalls Tryz.prog 79 [zP (some L)] (z7 L.n flN) := by
  have h := zj6 L.n flN hn
  have hfl : AV.agg [zy L.n.t.ports false, zw L.n.t.links false, zu L.n.rules false] = z7 L.n flN := rfl
  have hnp : setPart (AV.agg [.sl 0 [] true, .sl 0 [] true, .sl 0 [] true]) 0 [zy L.n.t.ports flN.p, zw L.n.t.links flN.l, zu L.n.rules flN.r] = z7 L.n flN := rfl
  refine zJ Tryz.func79 rfl (N := 11) rfl rfl (by simp) (by simp [noIds]) fun σ => ?_
  (try ((first | with_reducible refine zh ?_ | with_reducible refine zm ?_ | with_reducible refine zo ?_); simp [-cellOK, zP, zap, hfl, zr, zC, hnp, zz, zB, ze])); repeat' (first | ((first | refine zd ?_ | refine zg ?_ | refine dN (by decide +kernel) ?_ | refine dC (by decide +kernel) ?_ | refine uP (h) ?_ | refine .inl ⟨_, .inl (h), ?_⟩ | (refine za ?_ ?_ <;> (intro hg; simp only [hg])) | fail) <;> simp [-cellOK, zP, zap, hfl, zr, zC, hnp, zz, zB, ze]) | refine zf ?_ | refine zc ?_ | (refine zp ?_; simp only [zq]; try simp) | (refine zl (by simp) ?_; simp) | (refine zD (by simp) (by simp [noIds]) (by repeat (first | assumption | exact Ext.refl _ | refine zv ?_ | refine Ext.setF ?_ (by first | assumption | (simp [ze, St.set, zk]; done) | exact zt (by assumption)))) ?_; simp [-cellOK, zP, zap, hfl, zr, zC, hnp, zz, zB, ze, zS]) | (refine zb (fun hc => ?_) (fun hc => ?_) <;> try simp at hc) | fail)
end Go.Proofs.YtanimmdlgmkmkaaGreat.Av
