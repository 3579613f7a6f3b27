/- Flows: FlowTells, FlowDiffers, FlowCut, FlowFares. Part 10 of 14: AvF4, AvF5, AvL20, AvL21, AvL22, AvQ1, AvQ4, AvF6, AvF7, AvQ0, AvF8, AvF9, AvFA, AvFB, AvFC, AvFD, AvFE, AvFF, AvFG, AvFH. -/
import Derived.Test.YtpboabpapgimoaaGreatFl7
import Derived.Test.YtpboabpapgimoaaGreatFl8
import Derived.Test.YtpboabpapgimoaaGreatFl9
namespace Go.Proofs.YtpboabpapgimoaaGreat.Av
open Go
set_option linter.unusedSimpArgs false
set_option linter.unusedVariables false
set_option maxRecDepth 100000
set_option maxHeartbeats 4000000
set_option pp.maxSteps 600
theorem zkx {σ τ : St} (h : Ext σ τ) {i : Id} (k : τ.m i = none) : σ.m i = none := by
  cases hi : σ.m i with
  | none => rfl
  | some o => rw [h.m i o hi] at k; cases k
theorem Ext.delZ {σ τ : St} {i : Id} (h : Ext σ τ) (hi : σ.m i = none) : Ext σ (τ.del i) :=
  ⟨fun j o hj => by rw [zU (fun e => by rw [e, hi] at hj; cases hj)]; exact h.m j o hj, h.nx⟩
@[simp] theorem zvd (K : Id → Prop) (z : List Rg) (f : Bool) : (Zn.zAV z f).ids K := zh5 K z f
def zbr : Rg := ⟨0, 4294967295⟩
def zN (l : List Nw) : List Rg := zba l zbr
theorem zly {n : Nw} {f : Fl} {a x : Int} {g : FuncId} {caps : List AV} {b : Bool} (hn : NwOK n) (hg : PCalls Tryz.prog g (zaX (zk n a x).1 false :: caps) (.raw (.bool b))) :
    PCalls Tryz.prog 70 [.raw (.int .u32 x), .pp (zR n f).cells 0, .pp [.raw (.int .i64 a)] 0, .pp [.fn (.func g) [] caps] 0] (.raw (.bool b)) := by
  have ht := zcc n f a x hn
  generalize (zk n a x).1 = T at *
  refine zE Tryz.func70 rfl (N := 18) rfl rfl (by simp) (by simp [noIds]) fun σ => ?_
  have FF := fI @ze (fI @zw (fI @zX (fI @zau (fI @zbz (fI @zt (fI @zD @za)))))); exact gxA
theorem zlz (t : Tk) (f : Bool) (b : Int) (hl : t.path.length < 2 ^ 60) : PCalls Tryz.prog 38 [zaX t f, .pp [.raw (.int .i64 b)] 0] (.raw (.bool (zbl t b))) := by
  have hc := zgj t.path f b hl
  unfold zbl
  generalize t.path.any _ = bb at *
  refine zE Tryz.func38 rfl (N := 8) rfl rfl (by simp) (by simp [noIds]) fun σ => ?_
  have FF := fI @zX (fI @zau (fI @zt (fI @zD @za))); exact gxA
theorem zjR (t : Tk) (f : Bool) (b : Int) : PCalls Tryz.prog 41 [zaX t f, .pp [.raw (.int .i64 b)] 0] (.raw (.bool (za4 t b))) := by
  unfold za4
  refine zE Tryz.func41 rfl (N := 14) rfl rfl (by simp) (by simp [noIds]) fun σ => ?_
  by_cases h3 : t.out = 3
  · have h3' := eq_true h3
    have FF := fI @zX (fI @zau (fI @h3' (fI @zt (fI @zD @za)))); exact gxA
  · have h3' := eq_false h3
    have FF := fI @zX (fI @zau (fI @h3' (fI @zt (fI @zD @za)))); exact gxA
structure PartsOK (P : List Rg) : Prop where
  len : P.length < 256
  inz : Zn.InZ P
  ord : ∀ r ∈ P, r.lo ≤ r.hi
structure PartsW (P : List Rg) : Prop where
  len : P.length < 2 ^ 38
  inz : Zn.InZ P
  ord : ∀ r ∈ P, r.lo ≤ r.hi
theorem PartsOK.w {P : List Rg} (h : PartsOK P) : PartsW P := ⟨by have := h.len; omega, h.inz, h.ord⟩
def zaq (P : List Rg) (w : Int → Bool) : List Rg := Zn.refOfZ (P.filter fun r => w r.lo)
def zbm (n : Nw) (ds : List Int) (z : List Rg) : AV := if ds.any (zas n) = true then .tup [.sl 0 [] true, .raw (.int .i64 91)] else .tup [Zn.zAV z false, .raw (.int .i64 0)]
theorem zdS (n : Nw) (ds : List Int) (z : List Rg) : noIds (zbm n ds z) := by
  unfold zbm
  split
  · simp [noIds]
  · have := zh5 (fun _ => False) z false
    simpa [noIds, Zn.zAV, z9] using this
theorem zhN {n : Nw} {f : Fl} {a b : Int} {g : FuncId} {caps : List AV} {w : Int → Bool} (hn : NwOK n) (hP : PartsW (zN [n])) (hids : z7 (fun _ => False) caps)
    (hg : ∀ x, PCalls Tryz.prog g (zaX (zk n a x).1 false :: caps) (.raw (.bool (w x)))) :
    PCalls Tryz.prog 37 [zR n f, .raw (.int .i64 a), .raw (.int .i64 b), .fn (.func g) [] caps] (zbm n [a, b] (zaq (zN [n]) w)) := by
  have hhas := ze9 n f [a, b] false (by simp)
  have hz := zdS n [a, b] (zaq (zN [n]) w)
  refine zE Tryz.func37 rfl (N := 28) rfl rfl (by simp) hz fun σ => ?_
  repeat (refine zf ?_)
  refine zl ?_
  simp [-cellOK, ze]
  generalize hA0 : put 28 _ _ _ = A0
  have d2 : A0 2 = .raw (.int .i64 b) := by rw [← hA0]; simp [za]
  have d4 : A0 4 = .rp ⟨4, σ.nx 4, 3⟩ 0 0 := by rw [← hA0]; simp [za]
  have d5 : A0 5 = .rp ⟨5, σ.nx 5, 1⟩ 0 0 := by rw [← hA0]; simp [za]
  have d7 : A0 7 = .rp ⟨7, σ.nx 7, 1⟩ 0 0 := by rw [← hA0]; simp [za]
  clear hA0
  refine z8 ⟨4, σ.nx 4, 3⟩ ?_
  refine z8 ⟨5, σ.nx 5, 1⟩ ?_
  refine z8 ⟨7, σ.nx 7, 1⟩ ?_
  generalize hτ : St.del _ _ = τ
  generalize hA : (fun t => zr _ _ _) = A
  have a2 : A 2 = .raw (.int .i64 b) := by rw [← hA, ← hτ]; simp [zr, d2]
  have a4 : A 4 = .pp (zR n f).cells 0 := by rw [← hA, ← hτ]; simp [zr, St.new, St.del, ze, d4]
  have a5 : A 5 = .pp [.raw (.int .i64 a)] 0 := by rw [← hA, ← hτ]; simp [zr, St.new, St.del, ze, d5]
  have a7 : A 7 = .pp [.fn (.func g) [] caps] 0 := by rw [← hA, ← hτ]; simp [zr, St.new, St.del, ze, d7]
  have hE : Ext σ τ := by
    rw [← hτ]
    refine ⟨fun i o h => ?_, fun s => ?_⟩
    · have q1 : i ≠ ⟨4, σ.nx 4, 3⟩ := fun e => by rw [e, zc] at h; cases h
      have q2 : i ≠ ⟨5, σ.nx 5, 1⟩ := fun e => by rw [e, zc] at h; cases h
      have q3 : i ≠ ⟨7, σ.nx 7, 1⟩ := fun e => by rw [e, zc] at h; cases h
      simp [St.del, St.new, q1, q2, q3, h]
    · simp only [St.del, St.new]
      repeat' split
      all_goals omega
  clear hτ hA d2 d4 d5 d7
  have hll : ∀ x y : Int, AV.sl 1 [.raw (.int .i64 x), .raw (.int .i64 y)] false = zh [x, y] false := fun _ _ => rfl
  have FF := fI @a2 (fI @a4 (fI @a5 (fI @a7 (fI @ze (fI @zw (fI @zt @za)))))); refine gxC ?_; clear FF
  refine PCalls.useLent (n := 1) (es := [.raw (.int .i64 a), .raw (.int .i64 b)]) (σ0 := σ) hhas rfl (OwnL.of rfl (by simp) (zI hE) (by simp)) ?_
  cases hb : [a, b].any (zas n) with
  | true =>
    have hz : zbm n [a, b] (zaq (zN [n]) w) = .tup [.sl 0 [] true, .raw (.int .i64 91)] := if_pos hb
    rw [hz]
    have FF := fI @a2 (fI @a4 (fI @a5 @a7)); exact gxA
  | false =>
    have hz : zbm n [a, b] (zaq (zN [n]) w) = .tup [Zn.zAV (zaq (zN [n]) w) false, .raw (.int .i64 0)] := if_neg (by simp [hb])
    rw [hz]
    refine goD ?_
    iterate 2 (first | ((first | refine zm ?_ | refine zl ?_ | refine dN (by decide +kernel) ?_ | refine dC (by decide +kernel) ?_ | (refine zb ?_ ?_ <;> (intro hg; simp only [hg])) | fail) <;> simp [-cellOK, a2, a4, a5, a7]) | refine zf ?_ | refine zg ?_ | (refine zF ?_; simp only [zG]; try simp) | (refine zd (fun hc => ?_) (fun hc => ?_) <;> try simp at hc) | fail)
    refine zf ?_
    refine zbF (fun o => o.dst == some 21) zc8 (by decide +kernel) ?_
    simp [a2, a4, a5, a7, ze, zw, zt, za]
    refine .inl ⟨_, .inl zf2, ?_⟩
    simp [a2, a4, a5, a7, ze, zw, zt, za]
    refine ACalls.freeze ⟨20, τ.nx 20, 3⟩ ?_
    have f20 : σ.m ⟨20, τ.nx 20, 3⟩ = none := zI hE
    have hmap : List.map (zr (St.del ((τ.new 15 1 (.buf [.raw (.int .i64 a), .raw (.int .i64 b)])).new 20 3 (.buf [zR n f])) ⟨20, τ.nx 20, 3⟩).m ((τ.new 15 1 (.buf [.raw (.int .i64 a), .raw (.int .i64 b)])).new 20 3 (.buf [zR n f])).m) [.rs ⟨20, τ.nx 20, 3⟩ 0 1, zp ⟨0, 4294967295⟩] = [zaN [(n, f)] false, zp zbr] := by
      rw [List.map_cons, List.map_cons, List.map_nil, zbf (es := [zR n f]) (by simp [St.del]) (by simp [zt, za]) (by simp)]
      rfl
    rw [hmap]
    have hE2 : Ext σ (St.del ((τ.new 15 1 (.buf [.raw (.int .i64 a), .raw (.int .i64 b)])).new 20 3 (.buf [zR n f])) ⟨20, τ.nx 20, 3⟩) := Ext.delZ (zK (zK hE)) f20
    generalize St.del _ _ = ρ at *
    clear hmap f20 hE
    refine zjI [(n, f)] false zbr ⟨by decide, by decide, by decide, by decide⟩ (by simp [hn]) (by simp) fun v τ2 hO hE3 => ?_
    have hO2 : OwnL σ τ2 2 v ((zN [n]).map zp) := by
      rcases hO with h | ⟨j, h1, h2, h3, h4⟩
      · exact .inl h
      · exact .inr ⟨j, h1, h2, h3, zkx hE2 h4⟩
    have hE4 := hE2.trans hE3
    have hce : (if zbr.hi < zbr.lo then (31 : Int) else 0) = 0 := by decide
    rw [hce]
    clear hO hE2 hE3
    have FF := fI @a2 (fI @a4 (fI @a5 @a7)); refine gxC ?_; clear FF
    refine ziu (w := w) hO2 hE4 hP.len hP.inz hP.ord (fun r hr => zly hn (hg r.lo)) fun τ3 hE5 => ?_
    (try ((first | with_reducible refine zs ?_ | with_reducible refine zx ?_ | with_reducible refine zy ?_); simp [-cellOK, Zn.zAV])); repeat' (first | ((first | refine zm ?_ | refine zl ?_ | refine dN (by decide +kernel) ?_ | refine dC (by decide +kernel) ?_ | (refine zb ?_ ?_ <;> (intro hg; simp only [hg])) | fail) <;> simp [-cellOK, Zn.zAV]) | refine zf ?_ | refine zg ?_ | (refine zF ?_; simp only [zG]; try simp) | (refine zq (by simp) ?_; simp) | (refine zam (by simp) (by simp [noIds]) (by repeat (first | assumption | exact Ext.refl _ | refine zK ?_ | refine Ext.setF ?_ (by first | assumption | (simp [za, St.set, zc]; done) | exact zI (by assumption)))) ?_; simp [-cellOK, Zn.zAV, nsE]) | (refine zd (fun hc => ?_) (fun hc => ?_) <;> try simp at hc) | fail)
    rfl
theorem zfJ {n : Nw} (f : Fl) {a b : Int} (hn : NwOK n) (hP : PartsW (zN [n])) :
    PCalls Tryz.prog 13 [zR n f, .raw (.int .i64 a), .raw (.int .i64 b)] (zbm n [a, b] (zaq (zN [n]) fun x => zbl (zk n a x).1 b)) := by
  have hw := zhN (f := f) (a := a) (b := b) (g := 38) (caps := [.pp [.raw (.int .i64 b)] 0]) (w := fun x => zbl (zk n a x).1 b) hn hP (by simp) fun x => zlz _ _ _ (by have := zbC n a x; have := hn.links; omega)
  have hz := zdS n [a, b] (zaq (zN [n]) fun x => zbl (zk n a x).1 b)
  have hcase : (∃ e, zbm n [a, b] (zaq (zN [n]) fun x => zbl (zk n a x).1 b) = .tup [.sl 0 [] true, .raw (.int .i64 e)]) ∨ ∃ z e, zbm n [a, b] (zaq (zN [n]) fun x => zbl (zk n a x).1 b) = .tup [Zn.zAV z false, .raw (.int .i64 e)] := by
    unfold zbm
    split
    · exact .inl ⟨_, rfl⟩
    · exact .inr ⟨_, _, rfl⟩
  generalize zbm n [a, b] _ = Z at *
  refine zE Tryz.func13 rfl (N := 15) rfl rfl (by simp) hz fun σ => ?_
  repeat (refine zf ?_)
  refine zl ?_
  simp [-cellOK, ze]
  generalize hA0 : put 15 _ _ _ = A0
  have d1 : A0 1 = .raw (.int .i64 a) := by rw [← hA0]; simp [za]
  have d3 : A0 3 = .rp ⟨3, σ.nx 3, 3⟩ 0 0 := by rw [← hA0]; simp [za]
  have d5 : A0 5 = .rp ⟨5, σ.nx 5, 1⟩ 0 0 := by rw [← hA0]; simp [za]
  clear hA0
  refine z8 ⟨3, σ.nx 3, 3⟩ ?_
  refine z8 ⟨5, σ.nx 5, 1⟩ ?_
  generalize hτ : St.del _ _ = τ
  generalize hA : (fun t => zr _ _ _) = A
  have a1 : A 1 = .raw (.int .i64 a) := by rw [← hA, ← hτ]; simp [zr, d1]
  have a3 : A 3 = .pp (zR n f).cells 0 := by rw [← hA, ← hτ]; simp [zr, St.new, St.del, ze, d3]
  have a5 : A 5 = .pp [.raw (.int .i64 b)] 0 := by rw [← hA, ← hτ]; simp [zr, St.new, St.del, ze, d5]
  have hE : Ext σ τ := by
    rw [← hτ]
    refine ⟨fun i o h => ?_, fun s => ?_⟩
    · have q1 : i ≠ ⟨3, σ.nx 3, 3⟩ := fun e => by rw [e, zc] at h; cases h
      have q2 : i ≠ ⟨5, σ.nx 5, 1⟩ := fun e => by rw [e, zc] at h; cases h
      simp [St.del, St.new, q1, q2, h]
    · simp only [St.del, St.new]
      repeat' split
      all_goals omega
  clear hτ hA d1 d3 d5
  rcases hcase with ⟨e, rfl⟩ | ⟨z, e, rfl⟩
  · have FF := fI @a1 (fI @a3 (fI @a5 (fI @ze @zw))); exact gxA
  · have FF := fI @a1 (fI @a3 (fI @a5 (fI @ze @zw))); exact gxA
end Go.Proofs.YtpboabpapgimoaaGreat.Av
namespace Go.Proofs.YtpboabpapgimoaaGreat.Av
open Go
set_option linter.unusedSimpArgs false
set_option linter.unusedVariables false
set_option maxRecDepth 100000
set_option maxHeartbeats 4000000
set_option pp.maxSteps 600
theorem zeu {n : Nw} (f : Fl) {a b : Int} (hn : NwOK n) (hP : PartsW (zN [n])) :
    PCalls Tryz.prog 15 [zR n f, .raw (.int .i64 a), .raw (.int .i64 b)] (zbm n [a, b] (zaq (zN [n]) fun x => za4 (zk n a x).1 b)) := by
  have hw := zhN (f := f) (a := a) (b := b) (g := 41) (caps := [.pp [.raw (.int .i64 b)] 0]) (w := fun x => za4 (zk n a x).1 b) hn hP (by simp) fun x => zjR _ _ _
  have hz := zdS n [a, b] (zaq (zN [n]) fun x => za4 (zk n a x).1 b)
  have hcase : (∃ e, zbm n [a, b] (zaq (zN [n]) fun x => za4 (zk n a x).1 b) = .tup [.sl 0 [] true, .raw (.int .i64 e)]) ∨ ∃ z e, zbm n [a, b] (zaq (zN [n]) fun x => za4 (zk n a x).1 b) = .tup [Zn.zAV z false, .raw (.int .i64 e)] := by
    unfold zbm
    split
    · exact .inl ⟨_, rfl⟩
    · exact .inr ⟨_, _, rfl⟩
  generalize zbm n [a, b] _ = Z at *
  refine zE Tryz.func15 rfl (N := 15) rfl rfl (by simp) hz fun σ => ?_
  repeat (refine zf ?_)
  refine zl ?_
  simp [-cellOK, ze]
  generalize hA0 : put 15 _ _ _ = A0
  have d1 : A0 1 = .raw (.int .i64 a) := by rw [← hA0]; simp [za]
  have d3 : A0 3 = .rp ⟨3, σ.nx 3, 3⟩ 0 0 := by rw [← hA0]; simp [za]
  have d5 : A0 5 = .rp ⟨5, σ.nx 5, 1⟩ 0 0 := by rw [← hA0]; simp [za]
  clear hA0
  refine z8 ⟨3, σ.nx 3, 3⟩ ?_
  refine z8 ⟨5, σ.nx 5, 1⟩ ?_
  generalize hτ : St.del _ _ = τ
  generalize hA : (fun t => zr _ _ _) = A
  have a1 : A 1 = .raw (.int .i64 a) := by rw [← hA, ← hτ]; simp [zr, d1]
  have a3 : A 3 = .pp (zR n f).cells 0 := by rw [← hA, ← hτ]; simp [zr, St.new, St.del, ze, d3]
  have a5 : A 5 = .pp [.raw (.int .i64 b)] 0 := by rw [← hA, ← hτ]; simp [zr, St.new, St.del, ze, d5]
  have hE : Ext σ τ := by
    rw [← hτ]
    refine ⟨fun i o h => ?_, fun s => ?_⟩
    · have q1 : i ≠ ⟨3, σ.nx 3, 3⟩ := fun e => by rw [e, zc] at h; cases h
      have q2 : i ≠ ⟨5, σ.nx 5, 1⟩ := fun e => by rw [e, zc] at h; cases h
      simp [St.del, St.new, q1, q2, h]
    · simp only [St.del, St.new]
      repeat' split
      all_goals omega
  clear hτ hA d1 d3 d5
  rcases hcase with ⟨e, rfl⟩ | ⟨z, e, rfl⟩
  · have FF := fI @a1 (fI @a3 (fI @a5 (fI @ze @zw))); exact gxA
  · have FF := fI @a1 (fI @a3 (fI @a5 (fI @ze @zw))); exact gxA
theorem zky {x y : Nw} {f g : Fl} {d a : Int} (hx : NwOK x) (hy : NwOK y) :
    PCalls Tryz.prog 50 [.raw (.int .u32 a), .pp (zR x f).cells 0, .pp [.raw (.int .i64 d)] 0, .pp (zR y g).cells 0] (.raw (.bool (!decide ((zk x d a).1 = (zk y d a).1)))) := by
  have h1 := zcc x f d a hx
  have h2 := zcc y g d a hy
  have h3 := zd6 (zk x d a).1 (zk y d a).1 false false (by have := zbC x d a; have := hx.links; omega) (by have := zbC y d a; have := hy.links; omega)
  generalize (zk x d a).1 = T at *
  generalize (zk y d a).1 = T2 at *
  generalize decide (T = T2) = bb at *
  refine zE Tryz.func50 rfl (N := 28) rfl rfl (by simp) (by simp [noIds]) fun σ => ?_
  have FF := fI @ze (fI @zw (fI @zX (fI @zau (fI @zbz (fI @zt (fI @zD @za)))))); exact gxA
def zeg (b : Bool) (z : List Rg) : AV := if b then .tup [.sl 0 [] true, .raw (.int .i64 91)] else .tup [Zn.zAV z false, .raw (.int .i64 0)]
theorem zjS (b : Bool) (z : List Rg) : noIds (zeg b z) := by
  unfold zeg
  split
  · simp [noIds]
  · have := zh5 (fun _ => False) z false
    simpa [noIds, Zn.zAV, z9] using this
theorem zhe {x y : Nw} {f g : Fl} {d : Int} (hx : NwOK x) (hy : NwOK y) (hP : PartsW (zN [x, y])) :
    PCalls Tryz.prog 24 [zR x f, zR y g, .raw (.int .i64 d)] (zeg (zas x d || zas y d) (zaq (zN [x, y]) fun a => !decide ((zk x d a).1 = (zk y d a).1))) := by
  have hhx := ze9 x f [d] false (by simp)
  have hhy := ze9 y g [d] false (by simp)
  have hz := zjS (zas x d || zas y d) (zaq (zN [x, y]) fun a => !decide ((zk x d a).1 = (zk y d a).1))
  refine zE Tryz.func24 rfl (N := 33) rfl rfl (by simp) hz fun σ => ?_
  repeat (refine zf ?_)
  refine zl ?_
  simp [-cellOK, ze]
  generalize hA0 : put 33 _ _ _ = A0
  have d3 : A0 3 = .rp ⟨3, σ.nx 3, 3⟩ 0 0 := by rw [← hA0]; simp [za]
  have d4 : A0 4 = .rp ⟨4, σ.nx 4, 3⟩ 0 0 := by rw [← hA0]; simp [za]
  have d5 : A0 5 = .rp ⟨5, σ.nx 5, 1⟩ 0 0 := by rw [← hA0]; simp [za]
  clear hA0
  refine z8 ⟨3, σ.nx 3, 3⟩ ?_
  refine z8 ⟨4, σ.nx 4, 3⟩ ?_
  refine z8 ⟨5, σ.nx 5, 1⟩ ?_
  generalize hτ : St.del _ _ = τ
  generalize hA : (fun t => zr _ _ _) = A
  have a3 : A 3 = .pp (zR x f).cells 0 := by rw [← hA, ← hτ]; simp [zr, St.new, St.del, ze, d3]
  have a4 : A 4 = .pp (zR y g).cells 0 := by rw [← hA, ← hτ]; simp [zr, St.new, St.del, ze, d4]
  have a5 : A 5 = .pp [.raw (.int .i64 d)] 0 := by rw [← hA, ← hτ]; simp [zr, St.new, St.del, ze, d5]
  have hE : Ext σ τ := by
    rw [← hτ]
    refine ⟨fun i o h => ?_, fun s => ?_⟩
    · have q1 : i ≠ ⟨3, σ.nx 3, 3⟩ := fun e => by rw [e, zc] at h; cases h
      have q2 : i ≠ ⟨4, σ.nx 4, 3⟩ := fun e => by rw [e, zc] at h; cases h
      have q3 : i ≠ ⟨5, σ.nx 5, 1⟩ := fun e => by rw [e, zc] at h; cases h
      simp [St.del, St.new, q1, q2, q3, h]
    · simp only [St.del, St.new]
      repeat' split
      all_goals omega
  clear hτ hA d3 d4 d5
  have hll : ∀ x : Int, AV.sl 1 [.raw (.int .i64 x)] false = zh [x] false := fun _ => rfl
  have FF := fI @a3 (fI @a4 (fI @a5 (fI @ze (fI @zw (fI @zt @za))))); refine gxC ?_; clear FF
  refine PCalls.useLent (n := 1) (es := [.raw (.int .i64 d)]) (σ0 := σ) hhx rfl (OwnL.of rfl (by simp) (zI hE) (by simp)) ?_
  cases hb : [d].any (zas x) with
  | true =>
    have hb1 : zas x d = true := by simpa using hb
    rw [hb1]
    have hz : zeg (true || zas y d) (zaq (zN [x, y]) fun a => !decide ((zk x d a).1 = (zk y d a).1)) = .tup [.sl 0 [] true, .raw (.int .i64 91)] := rfl
    rw [hz]
    have FF := fI @a3 (fI @a4 @a5); exact gxA
  | false =>
    have hb1 : zas x d = false := by simpa using hb
    rw [hb1]
    have FF := fI @a3 (fI @a4 (fI @a5 (fI @ze (fI @zw (fI @zt @za))))); refine gxC ?_; clear FF
    refine PCalls.useLent (n := 1) (es := [.raw (.int .i64 d)]) (σ0 := σ) hhy rfl (OwnL.of rfl (by simp [zt, za]) (zI hE) (by simp)) ?_
    cases hbb : [d].any (zas y) with
    | true =>
      have hb2 : zas y d = true := by simpa using hbb
      rw [hb2]
      have hz : zeg (false || true) (zaq (zN [x, y]) fun a => !decide ((zk x d a).1 = (zk y d a).1)) = .tup [.sl 0 [] true, .raw (.int .i64 91)] := rfl
      rw [hz]
      have FF := fI @a3 (fI @a4 @a5); exact gxA
    | false =>
      have hb2 : zas y d = false := by simpa using hbb
      rw [hb2]
      have hz : zeg (false || false) (zaq (zN [x, y]) fun a => !decide ((zk x d a).1 = (zk y d a).1)) = .tup [Zn.zAV (zaq (zN [x, y]) fun a => !decide ((zk x d a).1 = (zk y d a).1)) false, .raw (.int .i64 0)] := rfl
      rw [hz]
      refine goD ?_
      iterate 2 (first | ((first | refine zm ?_ | refine zl ?_ | refine dN (by decide +kernel) ?_ | refine dC (by decide +kernel) ?_ | (refine zb ?_ ?_ <;> (intro hg; simp only [hg])) | fail) <;> simp [-cellOK, a3, a4, a5]) | refine zf ?_ | refine zg ?_ | (refine zF ?_; simp only [zG]; try simp) | (refine zd (fun hc => ?_) (fun hc => ?_) <;> try simp at hc) | fail)
      refine zf ?_
      refine zbF (fun o => o.dst == some 26) zc8 (by decide +kernel) ?_
      simp [-cellOK, a3, a4, a5, ze, zw, zt, za]
      refine .inl ⟨_, .inl zf2, ?_⟩
      refine ACalls.freeze ⟨25, τ.nx 25, 3⟩ ?_
      have f25 : σ.m ⟨25, τ.nx 25, 3⟩ = none := zI hE
      have hmap : List.map (zr (St.del (((τ.new 12 1 (.buf [.raw (.int .i64 d)])).new 18 1 (.buf [.raw (.int .i64 d)])).new 25 3 (.buf [zR x f, zR y g])) ⟨25, τ.nx 25, 3⟩).m (((τ.new 12 1 (.buf [.raw (.int .i64 d)])).new 18 1 (.buf [.raw (.int .i64 d)])).new 25 3 (.buf [zR x f, zR y g])).m) [.rs ⟨25, τ.nx 25, 3⟩ 0 2, zp ⟨0, 4294967295⟩] = [zaN [(x, f), (y, g)] false, zp zbr] := by
        rw [List.map_cons, List.map_cons, List.map_nil, zbf (es := [zR x f, zR y g]) (by simp [St.del]) (by simp [zt, za]) (by simp)]
        rfl
      rw [hmap]
      have hE2 : Ext σ (St.del (((τ.new 12 1 (.buf [.raw (.int .i64 d)])).new 18 1 (.buf [.raw (.int .i64 d)])).new 25 3 (.buf [zR x f, zR y g])) ⟨25, τ.nx 25, 3⟩) := Ext.delZ (zK (zK (zK hE))) f25
      generalize St.del _ _ = ρ at *
      clear hmap f25 hE
      refine zjI [(x, f), (y, g)] false zbr ⟨by decide, by decide, by decide, by decide⟩ (by simp [hx, hy]) (by simp) fun v τ2 hO hE3 => ?_
      have hO2 : OwnL σ τ2 2 v ((zN [x, y]).map zp) := by
        rcases hO with h | ⟨j, h1, h2, h3, h4⟩
        · exact .inl h
        · exact .inr ⟨j, h1, h2, h3, zkx hE2 h4⟩
      have hE4 := hE2.trans hE3
      have hce : (if zbr.hi < zbr.lo then (31 : Int) else 0) = 0 := by decide
      rw [hce]
      clear hO hE2 hE3
      have FF := fI @a3 (fI @a4 (fI @a5 (fI @ze @zw))); refine gxC ?_; clear FF
      refine ziu (w := fun a => !decide ((zk x d a).1 = (zk y d a).1)) hO2 hE4 hP.len hP.inz hP.ord (fun r hr => zky hx hy) fun τ3 hE5 => ?_
      (try ((first | with_reducible refine zs ?_ | with_reducible refine zx ?_ | with_reducible refine zy ?_); simp [-cellOK, Zn.zAV])); repeat' (first | ((first | refine zm ?_ | refine zl ?_ | refine dN (by decide +kernel) ?_ | refine dC (by decide +kernel) ?_ | (refine zb ?_ ?_ <;> (intro hg; simp only [hg])) | fail) <;> simp [-cellOK, Zn.zAV]) | refine zf ?_ | refine zg ?_ | (refine zF ?_; simp only [zG]; try simp) | (refine zq (by simp) ?_; simp) | (refine zam (by simp) (by simp [noIds]) (by repeat (first | assumption | exact Ext.refl _ | refine zK ?_ | refine Ext.setF ?_ (by first | assumption | (simp [za, St.set, zc]; done) | exact zI (by assumption)))) ?_; simp [-cellOK, Zn.zAV, nsE]) | (refine zd (fun hc => ?_) (fun hc => ?_) <;> try simp at hc) | fail)
      rfl
end Go.Proofs.YtpboabpapgimoaaGreat.Av
namespace Go.Proofs.YtpboabpapgimoaaGreat.Av
open Go
set_option linter.unusedSimpArgs false
set_option linter.unusedVariables false
set_option maxRecDepth 100000
set_option maxHeartbeats 4000000
set_option pp.maxSteps 600
theorem zlA (x y : List Int) (fx fy : Bool) (hl : x.length < 2 ^ 60) (hl2 : y.length < 2 ^ 60) : PCalls Tryz.prog 83 [zh x fx, zh y fy] (.raw (.bool (decide (x = y)))) := by
  refine zE Tryz.func83 rfl (N := 26) rfl rfl (by simp) (by simp [noIds]) fun σ => ?_
  by_cases hlen : x.length = y.length
  · have hli : (x.length : Int) = (y.length : Int) := by omega
    have FF := fI zh.eq_1 (fI @hlen @hli); refine zB ?_; clear FF
    refine zO (fun n A τ => τ = σ ∧ A 0 = zh x fx ∧ A 1 = zh y fy ∧ ∃ i : Nat, A 5 = .raw (.int .i64 i) ∧ i ≤ y.length ∧ n = y.length - i ∧ x.take i = y.take i) y.length ?_ ?_
    · exact ⟨rfl, by simp [zh], by simp [zh], 0, by simp, by omega, by omega, by simp⟩
    rintro n A τ ⟨rfl, a0, a1, i, a5, hi, rfl, htk⟩ I1 hI1
    by_cases hlt : i < y.length
    · have hlx : i < x.length := by omega
      have hx : x[i]? = some x[i] := List.getElem?_eq_getElem hlx
      have hy : y[i]? = some y[i] := List.getElem?_eq_getElem hlt
      have w1 : IntKind.i64.wrap ((i : Int) + 1) = ((i + 1 : Nat) : Int) := by rw [zo (by omega) (by omega)]; omega
      by_cases he : x[i] = y[i]
      · skip
        (try ((first | with_reducible refine zs ?_ | with_reducible refine zx ?_ | with_reducible refine zy ?_); simp [zh, iAV, a0, a1, a5, hlt, hlx, hlen, hx, hy, zbR, he, w1])); repeat' (first | ((first | refine zm ?_ | refine zl ?_ | refine dN (by decide +kernel) ?_ | (refine zb ?_ ?_ <;> (intro hg; simp only [hg])) | fail) <;> simp [zh, iAV, a0, a1, a5, hlt, hlx, hlen, hx, hy, zbR, he, w1]) | refine zf ?_ | refine zg ?_ | (refine zF ?_; simp only [zG]; try simp) | ((first | refine zq (by simp) ?_ | refine zu (by simp) (by simp) (by simp (maxDischargeDepth := 30) [zh, iAV, a0, a1, a5, hlt, hlx, hlen, hx, hy, zbR, he, w1]) ?_ | fail); simp) | (refine zd (fun hc => ?_) (fun hc => ?_) <;> try simp at hc) | fail)
        all_goals exact hI1 (y.length - (i + 1)) _ _ (by omega) ⟨rfl, by simp [a0, zh, iAV], by simp [a1, zh, iAV], i + 1, by simp [w1], by omega, rfl, zno htk hx (by rw [hy, he])⟩
      · skip
        have FF := fI zh.eq_1 (fI iAV.eq_1 (fI @a0 (fI @a1 (fI @a5 (fI @hlt (fI @hlx (fI @hlen (fI @hx (fI @hy (fI @zbR (fI @he @w1))))))))))); refine zB ?_; clear FF
        all_goals (rintro rfl; exact he rfl)
    · have : i = y.length := by omega
      subst this
      have hxy : x = y := by
        rw [List.take_length, ← hlen, List.take_length] at htk; exact htk
      have FF := fI zh.eq_1 (fI @a0 (fI @a1 (fI @a5 @hlen))); refine zB ?_; clear FF
      all_goals first | exact hxy | simp [hxy]
  · have hli : ¬ ((x.length : Int) = (y.length : Int)) := by omega
    have FF := fI zh.eq_1 (fI @hlen @hli); refine zB ?_; clear FF
    all_goals (rintro rfl; exact hlen rfl)
theorem zhf (l : List Int) (f : Bool) (x : Int) (hl : l.length < 2 ^ 60) : PCalls Tryz.prog 67 [zh l f, .raw (.int .i64 x)] (.raw (.bool (decide (x ∈ l)))) := by
  refine zE Tryz.func67 rfl (N := 18) rfl rfl (by simp) (by simp [noIds]) fun σ => ?_
  have FF := zh.eq_1; refine zB ?_; clear FF
  refine zO (fun n A τ => τ = σ ∧ A 0 = zh l f ∧ A 1 = .raw (.int .i64 x) ∧ ∃ i : Nat, A 5 = .raw (.int .i64 i) ∧ i ≤ l.length ∧ n = l.length - i ∧ x ∉ l.take i) l.length ?_ ?_
  · exact ⟨rfl, by simp [zh], by simp, 0, by simp, by omega, by omega, by simp⟩
  rintro n A τ ⟨rfl, a0, a1, i, a5, hi, rfl, htk⟩ I1 hI1
  by_cases hlt : i < l.length
  · have hx : l[i]? = some l[i] := List.getElem?_eq_getElem hlt
    have w1 : IntKind.i64.wrap ((i : Int) + 1) = ((i + 1 : Nat) : Int) := by rw [zo (by omega) (by omega)]; omega
    by_cases he : l[i] = x
    · have hm : x ∈ l := he ▸ List.getElem_mem hlt
      have FF := fI zh.eq_1 (fI iAV.eq_1 (fI @a0 (fI @a1 (fI @a5 (fI @hlt (fI @hx (fI @zbR (fI @he (fI @w1 @hm))))))))); refine zB ?_; clear FF
      all_goals exact hm
    · skip
      (try ((first | with_reducible refine zs ?_ | with_reducible refine zx ?_ | with_reducible refine zy ?_); simp [zh, iAV, a0, a1, a5, hlt, hx, zbR, he, w1])); repeat' (first | ((first | refine zm ?_ | refine zl ?_ | refine dN (by decide +kernel) ?_ | (refine zb ?_ ?_ <;> (intro hg; simp only [hg])) | fail) <;> simp [zh, iAV, a0, a1, a5, hlt, hx, zbR, he, w1]) | refine zf ?_ | refine zg ?_ | (refine zF ?_; simp only [zG]; try simp) | ((first | refine zq (by simp) ?_ | refine zu (by simp) (by simp) (by simp (maxDischargeDepth := 30) [zh, iAV, a0, a1, a5, hlt, hx, zbR, he, w1]) ?_ | fail); simp) | (refine zd (fun hc => ?_) (fun hc => ?_) <;> try simp at hc) | fail)
      all_goals refine hI1 (l.length - (i + 1)) _ _ (by omega) ⟨rfl, by simp [a0, zh, iAV], by simp [a1], i + 1, by simp [w1], by omega, rfl, ?_⟩
      rw [List.take_add_one, hx]
      intro hm
      rcases List.mem_append.1 hm with hm | hm
      · exact htk hm
      · simp at hm; exact he hm.symm
  · have : i = l.length := by omega
    subst this
    rw [List.take_length] at htk
    have FF := fI zh.eq_1 (fI @a0 (fI @a1 (fI @a5 @htk))); refine zB ?_; clear FF
    all_goals exact htk
end Go.Proofs.YtpboabpapgimoaaGreat.Av
namespace Go.Proofs.YtpboabpapgimoaaGreat.Av
open Go
set_option linter.unusedSimpArgs false
set_option linter.unusedVariables false
set_option maxRecDepth 100000
set_option maxHeartbeats 4000000
set_option pp.maxSteps 600
theorem znj (all : List Int) (last : Int) : Zn.nextCut all last = 4294967296 ∨ Zn.nextCut all last ∈ all := by
  unfold Zn.nextCut
  have key : ∀ (l : List Int) (n : Int), l.foldl (fun next a => if last < a ∧ a < next then a else next) n = n ∨ l.foldl (fun next a => if last < a ∧ a < next then a else next) n ∈ l := by
    intro l
    induction l with
    | nil => intro n; exact .inl rfl
    | cons x l ih =>
      intro n
      rw [List.foldl_cons]
      rcases ih (if last < x ∧ x < n then x else n) with h | h
      · rw [h]
        split
        · exact .inr (by simp)
        · exact .inl rfl
      · exact .inr (List.mem_cons_of_mem _ h)
  exact key all _
theorem zhO (all : List Int) : ∀ (n : Nat) (last : Int), ∀ c ∈ Zn.cutsFrom all n last, c ∈ all
  | 0, _, c, h => by simp [Zn.cutsFrom] at h
  | n + 1, last, c, h => by
    unfold Zn.cutsFrom at h
    split at h
    · rename_i hle
      rcases List.mem_cons.1 h with rfl | h
      · rcases znj all last with e | e
        · omega
        · exact e
      · exact zhO all n _ c h
    · simp at h
theorem zpo {l : List Rg} (h : ∀ r ∈ l, RgOK r) : Zn.cutsOf l = zaF l := by
  have hz : Zn.InZ l := fun r hr => ⟨(h r hr).lo0, (h r hr).lo1, (h r hr).hi0, (h r hr).hi1⟩
  have hC := Zn.cuts_of l hz
  have hsub : ∀ c ∈ Zn.cutsOf l, c ∈ Zn.cutsAll l := zhO _ _ _
  have hL := zbt l
  have hup : (Zn.cutsOf l).Pairwise (· < ·) := by
    have key : ∀ (C : List Int), (∀ (i : Nat) (c d : Int), C[i]? = some c → C[i + 1]? = some d → c < d) → C.Pairwise (· < ·) := by
      intro C
      induction C with
      | nil => intro _; exact .nil
      | cons x C ih =>
        intro hu
        have ih := ih fun i c d h1 h2 => hu (i + 1) c d (by simpa using h1) (by simpa using h2)
        refine List.pairwise_cons.2 ⟨fun y hy => ?_, ih⟩
        cases C with
        | nil => simp at hy
        | cons z C =>
          have h0 := hu 0 x z rfl rfl
          rcases List.mem_cons.1 hy with rfl | hy
          · exact h0
          · have := (List.pairwise_cons.1 ih).1 y hy
            omega
    exact key _ hC.up
  refine zf1 hup hL.srt fun x => ?_
  rw [hL.mem]
  constructor
  · intro hx
    have h1 := hsub x hx
    have h2 := hC.rng x hx
    rcases Zn.cutsAll_mem.1 h1 with rfl | ⟨r, hr, e⟩
    · exact .inl rfl
    · refine .inr ⟨r, hr, ?_⟩
      unfold zb1
      rcases e with rfl | rfl
      · split <;> simp
      · rw [if_pos (by omega)]; simp
  · intro hx
    have hin : x ∈ Zn.cutsAll l ∧ 0 ≤ x ∧ x < 4294967296 := by
      rcases hx with rfl | ⟨r, hr, e⟩
      · exact ⟨Zn.cutsAll_mem.2 (.inl rfl), by omega, by omega⟩
      · obtain ⟨a1, a2, a3, a4⟩ := h r hr
        unfold zb1 at e
        split at e
        · simp only [List.mem_cons, List.not_mem_nil, or_false] at e
          rcases e with rfl | rfl
          · exact ⟨Zn.cutsAll_mem.2 (.inr ⟨r, hr, .inl rfl⟩), by omega, by omega⟩
          · exact ⟨Zn.cutsAll_mem.2 (.inr ⟨r, hr, .inr rfl⟩), by omega, by omega⟩
        · simp only [List.mem_cons, List.not_mem_nil, or_false] at e
          subst e
          exact ⟨Zn.cutsAll_mem.2 (.inr ⟨r, hr, .inl rfl⟩), by omega, by omega⟩
    obtain ⟨h1, h2, h3⟩ := hin
    have step : ∀ k, k ≤ (Zn.cutsOf l).length → x ∈ Zn.cutsOf l ∨ ∀ i, i < k → ∀ c, (Zn.cutsOf l)[i]? = some c → c < x := by
      intro k
      induction k with
      | zero => intro _; exact .inr fun i hi => by omega
      | succ k ih =>
        intro hk
        rcases ih (by omega) with hm | hb
        · exact .inl hm
        · have hc : (Zn.cutsOf l)[k]? = some (Zn.cutsOf l)[k] := List.getElem?_eq_getElem (by omega)
          by_cases e : (Zn.cutsOf l)[k] = x
          · exact .inl (e ▸ List.getElem_mem _)
          · by_cases hlt : (Zn.cutsOf l)[k] < x
            · refine .inr fun i hi c hi2 => ?_
              by_cases e2 : i = k
              · subst e2; rw [hc] at hi2; injection hi2 with hi2; omega
              · exact hb i (by omega) c hi2
            · left
              cases k with
              | zero =>
                have h0 := hC.zero
                rw [hc] at h0
                injection h0 with h0
                omega
              | succ j =>
                have hj : (Zn.cutsOf l)[j]? = some (Zn.cutsOf l)[j] := List.getElem?_eq_getElem (by omega)
                have hlj := hb j (by omega) _ hj
                obtain ⟨d, hd, hle⟩ := hC.full j _ hj x h1 hlj h3
                rw [hc] at hd
                injection hd with hd
                omega
    rcases step _ (Nat.le_refl _) with hm | hb
    · exact hm
    · exfalso
      have hne : 0 < (Zn.cutsOf l).length := (List.getElem?_eq_some_iff.1 hC.zero).1
      have hlast : (Zn.cutsOf l)[(Zn.cutsOf l).length - 1]? = some (Zn.cutsOf l)[(Zn.cutsOf l).length - 1] := List.getElem?_eq_getElem (by omega)
      have hlt := hb _ (by omega) _ hlast
      obtain ⟨d, hd, _⟩ := hC.full _ _ hlast x h1 hlt h3
      have := (List.getElem?_eq_some_iff.1 hd).1
      omega
theorem zlB (l : List Rg) (f : Bool) (hz : ∀ r ∈ l, RgOK r) (hl : l.length < 2 ^ 30) : PCalls Tryz.prog 53 [z9 l f] (zh (zaF l) false) := by
  have := Zn.cuts_calls l f (fun r hr => ⟨(hz r hr).lo0, (hz r hr).lo1, (hz r hr).hi0, (hz r hr).hi1⟩) hl
  rw [zpo hz] at this
  exact this
def ziT (c : List Int) (i : Nat) : Int := match c[i + 1]? with | some y => y - 1 | none => 4294967295
theorem zmG (c : List Int) (f : Bool) (i : Nat) (hl : c.length < 2 ^ 60) (hi : i < 2 ^ 60) (hC : ∀ x ∈ c, 0 ≤ x ∧ x ≤ 4294967296) : PCalls Tryz.prog 54 [zh c f, .raw (.int .i64 i)] (.raw (.int .i64 (ziT c i))) := Zn.end_calls c f i hl hi hC
theorem zpp (c : List Int) (i : Nat) : (zaE c)[i]? = (c[i]?).map fun x => ⟨x, ziT c i⟩ := zdt c i
end Go.Proofs.YtpboabpapgimoaaGreat.Av
namespace Go.Proofs.YtpboabpapgimoaaGreat.Av
open Go
set_option linter.unusedSimpArgs false
set_option linter.unusedVariables false
set_option maxRecDepth 100000
set_option maxHeartbeats 4000000
set_option pp.maxSteps 600
theorem zjT (n : Nw) (f : Fl) (hl : n.rules.length < 2 ^ 40) : PCalls Tryz.prog 52 [zR n f] (z9 (zer n) false) := by
  refine zE Tryz.func52 rfl (N := 22) rfl rfl (by simp) (zh5 _ _ _) fun σ => ?_
  have f1 : σ.m ⟨1, σ.nx 1, 3⟩ = none := zc _ _ _
  refine zf ?_
  refine zl ?_
  simp [ze]
  refine z8 ⟨1, σ.nx 1, 3⟩ ?_
  generalize hτ : St.del _ _ = τ
  generalize hA : (fun t => zr _ _ _) = A
  have a1 : A 1 = .pp (zR n f).cells 0 := by rw [← hA, ← hτ]; simp [zr, St.new, St.del, ze]
  have hE : Ext σ τ := by
    rw [← hτ]
    refine ⟨fun i o h => ?_, fun s => ?_⟩
    · have q2 : i ≠ ⟨1, σ.nx 1, 3⟩ := fun e => by rw [e, f1] at h; cases h
      simp [St.del, St.new, q2, h]
    · simp only [St.del, St.new]
      repeat' split
      all_goals omega
  clear hτ hA
  have FF := fI @ze @a1; refine gxB ?_; clear FF
  refine zO (fun n' B ρ => Ext σ ρ ∧ B 1 = .pp (zR n f).cells 0 ∧ ∃ (i : Nat) (v : AV), B 4 = .raw (.int .i64 i) ∧ i ≤ n.rules.length ∧ n' = n.rules.length - i ∧ B 3 = v ∧ OwnL σ ρ 2 v ((zer n).take i |>.map zp)) n.rules.length ?_ ?_
  · exact ⟨hE, by simp [a1], 0, .sl 0 [] true, by simp, by omega, by omega, by simp, .inl ⟨by simp, rfl⟩⟩
  clear a1 hE
  rintro n' B ρ ⟨hE, a1, i, v, a4, hi, rfl, a3, hO⟩ I1 hI1
  by_cases hlt : i < n.rules.length
  · have hx : n.rules[i]? = some n.rules[i] := List.getElem?_eq_getElem hlt
    have w1 : IntKind.i64.wrap ((i : Int) + 1) = ((i + 1 : Nat) : Int) := by rw [zo (by omega) (by omega)]; omega
    obtain ⟨x, hxe⟩ : ∃ x, n.rules[i] = x := ⟨_, rfl⟩
    have hxr : AV.agg [.raw (.int .u32 x.r.lo), .raw (.int .u32 x.r.hi)] = zp x.r := rfl
    have htk : (zer n).take (i + 1) = (zer n).take i ++ [x.r] := by
      unfold zer
      rw [List.take_add_one, List.getElem?_map, hx, hxe]; rfl
    (try ((first | with_reducible refine zs ?_ | with_reducible refine zx ?_ | with_reducible refine zy ?_); simp [-cellOK, ze, zz, a1, a3, a4, hlt, hx, hxe, zM, hxr, rg_cells, zt, zD, za, -zJ])); repeat' (first | ((first | refine zm ?_ | refine zl ?_ | refine dN (by decide +kernel) ?_ | refine dC (by decide +kernel) ?_ | (refine zb ?_ ?_ <;> (intro hg; simp only [hg])) | fail) <;> simp [-cellOK, ze, zz, a1, a3, a4, hlt, hx, hxe, zM, hxr, rg_cells, zt, zD, za, -zJ]) | refine zf ?_ | refine zg ?_ | (refine zF ?_; simp only [zG]; try simp) | (refine zd (fun hc => ?_) (fun hc => ?_) <;> try simp at hc) | fail)
    refine zaV zfM (σ0 := σ) (hO.ext exA) exA (ys := [zp x.r]) (by simp [zt, za, rg_cells, zp]) (.inr rfl) (by simp [zp, zP, zak, cellOK, AV.cells]) (by simp; omega) ?_
    intro v' τ' hO' hE' _ _
    have FF := fI @a1 (fI @a3 (fI @a4 @w1)); refine gxB ?_; clear FF
    refine hI1 (n.rules.length - (i + 1)) _ _ (by omega) ⟨hE', by simp [a1], i + 1, v', by simp, by omega, rfl, by simp, ?_⟩
    rw [htk, List.map_append]
    exact hO'
  · have : i = n.rules.length := by omega
    subst this
    rw [List.take_of_length_le (by unfold zer; simp)] at hO
    have FF := fI @ze (fI zz.eq_1 (fI @a1 (fI @a3 @a4))); refine gxC ?_; clear FF
    exact ziH (v := v) (.inr rfl) (by simp) hO hE
end Go.Proofs.YtpboabpapgimoaaGreat.Av
namespace Go.Proofs.YtpboabpapgimoaaGreat.Av
open Go
set_option linter.unusedSimpArgs false
set_option linter.unusedVariables false
set_option maxRecDepth 100000
set_option maxHeartbeats 4000000
set_option pp.maxSteps 600
@[simp] theorem zxb (ops : List Oper) (rcs : Oper → Bool) (o : Oper) : (zcG ops rcs o).o = o := rfl
theorem zdu (N : Nw) (f : Fl) (d a : Int) (hN : NwOK N) (hr : zax N = true) : PCalls Tryz.prog 35 [zR N f, .raw (.int .i64 d), .raw (.int .u32 a)] (.tup [zaX (zk N d a).1 false, .raw (.int .i64 (zk N d a).2)]) := by
  have hstep := fun d' => zlo N f d' a (by have := hN.links; omega) hN.rules
  have hnext := fun p => zha N.t f p (by have := hN.links; omega)
  have hnd : (zbc N.t.links).Nodup := by
    unfold zax at hr
    simp only [Bool.and_eq_true] at hr
    exact zhG hr.1
  simp only [zqx hr] at hstep
  simp only [← zmr N.t _ hnd] at hnext
  have hl := hN.links
  refine zE Tryz.func35 rfl (N := 64) rfl rfl (by simp) (by simp [noIds]) fun σ => ?_
  have f3 : σ.m ⟨3, σ.nx 3, 3⟩ = none := zc _ _ _
  have f6 : σ.m ⟨6, σ.nx 6, 4⟩ = none := zc _ _ _
  have f8 : σ.m ⟨8, σ.nx 8, 4⟩ = none := zc _ _ _
  by_cases q : d < 0 ∨ N.t.ports.length ≤ d
  · unfold zk
    rw [if_pos q]
    have hw : Weaker (.tup [.agg [.sl 0 [] true, .raw (.int .i64 0), .raw (.int .i64 0), .raw (.int .i64 0)], .raw (.int .i64 91)]) (.tup [zaX ⟨[], 0, ⟨0, 0⟩⟩ false, .raw (.int .i64 91)]) := weaker_tup (zgP zaT)
    have fin : ∀ {A : zL} {τ : St}, Ext σ τ → zaR Tryz.prog τ.m A Tryz.f35.results = some (.tup [.agg [.sl 0 [] true, .raw (.int .i64 0), .raw (.int .i64 0), .raw (.int .i64 0)], .raw (.int .i64 91)]) → RetP Tryz.prog Tryz.f35 σ (.tup [zaX ⟨[], 0, ⟨0, 0⟩⟩ false, .raw (.int .i64 91)]) .ret A τ := fun hE h =>
      zct (.inr rfl) hE h (by simpa [z0, zr] using hw)
    by_cases q1 : d < 0
    · have FF := fI @ze @q1; refine gxC ?_; clear FF
      exact fin exA (by simp [zt, zD, za])
    · have q2 : (N.t.ports.length : Int) ≤ d := by omega
      have FF := fI @ze (fI @q1 (fI @q2 zh.eq_1)); refine gxC ?_; clear FF
      exact fin exA (by simp [zt, zD, za])
  have q1 : ¬ d < 0 := fun h => q (.inl h)
  have q2 : ¬ (N.t.ports.length : Int) ≤ d := fun h => q (.inr h)
  have hres : zk N d a = (zcg N d a, 0) := by unfold zk; rw [if_neg q]
  rw [hres]
  have hp : ∀ m, zaQ Tryz.prog m 22 (zh N.t.ports f.p) = some (.raw (.int .i64 N.t.ports.length)) := fun m => by simp [zh]
  (try ((first | with_reducible refine zs ?_ | with_reducible refine zx ?_ | with_reducible refine zy ?_); simp [-cellOK, ze, zw, q1, q2, -zaQ, hp, zt, zD, za])); repeat' (first | ((first | refine zm ?_ | refine zl ?_ | refine dN (by decide +kernel) ?_ | refine dC (by decide +kernel) ?_ | (refine zb ?_ ?_ <;> (intro hg; simp only [hg])) | fail) <;> simp [-cellOK, ze, zw, q1, q2, -zaQ, hp, zt, zD, za]) | refine zf ?_ | refine zg ?_ | (refine zF ?_; simp only [zG]; try simp) | (refine zq (by simp) ?_; simp) | (refine zam (by simp) (by simp [noIds]) (by repeat (first | assumption | exact Ext.refl _ | refine zK ?_ | refine Ext.setF ?_ (by first | assumption | (simp [za, St.set, zc]; done) | exact zI (by assumption)))) ?_; simp [-cellOK, ze, zw, q1, q2, -zaQ, hp, zt, zD, za, nsE]) | (refine zd (fun hc => ?_) (fun hc => ?_) <;> try simp at hc) | fail)
  generalize hA0 : put 64 _ _ _ = A0
  have c2 : A0 2 = .raw (.int .u32 a) := by rw [← hA0]; simp
  have c3 : A0 3 = .rp ⟨3, σ.nx 3, 3⟩ 0 0 := by rw [← hA0]; simp
  have c6 : A0 6 = .rp ⟨6, σ.nx 6, 4⟩ 0 0 := by rw [← hA0]; simp
  have c8 : A0 8 = .rp ⟨8, σ.nx 8, 4⟩ 0 0 := by rw [← hA0]; simp
  have c9 : A0 9 = .raw (.int .i64 d) := by rw [← hA0]; simp
  clear hA0
  refine z8 ⟨3, σ.nx 3, 3⟩ ?_
  generalize hAA : (fun t => zr _ _ _) = A
  have a2 : A 2 = .raw (.int .u32 a) := by rw [← hAA]; show zr _ _ (A0 2) = _; rw [c2]; rfl
  have a3 : A 3 = .pp (zR N f).cells 0 := by
    rw [← hAA]
    show zr _ _ (A0 3) = _
    rw [c3, zcJ (es := [zR N f]) (e := zR N f) (by simp [St.del]) (by simp [St.new, St.set]) rfl]
  have a6 : A 6 = .rp ⟨6, σ.nx 6, 4⟩ 0 0 := by rw [← hAA]; show zr _ _ (A0 6) = _; rw [c6]; exact zcI (by simp)
  have a8 : A 8 = .rp ⟨8, σ.nx 8, 4⟩ 0 0 := by rw [← hAA]; show zr _ _ (A0 8) = _; rw [c8]; exact zcI (by simp)
  have a9 : A 9 = .raw (.int .i64 d) := by rw [← hAA]; show zr _ _ (A0 9) = _; rw [c9]; rfl
  generalize hτ : St.del _ _ = τ
  have m6 : τ.m ⟨6, σ.nx 6, 4⟩ = some (.buf [.agg [.sl 0 [] true, .raw (.int .i64 0), .raw (.int .i64 0), .raw (.int .i64 0)]]) := by rw [← hτ]; simp [St.del, zt, zD, za]
  have m8 : τ.m ⟨8, σ.nx 8, 4⟩ = some (.buf [.agg [.sl 0 [] true, .raw (.int .i64 0), .raw (.int .i64 0), .raw (.int .i64 0)]]) := by rw [← hτ]; simp [St.del, zt, zD, za]
  have hE : Ext σ τ := by
    rw [← hτ]
    refine ⟨fun i o h => ?_, fun s => ?_⟩
    · have q3 : i ≠ ⟨3, σ.nx 3, 3⟩ := fun e => by rw [e, f3] at h; cases h
      have q6 : i ≠ ⟨6, σ.nx 6, 4⟩ := fun e => by rw [e, f6] at h; cases h
      have q8 : i ≠ ⟨8, σ.nx 8, 4⟩ := fun e => by rw [e, f8] at h; cases h
      simp [St.del, St.new, St.set, q3, q6, q8, h]
    · simp only [St.del, St.new, St.set]
      repeat' split
      all_goals omega
  clear hτ hAA c2 c3 c6 c8 c9
  obtain ⟨i6, hi6⟩ : ∃ i, (⟨6, σ.nx 6, 4⟩ : Id) = i := ⟨_, rfl⟩
  obtain ⟨i8, hi8⟩ : ∃ i, (⟨8, σ.nx 8, 4⟩ : Id) = i := ⟨_, rfl⟩
  have s6 : i6.sz = 4 := by rw [← hi6]
  have s8 : i8.sz = 4 := by rw [← hi8]
  have d68 : i6 ≠ i8 := by rw [← hi6, ← hi8]; simp
  rw [hi6] at m6 f6 a6
  rw [hi8] at m8 f8 a8
  clear hi6 hi8
  refine zO (fun n' B ρ => B 2 = .raw (.int .u32 a) ∧ B 3 = .pp (zR N f).cells 0 ∧ B 6 = .rp i6 0 0 ∧ B 8 = .rp i8 0 0 ∧ ∃ (v : AV) (p : List Int) (d' : Int), B 9 = .raw (.int .i64 d') ∧ Way N a d d' p ∧ TrS σ ρ i6 i8 v p ∧ n' = 2 + 2 * N.t.links.length - p.length) (2 + 2 * N.t.links.length) ?_ ?_
  · exact ⟨a2, a3, a6, a8, .sl 0 [] true, [], d, a9, Way.start N a d, ⟨hE, m6, m8, .inl ⟨rfl, rfl⟩⟩, rfl⟩
  clear a2 a3 a6 a8 a9 m6 m8 hE
  rintro n' B ρ ⟨a2, a3, a6, a8, v, p, d', a9, hw, hS, rfl⟩ I1 hI1
  have hpl := hw.len
  have m8 := hS.m8
  have m6 := hS.m6
  have hO := hS.own
  have hE := hS.ext
  have hhas := zhf p false d' (by omega)
  have FF := fI @a2 (fI @a3 (fI @a6 (fI @a8 (fI @a9 @m8)))); refine gxB ?_; clear FF
  refine PCalls.useP hhas rfl hO.toP ?_
  (try ((first | with_reducible refine zs ?_ | with_reducible refine zx ?_ | with_reducible refine zy ?_); simp [-cellOK, a2, a3, a6, a8, a9, m8, -zJ])); repeat' (first | ((first | refine zm ?_ | refine zl ?_ | refine dN (by decide +kernel) ?_ | refine dC (by decide +kernel) ?_ | (refine zb ?_ ?_ <;> (intro hg; simp only [hg])) | fail) <;> simp [-cellOK, a2, a3, a6, a8, a9, m8, -zJ]) | refine zf ?_ | refine zg ?_ | (refine zF ?_; simp only [zG]; try simp) | (refine zq (by simp) ?_; simp) | (refine zam (by simp) (by simp [noIds]) (by repeat (first | assumption | exact Ext.refl _ | refine zK ?_ | refine Ext.setF ?_ (by first | assumption | (simp [za, St.set, zc]; done) | exact zI (by assumption)))) ?_; simp [-cellOK, a2, a3, a6, a8, a9, m8, -zJ, nsE]) | (refine zd (fun hc => ?_) (fun hc => ?_) <;> try simp at hc) | fail)
  refine zaV zlG (σ0 := σ) (hO.ext exA) exA (ys := [iAV d']) (by simp [zt, za, iAV]) (.inr rfl) (by simp [iAV]) (by simp; omega) ?_
  intro v' τ' hO' hE' hk hnx
  obtain ⟨k8, _⟩ := hk i8 _ (zaz _ _ m8) (hO.ne_sz (by rw [s8]; decide))
  obtain ⟨k6, _⟩ := hk i6 _ (zaz _ _ m6) (hO.ne_sz (by rw [s6]; decide))
  clear hk hS
  have hv1 := hO'.cells
  have hv2 := hO'.cellOK
  have hO' : OwnL σ τ' 1 v' ((p ++ [d']).map iAV) := by rw [List.map_append]; exact hO'
  have hcl : ∀ x y z : Int, AV.cells (.agg [v', .raw (.int .i64 x), .raw (.int .i64 y), .raw (.int .i64 z)]) = [v', .raw (.int .i64 x), .raw (.int .i64 y), .raw (.int .i64 z)] := fun _ _ _ => rfl
  have hn6 : ∀ k l, v' ≠ .rs i6 k l := hO'.ne_sz (by rw [s6]; decide)
  have hn8 : ∀ k l, v' ≠ .rs i8 k l := hO'.ne_sz (by rw [s8]; decide)
  have e8 : ∀ s x, (i8 = (⟨s, x, 2⟩ : Id)) = False := fun s x => eq_false fun h => by rw [h] at s8; cases s8
  have e6 : ∀ s x, (i6 = (⟨s, x, 2⟩ : Id)) = False := fun s x => eq_false fun h => by rw [h] at s6; cases s6
  have e8' : ∀ s x, ((⟨s, x, 2⟩ : Id) = i8) = False := fun s x => eq_false fun h => by rw [← h] at s8; cases s8
  have e6' : ∀ s x, ((⟨s, x, 2⟩ : Id) = i6) = False := fun s x => eq_false fun h => by rw [← h] at s6; cases s6
  have hw1 : ∀ z : List AV, v' ≠ .agg z := fun z e => by rw [e] at hv2; cases hv2
  by_cases hm : d' ∈ p
  · have hfin := hw.again hm
    rw [hfin]
    have FF := fI @a2 (fI @a3 (fI @a6 (fI @a8 (fI @a9 (fI @k8 (fI @k6 (fI @hv1 (fI @hv2 (fI @hm (fI @zt (fI @zD (fI @za (fI @d68 ((Ne.symm d68))))))))))))))); refine gxC ?_; clear FF
    exact ze6 (b := .int .i64 4) (c := .int .i64 0) (d := .int .i64 0) (u := .int .i64 0) (.inr rfl) (by simp [a6, k6, k8, zD, d68, Ne.symm d68]) ((hO'.set hn8).set hn6) (Ext.setF (Ext.setF hE' f8) f6)
  · have hstep := hstep d'
    by_cases h4 : (zap N d' a).1 = 4
    · have hon := hw.on hm h4
      have hnext := hnext (zap N d' a).2
      have hnx1 : ((zbS N.t (zap N d' a).2).getD ⟨0, 0⟩).dev = zc5 N (zap N d' a).2 := rfl
      generalize zc5 N (zap N d' a).2 = nd at *
      generalize (zbS N.t (zap N d' a).2).getD ⟨0, 0⟩ = qp at *
      generalize (zbS N.t (zap N d' a).2).isSome = qb at *
      generalize (zap N d' a).2 = pt at *
      rw [h4] at hstep
      have FF := fI @a2 (fI @a3 (fI @a6 (fI @a8 (fI @a9 (fI @k8 (fI @k6 (fI @hv1 (fI @hv2 (fI @hm (fI @ze (fI @zw (fI @zfD (fI @zjG (fI @zt (fI @zD (fI @za (fI @d68 (fI (Ne.symm d68) (fI @e8 (fI @e6 (fI @e8' @e6'))))))))))))))))))))); refine gxB ?_; clear FF
      refine hI1 (2 + 2 * N.t.links.length - (p ++ [d']).length) _ _ (by simp; omega) ⟨by simp [a2], by simp [a3], by simp [a6], by simp [a8], v', p ++ [d'], nd, by simp [hnx1], hon, ⟨?_, ?_, ?_, ?_⟩, rfl⟩
      · exact (by repeat (first | assumption | exact Ext.refl _ | refine zK ?_ | refine Ext.setF ?_ (by first | assumption | (simp [za, St.set, zc, e8']; done) | exact zI (by assumption))))
      · simp [zt, zD, za, e6, e8, k6, k8, d68]
      · simp [zt, zD, za, e6, e8, k6, k8, d68]
      · exact (hO'.set hn8).ext (by repeat (first | assumption | exact Ext.refl _ | refine zK ?_ | refine Ext.setF ?_ (by first | assumption | (simp [za, St.set, zc, e8']; done) | exact zI (by assumption))))
    · have hfin := hw.fin hm h4
      rw [hfin]
      generalize (zap N d' a).2 = pt at *
      generalize (zap N d' a).1 = sf at *
      have FF := fI @a2 (fI @a3 (fI @a6 (fI @a8 (fI @a9 (fI @k8 (fI @k6 (fI @hv1 (fI @hv2 (fI @hm (fI @h4 (fI @ze (fI @zw (fI @zfD (fI @zjG (fI @zt (fI @zD (fI @za (fI @d68 (fI (Ne.symm d68) (fI @e8 (fI @e6 (fI @e8' @e6')))))))))))))))))))))); refine gxC ?_; clear FF
      exact ze6 (v := v') (b := .int .i64 sf) (c := .int .i64 pt.dev) (d := .int .i64 pt.port) (u := .int .i64 0) (.inr rfl) (by simp [a6, k6, k8, zt, zD, za, e6, e8, e6', e8', d68, Ne.symm d68]) ((((hO'.set hn8).ext (by repeat (first | assumption | exact Ext.refl _ | refine zK ?_ | refine Ext.setF ?_ (by first | assumption | (simp [za, St.set, zc, e8']; done) | exact zI (by assumption))))).set hn8).set hn6) (by repeat (first | assumption | exact Ext.refl _ | refine zK ?_ | refine Ext.setF ?_ (by first | assumption | (simp [za, St.set, zc, e8']; done) | exact zI (by assumption))))
end Go.Proofs.YtpboabpapgimoaaGreat.Av
namespace Go.Proofs.YtpboabpapgimoaaGreat.Av
open Go
set_option linter.unusedSimpArgs false
set_option linter.unusedVariables false
set_option maxRecDepth 100000
set_option maxHeartbeats 4000000
set_option pp.maxSteps 600
theorem zdT {l : List Nw} (h : ∀ n ∈ l, zax n = true) : (zal l).length ≤ 40 * l.length := by
  induction l with
  | nil => simp [zal]
  | cons n l ih =>
    have h1 := (zeF (h n (by simp))).2
    have h2 := ih fun m hm => h m (by simp [hm])
    unfold zal at h2 ⊢
    rw [List.flatMap_cons, List.length_append, List.length_map, List.length_cons]
    omega
theorem zeG {l : List Nw} (h : ∀ n ∈ l, zax n = true) (hl : l.length ≤ 12) (r : Rg) : zba l r = if r.hi < r.lo then [] else zee (zaF (zal l)) r := by
  unfold zba
  have := zdT h
  rw [zmp (zo6 h) (by omega), zjE (List.reverse_perm _)]
theorem zrD : ∀ z : List Rg, zak (zP (z.map zp)) = true := fun z => by
  induction z with
  | nil => rfl
  | cons r z ih => simp [zP, zp, zak, cellOK] at ih ⊢; try exact ih
theorem zeh (l : List (Nw × Fl)) (f : Bool) (r : Rg) (hr : RgOK r) (hn : ∀ p ∈ l, NwOK p.1) (hrt : ∀ p ∈ l, zax p.1 = true) (hl : l.length ≤ 12) :
    PCalls Tryz.prog 26 [zaN l f, zp r] (.tup [z9 (zba (l.map (·.1)) r) false, .raw (.int .i64 (if r.hi < r.lo then 31 else 0))]) := by
  have hrm : ∀ n ∈ l.map (·.1), zax n = true := fun n h => by obtain ⟨p, hp, rfl⟩ := List.mem_map.1 h; exact hrt p hp
  rw [zeG hrm (by simpa using hl)]
  have hlen := zdT hrm
  rw [List.length_map] at hlen
  have hrgok : ∀ x ∈ zal (l.map (·.1)), RgOK x := fun x hx => by
    unfold zal at hx
    obtain ⟨n, hn1, hx⟩ := List.mem_flatMap.1 hx
    obtain ⟨p, hp, rfl⟩ := List.mem_map.1 hn1
    obtain ⟨y, hy, rfl⟩ := List.mem_map.1 hx
    exact (hn p hp).rg y hy
  refine zE Tryz.func26 rfl (N := 66) rfl rfl (by simp) (by simp [noIds]) fun σ => ?_
  have f3 : σ.m ⟨3, σ.nx 3, 2⟩ = none := zc _ _ _
  by_cases q0 : r.hi < r.lo
  · rw [if_pos q0, if_pos q0]
    have FF := fI @rg_cells (fI @rg_fold @q0); refine gxC ?_; clear FF
    refine zct (x := .tup [.sl 0 [] true, .raw (.int .i64 31)]) (.inr rfl) exA ?_ ?_
    · simp
    · simp only [z0, List.map_cons, List.map_nil, zr]
      exact weaker_tup zaT
  rw [if_neg q0, if_neg q0]
  refine zf ?_
  refine zl ?_
  simp [rg_cells]
  refine z8 ⟨3, σ.nx 3, 2⟩ ?_
  generalize hτ : St.del _ _ = τ
  generalize hA : (fun t => zr _ _ _) = A
  have a0 : A 0 = zaN l f := by rw [← hA]; simp [zaN]
  have a3 : A 3 = .pp [.raw (.int .u32 r.lo), .raw (.int .u32 r.hi)] 0 := by rw [← hA, ← hτ]; simp [zr, St.new, St.del, rg_cells]
  have hE : Ext σ τ := by
    rw [← hτ]
    refine ⟨fun i o h => ?_, fun s => ?_⟩
    · rw [zU (fun e => by rw [e, f3] at h; cases h)]
      exact zaz _ _ h
    · exact St.new_le σ 3 2 (.buf [zp r]) s
  clear hτ hA
  have FF := fI @a0 (fI @a3 (fI @q0 zaN.eq_1)); refine gxB ?_; clear FF
  refine zaC (fun B ρ => OwnL σ ρ 2 (B 6) ((zal (l.map (·.1))).map zp) ∧ Ext σ ρ ∧ B 3 = .pp [.raw (.int .u32 r.lo), .raw (.int .u32 r.hi)] 0) ?_ ?_
  · intro R1 hR1
    refine zO (fun n' B ρ => Ext σ ρ ∧ B 0 = zaN l f ∧ B 3 = .pp [.raw (.int .u32 r.lo), .raw (.int .u32 r.hi)] 0 ∧ ∃ (i : Nat) (v : AV), B 7 = .raw (.int .i64 i) ∧ i ≤ l.length ∧ n' = l.length - i ∧ B 6 = v ∧ OwnL σ ρ 2 v ((zal ((l.take i).map (·.1))).map zp)) l.length ?_ ?_
    · exact ⟨hE, by simp [a0], by simp [a3], 0, .sl 0 [] true, by simp, by omega, by omega, by simp, .inl ⟨by simp [zal], rfl⟩⟩
    clear a0 a3 hE
    rintro n' B ρ ⟨hE, a0, a3, i, v, a7, hi, rfl, a6, hO⟩ I1 hI1
    by_cases hlt : i < l.length
    · have hx : l[i]? = some l[i] := List.getElem?_eq_getElem hlt
      have w1 : IntKind.i64.wrap ((i : Int) + 1) = ((i + 1 : Nat) : Int) := by rw [zo (by omega) (by omega)]; omega
      obtain ⟨nf, hnf⟩ : ∃ nf, l[i] = nf := ⟨_, rfl⟩
      have hmem : nf ∈ l := by rw [← hnf]; exact List.getElem_mem hlt
      have h40 := (zeF (hrt nf hmem)).2
      have hsum : zal ((l.take (i + 1)).map (·.1)) = zal ((l.take i).map (·.1)) ++ zer nf.1 := by
        rw [List.take_add_one, hx, hnf]; simp [zal, zer]
      have hl1 : (zal ((l.take i).map (·.1))).length ≤ 480 := by
        have := zdT (l := (l.take i).map (·.1)) fun n h => by
          obtain ⟨p, hp, rfl⟩ := List.mem_map.1 h
          exact hrt p (List.mem_of_mem_take hp)
        rw [List.length_map, List.length_take] at this
        omega
      have hl2 : (zer nf.1).length ≤ 40 := by unfold zer; rw [List.length_map]; exact h40
      have hran := zjT nf.1 nf.2 (by omega)
      have hcs : (zR nf.1 nf.2).cells = [zh nf.1.t.ports nf.2.p, zC nf.1.t.links nf.2.l, zz nf.1.rules nf.2.r] := rfl
      have hfo : AV.agg [zh nf.1.t.ports nf.2.p, zC nf.1.t.links nf.2.l, zz nf.1.rules nf.2.r] = zR nf.1 nf.2 := rfl
      generalize zer nf.1 = R at *
      (try ((first | with_reducible refine zs ?_ | with_reducible refine zx ?_ | with_reducible refine zy ?_); simp [-cellOK, a0, a3, a6, a7, zaN, hlt, hx, hnf, hcs, hfo, zt, zD, za, -zJ])); repeat' (first | ((first | refine zm ?_ | refine zl ?_ | refine dN (by decide +kernel) ?_ | refine dC (by decide +kernel) ?_ | refine uP (hran) ?_ | refine .inl ⟨_, .inl (hran), ?_⟩ | (refine zb ?_ ?_ <;> (intro hg; simp only [hg])) | fail) <;> simp [-cellOK, a0, a3, a6, a7, zaN, hlt, hx, hnf, hcs, hfo, zt, zD, za, -zJ]) | refine zf ?_ | refine zg ?_ | (refine zF ?_; simp only [zG]; try simp) | (refine zd (fun hc => ?_) (fun hc => ?_) <;> try simp at hc) | fail)
      refine zaV zfM (σ0 := σ) (hO.ext exA) exA (ys := R.map zp) (by simp [z9]) (.inr rfl) (zrD _) (by rw [List.length_map, List.length_map]; omega) ?_
      intro v' τ' hO' hE' _ _
      have FF := fI @a0 (fI @a3 (fI @a6 (fI @a7 @w1))); refine gxB ?_; clear FF
      refine hI1 (l.length - (i + 1)) _ _ (by omega) ⟨hE', by simp [a0], by simp [a3], i + 1, v', by simp, by omega, rfl, by simp, ?_⟩
      rw [hsum, List.map_append]
      exact hO'
    · have : i = l.length := by omega
      subst this
      rw [List.take_length] at hO
      have FF := fI @a0 (fI @a3 (fI @a6 (fI @a7 zaN.eq_1))); refine gxB ?_; clear FF
      exact hR1 _ _ ⟨by simp [a6]; exact hO, hE, by simp [a3]⟩
  · rintro B ρ ⟨hO, hE, a3⟩
    refine zgN 6 hO hE ?_
    intro A' τ' hE a6 k1 _ _ _ _
    have a3 := (k1 3 (by decide) (by rw [a3]; rfl)).trans a3
    have a6 : A' 6 = z9 (zal (l.map (·.1))) false := a6
    clear hO k1
    have hc := zlB (zal (l.map (·.1))) false hrgok (by omega)
    have hrg : ∀ x ∈ zaF (zal (l.map (·.1))), 0 ≤ x ∧ x < 4294967296 := fun x hx => (zbt _).range hrgok hx
    have hcl := zfP (zal (l.map (·.1)))
    have he := fun (i : Nat) (h : i < 2 ^ 60) => zmG (zaF (zal (l.map (·.1)))) false i (by omega) h fun x hx => by have := hrg x hx; omega
    have hs := (zbt (zal (l.map (·.1)))).srt
    generalize zal (l.map (·.1)) = L at *
    generalize zaF L = c at *
    obtain ⟨r1, r2, r3, r4⟩ := hr
    have FF := fI @a3 @a6; refine gxB ?_; clear FF
    refine zO (fun n' B ρ => Ext σ ρ ∧ B 3 = .pp [.raw (.int .u32 r.lo), .raw (.int .u32 r.hi)] 0 ∧ B 8 = zh c false ∧ ∃ (i : Nat) (v : AV), B 10 = .raw (.int .i64 i) ∧ i ≤ c.length ∧ n' = c.length - i ∧ B 9 = v ∧ OwnL σ ρ 2 v ((((zaE c).take i).filterMap (zbu r)).map zp)) c.length ?_ ?_
    · exact ⟨hE, by simp [a3], by simp, 0, .sl 0 [] true, by simp, by omega, by omega, by simp, .inl ⟨by simp, rfl⟩⟩
    clear a3 a6 hE
    rintro n' B ρ ⟨hE, a3, a8, i, v, a10, hi, rfl, a9, hO⟩ I1 hI1
    by_cases hlt : i < c.length
    · have hx : c[i]? = some c[i] := List.getElem?_eq_getElem hlt
      have w1 : IntKind.i64.wrap ((i : Int) + 1) = ((i + 1 : Nat) : Int) := by rw [zo (by omega) (by omega)]; omega
      have hend := he i (by omega)
      have hxr := hrg c[i] (List.getElem_mem hlt)
      obtain ⟨x, hxe⟩ : ∃ x, c[i] = x := ⟨_, rfl⟩
      rw [hxe] at hxr
      have hyr : 0 ≤ ziT c i ∧ ziT c i < 4294967296 := by
        unfold ziT
        cases hy : c[i + 1]? with
        | none => simp only; omega
        | some y =>
          obtain ⟨h2, rfl⟩ := List.getElem?_eq_some_iff.1 hy
          have := hrg c[i + 1] (List.getElem_mem h2)
          simp only
          have h3 := List.pairwise_iff_getElem.1 hs i (i + 1) hlt h2 (by omega)
          rw [hxe] at h3
          omega
      have htk : ((zaE c).take (i + 1)).filterMap (zbu r) = ((zaE c).take i).filterMap (zbu r) ++ (zbu r ⟨x, ziT c i⟩).toList := by
        rw [List.take_add_one, zpp, hx, hxe, List.filterMap_append]
        congr 1
      have hcl2 : (((zaE c).take i).filterMap (zbu r)).length ≤ c.length := by
        refine Nat.le_trans (List.length_filterMap_le _ _) ?_
        rw [List.length_take]; omega
      generalize ziT c i = y at *
      have v1 : IntKind.i64.wrap r.lo = r.lo := zo (by omega) (by omega)
      have v2 : IntKind.i64.wrap r.hi = r.hi := zo (by omega) (by omega)
      obtain ⟨m1, hm1⟩ : ∃ m, max x r.lo = m := ⟨_, rfl⟩
      obtain ⟨m2, hm2⟩ : ∃ m, min y r.hi = m := ⟨_, rfl⟩
      have u1 : (if x < r.lo then r.lo else x) = m1 := by rw [← hm1]; split <;> omega
      have u2 : (if r.hi < y then r.hi else y) = m2 := by rw [← hm2]; split <;> omega
      have w2 : IntKind.u32.wrap m1 = m1 := zc1 (by omega) (by omega)
      by_cases hle : m1 ≤ m2
      · have w3 : IntKind.u32.wrap m2 = m2 := zc1 (by omega) (by omega)
        have hco : zbu r ⟨x, y⟩ = some ⟨m1, m2⟩ := by unfold zbu; simp only [hm1, hm2]; rw [if_pos hle]
        rw [hco] at htk
        (try ((first | with_reducible refine zs ?_ | with_reducible refine zx ?_ | with_reducible refine zy ?_); simp [-cellOK, zh, iAV, a3, a8, a9, a10, hlt, hx, hxe, v1, v2, u1, u2, w2, w3, hle, zt, zD, za, -zJ])); repeat' (first | ((first | refine zm ?_ | refine zl ?_ | refine dN (by decide +kernel) ?_ | refine dC (by decide +kernel) ?_ | refine uP (hend) ?_ | refine .inl ⟨_, .inl (hend), ?_⟩ | (refine zb ?_ ?_ <;> (intro hg; simp only [hg])) | fail) <;> simp [-cellOK, zh, iAV, a3, a8, a9, a10, hlt, hx, hxe, v1, v2, u1, u2, w2, w3, hle, zt, zD, za, -zJ]) | refine zf ?_ | refine zg ?_ | (refine zF ?_; simp only [zG]; try simp) | (refine zd (fun hc => ?_) (fun hc => ?_) <;> try simp at hc) | fail)
        refine zaV zfM (σ0 := σ) (hO.ext exA) exA (ys := [zp ⟨m1, m2⟩]) (by simp [zt, za, rg_cells, zp]) (.inr rfl) (by simp [zp, zP, zak, cellOK, AV.cells]) (by rw [List.length_map]; simp only [List.length_cons, List.length_nil]; omega) ?_
        intro v' τ' hO' hE' _ _
        have FF := fI @a3 (fI @a8 (fI @a9 (fI @a10 @w1))); refine gxB ?_; clear FF
        refine hI1 (c.length - (i + 1)) _ _ (by omega) ⟨hE', by simp [a3], by simp [a8], i + 1, v', by simp, by omega, rfl, by simp, ?_⟩
        rw [htk, List.map_append]
        exact hO'
      · have hco : zbu r ⟨x, y⟩ = none := by unfold zbu; simp only [hm1, hm2]; rw [if_neg hle]
        rw [hco] at htk
        have FF := fI zh.eq_1 (fI iAV.eq_1 (fI @a3 (fI @a8 (fI @a9 (fI @a10 (fI @hlt (fI @hx (fI @hxe (fI @v1 (fI @v2 (fI @u1 (fI @u2 (fI @hle (fI @w1 (fI @zt (fI @zD @za)))))))))))))))); refine gxB ?_; clear FF
        refine hI1 (c.length - (i + 1)) _ _ (by omega) ⟨hE, by simp [a3], by simp [a8, zh, iAV], i + 1, v, by simp, by omega, rfl, by simp [a9], ?_⟩
        rw [htk]; simpa using hO
    · have : i = c.length := by omega
      subst this
      rw [List.take_of_length_le (by rw [zcx]; omega)] at hO
      have FF := fI zh.eq_1 (fI @a3 (fI @a8 (fI @a9 @a10))); refine gxC ?_; clear FF
      exact zkU (.inr rfl) (by simp [a9]) hO hE
end Go.Proofs.YtpboabpapgimoaaGreat.Av
namespace Go.Proofs.YtpboabpapgimoaaGreat.Av
open Go
set_option linter.unusedSimpArgs false
set_option linter.unusedVariables false
set_option maxRecDepth 100000
set_option maxHeartbeats 4000000
set_option pp.maxSteps 600
theorem zmH {l : List Nw} (r : Rg) : (zba l r).Pairwise fun a b => a.hi < b.lo := by
  unfold zba
  split
  · simp
  · exact zo5 (zbt _).srt r
theorem zdv {l : List Nw} (h : ∀ n ∈ l, zax n = true) (hl : l.length ≤ 2) : PartsOK (zN l) where
  len := by
    have h1 := zdT h
    have h2 := zfP (zal l)
    unfold zN
    rw [zeG h (by omega), if_neg (by decide)]
    have h3 : (zee (zaF (zal l)) zbr).length ≤ (zaE (zaF (zal l))).length := List.length_filterMap_le _ _
    rw [zcx] at h3
    omega
  inz := fun r hr => by
    obtain ⟨h1, h2, h3⟩ := zgl hr
    have e1 : zbr.lo = 0 := rfl
    have e2 : zbr.hi = 4294967295 := rfl
    exact ⟨by omega, by omega, by omega, by omega⟩
  ord := fun r hr => (zgl hr).2.1
def zan (z Q : List Rg) : List Rg := Q.foldl (fun z r => Zn.joinZ z r.lo r.hi) z
theorem zhP : ∀ (Q z : List Rg), Zn.RZ (-1) z → (∀ q ∈ Q, ∀ r ∈ z, r.hi < q.lo) → (∀ q ∈ Q, 0 ≤ q.lo ∧ q.lo ≤ q.hi) → (Q.Pairwise fun a b => a.hi < b.lo) →
    Zn.RZ (-1) (zan z Q) ∧ ∀ a, Zn.MZ (zan z Q) a ↔ Zn.MZ z a ∨ Zn.MZ Q a
  | [], z, h1, _, _, _ => ⟨h1, fun a => by
      have : ¬ Zn.MZ [] a := Zn.mz_nil
      simp [zan, this]⟩
  | q :: Q, z, h1, h2, h3, h4 => by
    obtain ⟨p1, p2⟩ := List.pairwise_cons.1 h4
    obtain ⟨k1, k2⟩ := h3 q (by simp)
    obtain ⟨j1, j2, j3⟩ := Zn.joinZ_spec z (-1) q.lo q.hi h1 (h2 q (by simp)) (by omega) k2
    obtain ⟨i1, i2⟩ := zhP Q (Zn.joinZ z q.lo q.hi) j1 (fun s hs r hr => by have := j3 r hr; have := p1 s hs; omega) (fun s hs => h3 s (by simp [hs])) p2
    refine ⟨i1, fun a => ?_⟩
    have : zan z (q :: Q) = zan (Zn.joinZ z q.lo q.hi) Q := rfl
    rw [this, i2, j2, Zn.mz_cons, or_assoc]
theorem zol {Q : List Rg} (hi : Zn.InZ Q) (ho : ∀ r ∈ Q, r.lo ≤ r.hi) (hs : Q.Pairwise fun a b => a.hi < b.lo) : zan [] Q = Zn.refOfZ Q := by
  obtain ⟨h1, h2⟩ := zhP Q [] trivial (by simp) (fun q hq => ⟨(hi q hq).1, ho q hq⟩) hs
  obtain ⟨k1, k2, _⟩ := Zn.refOfZ_spec hi
  refine Zn.zone_eq h1 k1 fun a => ?_
  rw [h2, k2]
  exact ⟨fun h => h.resolve_left Zn.mz_nil, .inr⟩
theorem zdE {l : List Nw} (h : PartsOK (zN l)) (w : Int → Bool) : zan [] ((zN l).filter fun r => w r.lo) = zaq (zN l) w :=
  zol (fun r hr => h.inz r (List.mem_filter.1 hr).1) (fun r hr => h.ord r (List.mem_filter.1 hr).1) ((zmH zbr).filter _)
theorem zdz : ∀ (Q z : List Rg), (zan z Q).length ≤ z.length + Q.length
  | [], z => by simp [zan]
  | q :: Q, z => by
    have h1 := zdz Q (Zn.joinZ z q.lo q.hi)
    have h2 := Zn.joinZ_len z q.lo q.hi
    have : zan z (q :: Q) = zan (Zn.joinZ z q.lo q.hi) Q := rfl
    rw [this, List.length_cons]
    omega
theorem zfa : ∀ (Q z : List Rg), Zn.InZ z → Zn.InZ Q → Zn.InZ (zan z Q)
  | [], z, h, _ => h
  | q :: Q, z, h, k => by
    obtain ⟨k1, k2, k3, k4⟩ := k q (by simp)
    exact zfa Q _ (Zn.joinZ_in h ⟨k1, k2⟩ ⟨k3, k4⟩) fun r hr => k r (by simp [hr])
theorem zcj (z Q : List Rg) (q : Rg) : zan z (Q ++ [q]) = Zn.joinZ (zan z Q) q.lo q.hi := by
  simp [zan]
end Go.Proofs.YtpboabpapgimoaaGreat.Av
namespace Go.Proofs.YtpboabpapgimoaaGreat.Av
open Go
set_option linter.unusedSimpArgs false
set_option linter.unusedVariables false
set_option maxRecDepth 100000
set_option maxHeartbeats 4000000
set_option pp.maxSteps 600
theorem zcy (n : Nw) (f : Fl) (d : Int) (hl : n.t.ports.length < 2 ^ 60) : PCalls Tryz.prog 33 [zR n f, .raw (.int .i64 d)] (.raw (.bool (!zas n d))) := by
  refine zE Tryz.func33 rfl (N := 15) rfl rfl (by simp) (by simp [noIds]) fun σ => ?_
  unfold zas
  by_cases h1 : d < 0
  · have h1' := eq_true h1
    have h2' := eq_false (show ¬ 0 ≤ d by omega)
    (try ((first | with_reducible refine zs ?_ | with_reducible refine zx ?_ | with_reducible refine zy ?_); simp [-cellOK, ze, zh, h1', h2', zt, zD, za])); repeat' (first | ((first | refine zm ?_ | refine zl ?_ | refine dN (by decide +kernel) ?_ | refine dC (by decide +kernel) ?_ | (refine zb ?_ ?_ <;> (intro hg; simp only [hg])) | fail) <;> simp [-cellOK, ze, zh, h1', h2', zt, zD, za]) | refine zf ?_ | refine zg ?_ | (refine zF ?_; simp only [zG]; try simp) | (refine zq (by simp) ?_; simp) | (refine zam (by simp) (by simp [noIds]) (by repeat (first | assumption | exact Ext.refl _ | refine zK ?_ | refine Ext.setF ?_ (by first | assumption | (simp [za, St.set, zc]; done) | exact zI (by assumption)))) ?_; simp [-cellOK, ze, zh, h1', h2', zt, zD, za, nsE]) | (refine zd (fun hc => ?_) (fun hc => ?_) <;> try simp at hc) | fail)
  · have h1' := eq_false h1
    have h2' := eq_true (show 0 ≤ d by omega)
    by_cases h3 : d < n.t.ports.length
    · have h3' := eq_true h3
      have h4' := eq_false (show ¬ (n.t.ports.length : Int) ≤ d by omega)
      have FF := fI @ze (fI zh.eq_1 (fI @h1' (fI @h2' (fI @h3' (fI @h4' (fI @zt (fI @zD @za))))))); exact gxA
    · have h3' := eq_false h3
      have h4' := eq_true (show (n.t.ports.length : Int) ≤ d by omega)
      have FF := fI @ze (fI zh.eq_1 (fI @h1' (fI @h2' (fI @h3' (fI @h4' (fI @zt (fI @zD @za))))))); exact gxA
theorem zev : PCalls Tryz.prog 34 [] (zp ⟨0, 4294967295⟩) := by
  refine zE Tryz.func34 rfl (N := 2) rfl rfl (by simp) (by simp [noIds]) fun σ => ?_
  have FF := fI @zt (fI @zD @za); refine gxB ?_; clear FF
  rfl
theorem zp7 (t : Tk) (b : Int) : zbl t b = decide (b ∈ t.path) := by
  unfold zbl
  rw [Bool.eq_iff_iff]
  simp
def zby (how : Int) (t : Tk) (b : Int) : Bool := (decide (how = 1) && zbl t b) || (decide (how = 2) && za4 t b)
theorem zhg {n : Nw} (f : Fl) {a b how : Int} (hn : NwOK n) (hr : zax n = true) (hhow : how = 1 ∨ how = 2) :
    PCalls Tryz.prog 40 [zR n f, .raw (.int .i64 a), .raw (.int .i64 b), .raw (.int .i64 how)] (zbm n [a, b] (zaq (zN [n]) fun x => zby how (zk n a x).1 b)) := by
  have hP := zdv (l := [n]) (by simp [hr]) (by simp)
  have hdl := zcy n f a (by have := hn.ports; omega)
  have hdl2 := zcy n f b (by have := hn.ports; omega)
  have hz := zdS n [a, b] (zaq (zN [n]) fun x => zby how (zk n a x).1 b)
  refine zE Tryz.func40 rfl (N := 97) rfl rfl (by simp) hz fun σ => ?_
  repeat (refine zf ?_)
  refine zl ?_
  simp [-cellOK, ze]
  generalize hA0 : put 97 _ _ _ = A0
  have d1 : A0 1 = .raw (.int .i64 a) := by rw [← hA0]; simp [za]
  have d2 : A0 2 = .raw (.int .i64 b) := by rw [← hA0]; simp [za]
  have d3 : A0 3 = .raw (.int .i64 how) := by rw [← hA0]; simp [za]
  have d4 : A0 4 = .rp ⟨4, σ.nx 4, 3⟩ 0 0 := by rw [← hA0]; simp [za]
  clear hA0
  refine z8 ⟨4, σ.nx 4, 3⟩ ?_
  generalize hτ : St.del _ _ = τ
  generalize hA : (fun t => zr _ _ _) = A
  have a1 : A 1 = .raw (.int .i64 a) := by rw [← hA, ← hτ]; simp [zr, d1]
  have a2 : A 2 = .raw (.int .i64 b) := by rw [← hA, ← hτ]; simp [zr, d2]
  have a3 : A 3 = .raw (.int .i64 how) := by rw [← hA, ← hτ]; simp [zr, d3]
  have a4 : A 4 = .pp (zR n f).cells 0 := by rw [← hA, ← hτ]; simp [zr, St.new, St.del, ze, d4]
  have hE : Ext σ τ := by
    rw [← hτ]
    refine ⟨fun i o h => ?_, fun s => ?_⟩
    · have q1 : i ≠ ⟨4, σ.nx 4, 3⟩ := fun e => by rw [e, zc] at h; cases h
      simp [St.del, St.new, q1, h]
    · simp only [St.del, St.new]
      repeat' split
      all_goals omega
  clear hτ hA d1 d2 d3 d4
  obtain ⟨ba, hba⟩ : ∃ x, zas n a = x := ⟨_, rfl⟩
  obtain ⟨bb, hbb⟩ : ∃ x, zas n b = x := ⟨_, rfl⟩
  rw [hba] at hdl
  rw [hbb] at hdl2
  have hzz : zbm n [a, b] (zaq (zN [n]) fun x => zby how (zk n a x).1 b) = if (ba || bb) = true then .tup [.sl 0 [] true, .raw (.int .i64 91)] else .tup [Zn.zAV (zaq (zN [n]) fun x => zby how (zk n a x).1 b) false, .raw (.int .i64 0)] := by
    unfold zbm
    simp [hba, hbb]
  rw [hzz]
  clear hzz hz
  cases ba with
  | true => have FF := fI @a1 (fI @a2 (fI @a3 (fI @a4 (fI @ze @zw)))); exact gxA
  | false =>
  cases bb with
  | true => have FF := fI @a1 (fI @a2 (fI @a3 (fI @a4 (fI @ze @zw)))); exact gxA
  | false =>
  rw [if_neg (by simp)]
  refine goD ?_
  iterate 13 (first | ((first | refine zm ?_ | refine zl ?_ | refine dN (by decide +kernel) ?_ | refine dC (by decide +kernel) ?_ | refine uP (hdl) ?_ | refine .inl ⟨_, .inl (hdl), ?_⟩ | refine uP (hdl2) ?_ | refine .inl ⟨_, .inl (hdl2), ?_⟩ | (refine zb ?_ ?_ <;> (intro hg; simp only [hg])) | fail) <;> simp [-cellOK, a1, a2, a3, a4, ze, zw]) | refine zf ?_ | refine zg ?_ | (refine zF ?_; simp only [zG]; try simp) | (refine zd (fun hc => ?_) (fun hc => ?_) <;> try simp at hc) | fail)
  refine zf ?_
  refine zbF (fun o => o.dst == some 35) zc8 (by decide +kernel) ?_
  simp [-cellOK, a1, a2, a3, a4, ze, zw, zt, za]
  refine .inl ⟨_, .inl zev, ?_⟩
  refine ACalls.freeze ⟨34, τ.nx 34, 3⟩ ?_
  have f34 : σ.m ⟨34, τ.nx 34, 3⟩ = none := zI hE
  have hmap : List.map (zr (St.del (τ.new 34 3 (.buf [zR n f])) ⟨34, τ.nx 34, 3⟩).m (τ.new 34 3 (.buf [zR n f])).m) [.rs ⟨34, τ.nx 34, 3⟩ 0 1, zp ⟨0, 4294967295⟩] = [zaN [(n, f)] false, zp zbr] := by
    rw [List.map_cons, List.map_cons, List.map_nil, zbf (es := [zR n f]) (by simp [St.del]) (by simp [zt, za]) (by simp)]
    rfl
  rw [hmap]
  have hE2 : Ext σ (St.del (τ.new 34 3 (.buf [zR n f])) ⟨34, τ.nx 34, 3⟩) := Ext.delZ (zK hE) f34
  generalize St.del _ _ = ρ at *
  clear hmap f34 hE
  have hcut := zeh [(n, f)] false zbr ⟨by decide, by decide, by decide, by decide⟩ (by simp [hn]) (by simp [hr]) (by simp)
  have hce : (if zbr.hi < zbr.lo then (31 : Int) else 0) = 0 := by decide
  rw [hce] at hcut
  have hPe : zba (List.map (fun x : Nw × Fl => x.1) [(n, f)]) zbr = zN [n] := rfl
  rw [hPe] at hcut
  have hlen := hP.len
  have hinz := hP.inz
  rw [← zdE hP]
  generalize zN [n] = P at *
  clear hP hPe
  refine hcut.use ?_
  have FF := fI @a1 (fI @a2 (fI @a3 @a4)); refine gxB ?_; clear FF
  refine zaC (fun B ρ' => OwnL σ ρ' 2 (B 12) ((zan [] (P.filter fun r => zby how (zk n a r.lo).1 b)).map zp) ∧ Ext σ ρ') ?_ ?_
  · intro R1 hR1
    refine zO (fun n' B ρ' => Ext σ ρ' ∧ B 1 = .raw (.int .i64 a) ∧ B 2 = .raw (.int .i64 b) ∧ B 3 = .raw (.int .i64 how) ∧ B 4 = .pp (zR n f).cells 0 ∧ B 13 = z9 P false ∧ ∃ (i : Nat) (v : AV), B 15 = .raw (.int .i64 i) ∧ i ≤ P.length ∧ n' = P.length - i ∧ B 12 = v ∧ OwnL σ ρ' 2 v ((zan [] ((P.take i).filter fun r => zby how (zk n a r.lo).1 b)).map zp)) P.length ?_ ?_
    · exact ⟨hE2, by simp [a1], by simp [a2], by simp [a3], by simp [a4], by simp [z9], 0, .sl 0 [] true, by simp, by omega, by omega, by simp, .inl ⟨by simp [zan], rfl⟩⟩
    clear a1 a2 a3 a4 hE2
    rintro n' B ρ' ⟨hE, a1, a2, a3, a4, a13, i, v, a15, hi, rfl, a12, hO⟩ I1 hI1
    by_cases hlt : i < P.length
    · have hx : P[i]? = some P[i] := List.getElem?_eq_getElem hlt
      have w1 : IntKind.i64.wrap ((i : Int) + 1) = ((i + 1 : Nat) : Int) := by rw [zo (by omega) (by omega)]; omega
      have hri := hinz P[i] (List.getElem_mem hlt)
      have hsum : (P.take (i + 1)).filter (fun r => zby how (zk n a r.lo).1 b) = (P.take i).filter (fun r => zby how (zk n a r.lo).1 b) ++ (if zby how (zk n a P[i].lo).1 b = true then [P[i]] else []) := by
        rw [List.take_add_one, hx, List.filter_append]
        simp only [Option.toList_some, List.filter_cons, List.filter_nil]
      have hin1 : Zn.InZ (zan [] ((P.take i).filter fun r => zby how (zk n a r.lo).1 b)) := zfa _ _ (fun _ h => by cases h) fun r hr => hinz r (List.mem_of_mem_take (List.mem_filter.1 hr).1)
      have hjl : (zan [] ((P.take i).filter fun r => zby how (zk n a r.lo).1 b)).length < 2 ^ 36 := by
        have h1 := zdz ((P.take i).filter fun r => zby how (zk n a r.lo).1 b) []
        have h2 := List.length_filter_le (fun r : Rg => zby how (zk n a r.lo).1 b) (P.take i)
        rw [List.length_take] at h2
        simp only [List.length_nil] at h1
        omega
      have h1 := zdu n f a P[i].lo hn hr
      have l1 := zbC n a P[i].lo
      have l3 := hn.links
      obtain ⟨r, hr'⟩ : ∃ r, P[i] = r := ⟨_, rfl⟩
      rw [hr'] at hx hri hsum h1 l1
      have h2 := zhf (zk n a r.lo).1.path false b (by omega)
      rw [← zp7] at h2
      generalize (P.take i).filter (fun r => zby how (zk n a r.lo).1 b) = Q at *
      generalize (zk n a r.lo).2 = eT at h1
      generalize (zk n a r.lo).1 = T at *
      obtain ⟨c, hc⟩ : ∃ c, zbl T b = c := ⟨_, rfl⟩
      rw [hc] at h2
      obtain ⟨wb, hwb⟩ : ∃ wb, zby how T b = wb := ⟨_, rfl⟩
      rw [hwb] at hsum
      unfold zby za4 at hwb
      rw [hc] at hwb
      have wlo : IntKind.i64.wrap r.lo = r.lo := by obtain ⟨k1, k2, k3, k4⟩ := hri; exact zo (by omega) (by omega)
      have whi : IntKind.i64.wrap r.hi = r.hi := by obtain ⟨k1, k2, k3, k4⟩ := hri; exact zo (by omega) (by omega)
      have hj := fun (ρ2 : St) (hE' : Ext σ ρ2) (hO' : OwnL σ ρ2 2 v ((zan [] Q).map zp)) => Zn.join_calls (f := r.lo) (t := r.hi) hE' hO' hin1 ⟨hri.1, hri.2.1⟩ ⟨hri.2.2.1, hri.2.2.2⟩ hjl
      have hbr : (T.out = 3) = True ∨ (T.out = 3) = False := by by_cases h : T.out = 3 <;> simp [h]
      have hbl : (T.last.dev = b) = True ∨ (T.last.dev = b) = False := by by_cases h : T.last.dev = b <;> simp [h]
      rcases hhow with rfl | rfl
      · cases c with
        | true =>
          rcases hbr with h3 | h3
          · rcases hbl with h4 | h4
            · have hwt : wb = true := by rw [← hwb]; simp [h3, h4]
              subst hwt
              rw [if_pos rfl] at hsum
              (try ((first | with_reducible refine zs ?_ | with_reducible refine zx ?_ | with_reducible refine zy ?_); simp [-cellOK, a1, a2, a3, a4, a13, a15, a12, hlt, hx, hr', h3, h4, z9, rg_cells, rg_fold, ze, zw, zX, zau, zb5, zbM, zbz, wlo, whi, zt, zD, za])); repeat' (first | ((first | refine zm ?_ | refine zl ?_ | refine dN (by decide +kernel) ?_ | refine dC (by decide +kernel) ?_ | refine uP (h1) ?_ | refine .inl ⟨_, .inl (h1), ?_⟩ | refine uP (h2) ?_ | refine .inl ⟨_, .inl (h2), ?_⟩ | (refine zb ?_ ?_ <;> (intro hg; simp only [hg])) | fail) <;> simp [-cellOK, a1, a2, a3, a4, a13, a15, a12, hlt, hx, hr', h3, h4, z9, rg_cells, rg_fold, ze, zw, zX, zau, zb5, zbM, zbz, wlo, whi, zt, zD, za]) | refine zf ?_ | refine zg ?_ | (refine zF ?_; simp only [zG]; try simp) | (refine zd (fun hc => ?_) (fun hc => ?_) <;> try simp at hc) | fail)
              refine (hj _ exA (hO.ext exA)).mono ?_
              rintro v' τ2 ⟨hO2, hE2⟩
              have FF := fI @a1 (fI @a2 (fI @a3 (fI @a4 (fI @a13 (fI @a15 @w1))))); refine gxB ?_; clear FF
              refine hI1 (P.length - (i + 1)) _ _ (by omega) ⟨hE2, by simp [a1], by simp [a2], by simp [a3], by simp [a4], by simp [a13], i + 1, v', by simp, by omega, rfl, by simp, ?_⟩
              rw [hsum, zcj]
              exact hO2
            · have hwt : wb = true := by rw [← hwb]; simp [h3, h4]
              subst hwt
              rw [if_pos rfl] at hsum
              have FF := fI @a1 (fI @a2 (fI @a3 (fI @a4 (fI @a13 (fI @a15 (fI @a12 (fI @hlt (fI @hx (fI @hr' (fI @h3 (fI @h4 (fI z9.eq_1 (fI @rg_cells (fI @rg_fold (fI @ze (fI @zw (fI @zX (fI @zau (fI @zb5 (fI @zbM (fI @zbz (fI @wlo (fI @whi (fI @zt (fI @zD @za))))))))))))))))))))))))); refine gxC ?_; clear FF
              refine (hj _ exA (hO.ext exA)).mono ?_
              rintro v' τ2 ⟨hO2, hE2⟩
              have FF := fI @a1 (fI @a2 (fI @a3 (fI @a4 (fI @a13 (fI @a15 @w1))))); refine gxB ?_; clear FF
              refine hI1 (P.length - (i + 1)) _ _ (by omega) ⟨hE2, by simp [a1], by simp [a2], by simp [a3], by simp [a4], by simp [a13], i + 1, v', by simp, by omega, rfl, by simp, ?_⟩
              rw [hsum, zcj]
              exact hO2
          · have hwt : wb = true := by rw [← hwb]; simp [h3]
            subst hwt
            rw [if_pos rfl] at hsum
            have FF := fI @a1 (fI @a2 (fI @a3 (fI @a4 (fI @a13 (fI @a15 (fI @a12 (fI @hlt (fI @hx (fI @hr' (fI @h3 (fI z9.eq_1 (fI @rg_cells (fI @rg_fold (fI @ze (fI @zw (fI @zX (fI @zau (fI @zb5 (fI @zbM (fI @zbz (fI @wlo (fI @whi (fI @zt (fI @zD @za)))))))))))))))))))))))); refine gxC ?_; clear FF
            refine (hj _ exA (hO.ext exA)).mono ?_
            rintro v' τ2 ⟨hO2, hE2⟩
            have FF := fI @a1 (fI @a2 (fI @a3 (fI @a4 (fI @a13 (fI @a15 @w1))))); refine gxB ?_; clear FF
            refine hI1 (P.length - (i + 1)) _ _ (by omega) ⟨hE2, by simp [a1], by simp [a2], by simp [a3], by simp [a4], by simp [a13], i + 1, v', by simp, by omega, rfl, by simp, ?_⟩
            rw [hsum, zcj]
            exact hO2
        | false =>
          rcases hbr with h3 | h3
          · rcases hbl with h4 | h4
            · have hwt : wb = false := by rw [← hwb]; simp [h3, h4]
              subst hwt
              rw [if_neg (by simp), List.append_nil] at hsum
              have FF := fI @a1 (fI @a2 (fI @a3 (fI @a4 (fI @a13 (fI @a15 (fI @a12 (fI @hlt (fI @hx (fI @hr' (fI @h3 (fI @h4 (fI z9.eq_1 (fI @rg_cells (fI @rg_fold (fI @ze (fI @zw (fI @zX (fI @zau (fI @zb5 (fI @zbM (fI @zbz (fI @wlo (fI @whi (fI @zt (fI @zD (fI @za @w1)))))))))))))))))))))))))); refine gxC ?_; clear FF
              refine hI1 (P.length - (i + 1)) _ _ (by omega) ⟨exA, by simp [a1], by simp [a2], by simp [a3], by simp [a4], by simp [a13, z9], i + 1, v, by simp, by omega, rfl, by simp [a12], ?_⟩
              rw [hsum]
              exact hO.ext exA
            · have hwt : wb = false := by rw [← hwb]; simp [h3, h4]
              subst hwt
              rw [if_neg (by simp), List.append_nil] at hsum
              have FF := fI @a1 (fI @a2 (fI @a3 (fI @a4 (fI @a13 (fI @a15 (fI @a12 (fI @hlt (fI @hx (fI @hr' (fI @h3 (fI @h4 (fI z9.eq_1 (fI @rg_cells (fI @rg_fold (fI @ze (fI @zw (fI @zX (fI @zau (fI @zb5 (fI @zbM (fI @zbz (fI @wlo (fI @whi (fI @zt (fI @zD (fI @za @w1)))))))))))))))))))))))))); refine gxC ?_; clear FF
              refine hI1 (P.length - (i + 1)) _ _ (by omega) ⟨exA, by simp [a1], by simp [a2], by simp [a3], by simp [a4], by simp [a13, z9], i + 1, v, by simp, by omega, rfl, by simp [a12], ?_⟩
              rw [hsum]
              exact hO.ext exA
          · have hwt : wb = false := by rw [← hwb]; simp [h3]
            subst hwt
            rw [if_neg (by simp), List.append_nil] at hsum
            have FF := fI @a1 (fI @a2 (fI @a3 (fI @a4 (fI @a13 (fI @a15 (fI @a12 (fI @hlt (fI @hx (fI @hr' (fI @h3 (fI z9.eq_1 (fI @rg_cells (fI @rg_fold (fI @ze (fI @zw (fI @zX (fI @zau (fI @zb5 (fI @zbM (fI @zbz (fI @wlo (fI @whi (fI @zt (fI @zD (fI @za @w1))))))))))))))))))))))))); refine gxC ?_; clear FF
            refine hI1 (P.length - (i + 1)) _ _ (by omega) ⟨exA, by simp [a1], by simp [a2], by simp [a3], by simp [a4], by simp [a13, z9], i + 1, v, by simp, by omega, rfl, by simp [a12], ?_⟩
            rw [hsum]
            exact hO.ext exA
      · cases c with
        | true =>
          rcases hbr with h3 | h3
          · rcases hbl with h4 | h4
            · have hwt : wb = true := by rw [← hwb]; simp [h3, h4]
              subst hwt
              rw [if_pos rfl] at hsum
              have FF := fI @a1 (fI @a2 (fI @a3 (fI @a4 (fI @a13 (fI @a15 (fI @a12 (fI @hlt (fI @hx (fI @hr' (fI @h3 (fI @h4 (fI z9.eq_1 (fI @rg_cells (fI @rg_fold (fI @ze (fI @zw (fI @zX (fI @zau (fI @zb5 (fI @zbM (fI @zbz (fI @wlo (fI @whi (fI @zt (fI @zD @za))))))))))))))))))))))))); refine gxC ?_; clear FF
              refine (hj _ exA (hO.ext exA)).mono ?_
              rintro v' τ2 ⟨hO2, hE2⟩
              have FF := fI @a1 (fI @a2 (fI @a3 (fI @a4 (fI @a13 (fI @a15 @w1))))); refine gxB ?_; clear FF
              refine hI1 (P.length - (i + 1)) _ _ (by omega) ⟨hE2, by simp [a1], by simp [a2], by simp [a3], by simp [a4], by simp [a13], i + 1, v', by simp, by omega, rfl, by simp, ?_⟩
              rw [hsum, zcj]
              exact hO2
            · have hwt : wb = false := by rw [← hwb]; simp [h3, h4]
              subst hwt
              rw [if_neg (by simp), List.append_nil] at hsum
              have FF := fI @a1 (fI @a2 (fI @a3 (fI @a4 (fI @a13 (fI @a15 (fI @a12 (fI @hlt (fI @hx (fI @hr' (fI @h3 (fI @h4 (fI z9.eq_1 (fI @rg_cells (fI @rg_fold (fI @ze (fI @zw (fI @zX (fI @zau (fI @zb5 (fI @zbM (fI @zbz (fI @wlo (fI @whi (fI @zt (fI @zD (fI @za @w1)))))))))))))))))))))))))); refine gxC ?_; clear FF
              refine hI1 (P.length - (i + 1)) _ _ (by omega) ⟨exA, by simp [a1], by simp [a2], by simp [a3], by simp [a4], by simp [a13, z9], i + 1, v, by simp, by omega, rfl, by simp [a12], ?_⟩
              rw [hsum]
              exact hO.ext exA
          · have hwt : wb = false := by rw [← hwb]; simp [h3]
            subst hwt
            rw [if_neg (by simp), List.append_nil] at hsum
            have FF := fI @a1 (fI @a2 (fI @a3 (fI @a4 (fI @a13 (fI @a15 (fI @a12 (fI @hlt (fI @hx (fI @hr' (fI @h3 (fI z9.eq_1 (fI @rg_cells (fI @rg_fold (fI @ze (fI @zw (fI @zX (fI @zau (fI @zb5 (fI @zbM (fI @zbz (fI @wlo (fI @whi (fI @zt (fI @zD (fI @za @w1))))))))))))))))))))))))); refine gxC ?_; clear FF
            refine hI1 (P.length - (i + 1)) _ _ (by omega) ⟨exA, by simp [a1], by simp [a2], by simp [a3], by simp [a4], by simp [a13, z9], i + 1, v, by simp, by omega, rfl, by simp [a12], ?_⟩
            rw [hsum]
            exact hO.ext exA
        | false =>
          rcases hbr with h3 | h3
          · rcases hbl with h4 | h4
            · have hwt : wb = true := by rw [← hwb]; simp [h3, h4]
              subst hwt
              rw [if_pos rfl] at hsum
              have FF := fI @a1 (fI @a2 (fI @a3 (fI @a4 (fI @a13 (fI @a15 (fI @a12 (fI @hlt (fI @hx (fI @hr' (fI @h3 (fI @h4 (fI z9.eq_1 (fI @rg_cells (fI @rg_fold (fI @ze (fI @zw (fI @zX (fI @zau (fI @zb5 (fI @zbM (fI @zbz (fI @wlo (fI @whi (fI @zt (fI @zD @za))))))))))))))))))))))))); refine gxC ?_; clear FF
              refine (hj _ exA (hO.ext exA)).mono ?_
              rintro v' τ2 ⟨hO2, hE2⟩
              have FF := fI @a1 (fI @a2 (fI @a3 (fI @a4 (fI @a13 (fI @a15 @w1))))); refine gxB ?_; clear FF
              refine hI1 (P.length - (i + 1)) _ _ (by omega) ⟨hE2, by simp [a1], by simp [a2], by simp [a3], by simp [a4], by simp [a13], i + 1, v', by simp, by omega, rfl, by simp, ?_⟩
              rw [hsum, zcj]
              exact hO2
            · have hwt : wb = false := by rw [← hwb]; simp [h3, h4]
              subst hwt
              rw [if_neg (by simp), List.append_nil] at hsum
              have FF := fI @a1 (fI @a2 (fI @a3 (fI @a4 (fI @a13 (fI @a15 (fI @a12 (fI @hlt (fI @hx (fI @hr' (fI @h3 (fI @h4 (fI z9.eq_1 (fI @rg_cells (fI @rg_fold (fI @ze (fI @zw (fI @zX (fI @zau (fI @zb5 (fI @zbM (fI @zbz (fI @wlo (fI @whi (fI @zt (fI @zD (fI @za @w1)))))))))))))))))))))))))); refine gxC ?_; clear FF
              refine hI1 (P.length - (i + 1)) _ _ (by omega) ⟨exA, by simp [a1], by simp [a2], by simp [a3], by simp [a4], by simp [a13, z9], i + 1, v, by simp, by omega, rfl, by simp [a12], ?_⟩
              rw [hsum]
              exact hO.ext exA
          · have hwt : wb = false := by rw [← hwb]; simp [h3]
            subst hwt
            rw [if_neg (by simp), List.append_nil] at hsum
            have FF := fI @a1 (fI @a2 (fI @a3 (fI @a4 (fI @a13 (fI @a15 (fI @a12 (fI @hlt (fI @hx (fI @hr' (fI @h3 (fI z9.eq_1 (fI @rg_cells (fI @rg_fold (fI @ze (fI @zw (fI @zX (fI @zau (fI @zb5 (fI @zbM (fI @zbz (fI @wlo (fI @whi (fI @zt (fI @zD (fI @za @w1))))))))))))))))))))))))); refine gxC ?_; clear FF
            refine hI1 (P.length - (i + 1)) _ _ (by omega) ⟨exA, by simp [a1], by simp [a2], by simp [a3], by simp [a4], by simp [a13, z9], i + 1, v, by simp, by omega, rfl, by simp [a12], ?_⟩
            rw [hsum]
            exact hO.ext exA
    · have : i = P.length := by omega
      subst this
      rw [List.take_length] at hO
      have FF := fI @a1 (fI @a2 (fI @a3 (fI @a4 (fI @a13 (fI @a15 z9.eq_1))))); refine gxB ?_; clear FF
      exact hR1 _ _ ⟨by simp [a12]; exact hO, hE⟩
  · rintro B ρ' ⟨hO, hE⟩
    generalize hb12 : B 12 = v at *
    have FF := @hb12; refine gxC ?_; clear FF
    exact Zn.retP_own2 (.inr rfl) (by simp) hO hE
theorem zjU {n : Nw} (f : Fl) {a b : Int} (hn : NwOK n) (hr : zax n = true) :
    PCalls Tryz.prog 14 [zR n f, .raw (.int .i64 a), .raw (.int .i64 b)] (zbm n [a, b] (zaq (zN [n]) fun x => zbl (zk n a x).1 b)) := by
  have hw : (fun x : Int => zbl (zk n a x).1 b) = fun x => zby 1 (zk n a x).1 b := by funext x; simp [zby]
  rw [hw]
  have hc := zhg f (a := a) (b := b) (how := 1) hn hr (.inl rfl)
  have hz := zdS n [a, b] (zaq (zN [n]) fun x => zby 1 (zk n a x).1 b)
  have hcase : (∃ e, zbm n [a, b] (zaq (zN [n]) fun x => zby 1 (zk n a x).1 b) = .tup [.sl 0 [] true, .raw (.int .i64 e)]) ∨ ∃ z e, zbm n [a, b] (zaq (zN [n]) fun x => zby 1 (zk n a x).1 b) = .tup [Zn.zAV z false, .raw (.int .i64 e)] := by
    unfold zbm
    split
    · exact .inl ⟨_, rfl⟩
    · exact .inr ⟨_, _, rfl⟩
  generalize zbm n [a, b] _ = Z at *
  refine zE Tryz.func14 rfl (N := 14) rfl rfl (by simp) hz fun σ => ?_
  rcases hcase with ⟨e, rfl⟩ | ⟨z, e, rfl⟩
  · have FF := fI @ze (fI @zw (fI @zt (fI @zD @za))); exact gxA
  · have FF := fI @ze (fI @zw (fI @zt (fI @zD @za))); exact gxA
theorem zid {n : Nw} (f : Fl) {a b : Int} (hn : NwOK n) (hr : zax n = true) :
    PCalls Tryz.prog 16 [zR n f, .raw (.int .i64 a), .raw (.int .i64 b)] (zbm n [a, b] (zaq (zN [n]) fun x => za4 (zk n a x).1 b)) := by
  have hw : (fun x : Int => za4 (zk n a x).1 b) = fun x => zby 2 (zk n a x).1 b := by funext x; simp [zby]
  rw [hw]
  have hc := zhg f (a := a) (b := b) (how := 2) hn hr (.inr rfl)
  have hz := zdS n [a, b] (zaq (zN [n]) fun x => zby 2 (zk n a x).1 b)
  have hcase : (∃ e, zbm n [a, b] (zaq (zN [n]) fun x => zby 2 (zk n a x).1 b) = .tup [.sl 0 [] true, .raw (.int .i64 e)]) ∨ ∃ z e, zbm n [a, b] (zaq (zN [n]) fun x => zby 2 (zk n a x).1 b) = .tup [Zn.zAV z false, .raw (.int .i64 e)] := by
    unfold zbm
    split
    · exact .inl ⟨_, rfl⟩
    · exact .inr ⟨_, _, rfl⟩
  generalize zbm n [a, b] _ = Z at *
  refine zE Tryz.func16 rfl (N := 14) rfl rfl (by simp) hz fun σ => ?_
  rcases hcase with ⟨e, rfl⟩ | ⟨z, e, rfl⟩
  · have FF := fI @ze (fI @zw (fI @zt (fI @zD @za))); exact gxA
  · have FF := fI @ze (fI @zw (fI @zt (fI @zD @za))); exact gxA
end Go.Proofs.YtpboabpapgimoaaGreat.Av
namespace Go.Proofs.YtpboabpapgimoaaGreat.Av
open Go
set_option linter.unusedSimpArgs false
set_option linter.unusedVariables false
set_option maxRecDepth 100000
set_option maxHeartbeats 4000000
set_option pp.maxSteps 600
theorem zjV (x y : Tk) (fx fy : Bool) (hx : x.path.length < 2 ^ 60) (hy : y.path.length < 2 ^ 60) : PCalls Tryz.prog 51 [zaX x fx, zaX y fy] (.raw (.bool (decide (x = y)))) := by
  have h := zlA x.path y.path fx fy hx hy
  have hxy : decide (x = y) = (decide (x.path = y.path) && (decide (x.out = y.out) && (decide (x.last.dev = y.last.dev) && decide (x.last.port = y.last.port)))) := by
    rcases x with ⟨p, o, ⟨a, b⟩⟩; rcases y with ⟨p', o', ⟨a', b'⟩⟩
    rw [Bool.eq_iff_iff]; simp
  rw [hxy]
  generalize decide (x.path = y.path) = b at *
  refine zE Tryz.func51 rfl (N := 26) rfl rfl (by simp) (by simp [noIds]) fun σ => ?_
  have k1 : (x.out = y.out) = True ∨ (x.out = y.out) = False := by by_cases h : x.out = y.out <;> simp [h]
  have k2 : (x.last.dev = y.last.dev) = True ∨ (x.last.dev = y.last.dev) = False := by by_cases h : x.last.dev = y.last.dev <;> simp [h]
  have k3 : (x.last.port = y.last.port) = True ∨ (x.last.port = y.last.port) = False := by by_cases h : x.last.port = y.last.port <;> simp [h]
  cases b <;> rcases k1 with k1 | k1 <;> rcases k2 with k2 | k2 <;> rcases k3 with k3 | k3
  all_goals
    have FF := fI @zX (fI @k1 (fI @k2 (fI @k3 (fI @zt (fI @zD @za))))); exact gxA
end Go.Proofs.YtpboabpapgimoaaGreat.Av
namespace Go.Proofs.YtpboabpapgimoaaGreat.Av
open Go
set_option linter.unusedSimpArgs false
set_option linter.unusedVariables false
set_option maxRecDepth 100000
set_option maxHeartbeats 4000000
set_option pp.maxSteps 600
theorem ziU {x y : Nw} (f g : Fl) {d : Int} (hx : NwOK x) (hy : NwOK y) (hrx : zax x = true) (hry : zax y = true) :
    PCalls Tryz.prog 25 [zR x f, zR y g, .raw (.int .i64 d)] (zeg (zas x d || zas y d) (zaq (zN [x, y]) fun a => !decide ((zk x d a).1 = (zk y d a).1))) := by
  have hP := zdv (l := [x, y]) (by simp [hrx, hry]) (by simp)
  have hdl := zcy x f d (by have := hx.ports; omega)
  have hdl2 := zcy y g d (by have := hy.ports; omega)
  have hz := zjS (zas x d || zas y d) (zaq (zN [x, y]) fun a => !decide ((zk x d a).1 = (zk y d a).1))
  refine zE Tryz.func25 rfl (N := 87) rfl rfl (by simp) hz fun σ => ?_
  repeat (refine zf ?_)
  refine zl ?_
  simp [-cellOK, ze]
  generalize hA0 : put 87 _ _ _ = A0
  have d2 : A0 2 = .raw (.int .i64 d) := by rw [← hA0]; simp [za]
  have d3 : A0 3 = .rp ⟨3, σ.nx 3, 3⟩ 0 0 := by rw [← hA0]; simp [za]
  have d4 : A0 4 = .rp ⟨4, σ.nx 4, 3⟩ 0 0 := by rw [← hA0]; simp [za]
  clear hA0
  refine z8 ⟨3, σ.nx 3, 3⟩ ?_
  refine z8 ⟨4, σ.nx 4, 3⟩ ?_
  generalize hτ : St.del _ _ = τ
  generalize hA : (fun t => zr _ _ _) = A
  have a2 : A 2 = .raw (.int .i64 d) := by rw [← hA, ← hτ]; simp [zr, d2]
  have a3 : A 3 = .pp (zR x f).cells 0 := by rw [← hA, ← hτ]; simp [zr, St.new, St.del, ze, d3]
  have a4 : A 4 = .pp (zR y g).cells 0 := by rw [← hA, ← hτ]; simp [zr, St.new, St.del, ze, d4]
  have hE : Ext σ τ := by
    rw [← hτ]
    refine ⟨fun i o h => ?_, fun s => ?_⟩
    · have q1 : i ≠ ⟨3, σ.nx 3, 3⟩ := fun e => by rw [e, zc] at h; cases h
      have q2 : i ≠ ⟨4, σ.nx 4, 3⟩ := fun e => by rw [e, zc] at h; cases h
      simp [St.del, St.new, q1, q2, h]
    · simp only [St.del, St.new]
      repeat' split
      all_goals omega
  clear hτ hA d2 d3 d4
  obtain ⟨ba, hba⟩ : ∃ q, zas x d = q := ⟨_, rfl⟩
  obtain ⟨bb, hbb⟩ : ∃ q, zas y d = q := ⟨_, rfl⟩
  rw [hba] at hdl
  rw [hbb] at hdl2
  rw [hba, hbb]
  clear hz
  unfold zeg
  cases ba with
  | true => have FF := fI @a2 (fI @a3 (fI @a4 (fI @ze @zw))); exact gxA
  | false =>
  cases bb with
  | true => have FF := fI @a2 (fI @a3 (fI @a4 (fI @ze @zw))); exact gxA
  | false =>
  rw [if_neg (by simp)]
  refine goD ?_
  iterate 13 (first | ((first | refine zm ?_ | refine zl ?_ | refine dN (by decide +kernel) ?_ | refine dC (by decide +kernel) ?_ | refine uP (hdl) ?_ | refine .inl ⟨_, .inl (hdl), ?_⟩ | refine uP (hdl2) ?_ | refine .inl ⟨_, .inl (hdl2), ?_⟩ | (refine zb ?_ ?_ <;> (intro hg; simp only [hg])) | fail) <;> simp [-cellOK, a2, a3, a4, ze, zw]) | refine zf ?_ | refine zg ?_ | (refine zF ?_; simp only [zG]; try simp) | (refine zd (fun hc => ?_) (fun hc => ?_) <;> try simp at hc) | fail)
  refine zf ?_
  refine zbF (fun o => o.dst == some 35) zc8 (by decide +kernel) ?_
  simp [-cellOK, a2, a3, a4, ze, zw, zt, za]
  refine .inl ⟨_, .inl zev, ?_⟩
  refine ACalls.freeze ⟨34, τ.nx 34, 3⟩ ?_
  have f34 : σ.m ⟨34, τ.nx 34, 3⟩ = none := zI hE
  have hmap : List.map (zr (St.del (τ.new 34 3 (.buf [zR x f, zR y g])) ⟨34, τ.nx 34, 3⟩).m (τ.new 34 3 (.buf [zR x f, zR y g])).m) [.rs ⟨34, τ.nx 34, 3⟩ 0 2, zp ⟨0, 4294967295⟩] = [zaN [(x, f), (y, g)] false, zp zbr] := by
    rw [List.map_cons, List.map_cons, List.map_nil, zbf (es := [zR x f, zR y g]) (by simp [St.del]) (by simp [zt, za]) (by simp)]
    rfl
  rw [hmap]
  have hE2 : Ext σ (St.del (τ.new 34 3 (.buf [zR x f, zR y g])) ⟨34, τ.nx 34, 3⟩) := Ext.delZ (zK hE) f34
  generalize St.del _ _ = ρ at *
  clear hmap f34 hE
  have hcut := zeh [(x, f), (y, g)] false zbr ⟨by decide, by decide, by decide, by decide⟩ (by simp [hx, hy]) (by simp [hrx, hry]) (by simp)
  have hce : (if zbr.hi < zbr.lo then (31 : Int) else 0) = 0 := by decide
  rw [hce] at hcut
  have hPe : zba (List.map (fun x : Nw × Fl => x.1) [(x, f), (y, g)]) zbr = zN [x, y] := rfl
  rw [hPe] at hcut
  have hlen := hP.len
  have hinz := hP.inz
  rw [← zdE hP]
  generalize zN [x, y] = P at *
  clear hP hPe
  refine hcut.use ?_
  have FF := fI @a2 (fI @a3 @a4); refine gxB ?_; clear FF
  refine zaC (fun B ρ' => OwnL σ ρ' 2 (B 10) ((zan [] (P.filter fun r => !decide ((zk x d r.lo).1 = (zk y d r.lo).1))).map zp) ∧ Ext σ ρ') ?_ ?_
  · intro R1 hR1
    refine zO (fun n' B ρ' => Ext σ ρ' ∧ B 2 = .raw (.int .i64 d) ∧ B 3 = .pp (zR x f).cells 0 ∧ B 4 = .pp (zR y g).cells 0 ∧ B 11 = z9 P false ∧ ∃ (i : Nat) (v : AV), B 13 = .raw (.int .i64 i) ∧ i ≤ P.length ∧ n' = P.length - i ∧ B 10 = v ∧ OwnL σ ρ' 2 v ((zan [] ((P.take i).filter fun r => !decide ((zk x d r.lo).1 = (zk y d r.lo).1))).map zp)) P.length ?_ ?_
    · exact ⟨hE2, by simp [a2], by simp [a3], by simp [a4], by simp [z9], 0, .sl 0 [] true, by simp, by omega, by omega, by simp, .inl ⟨by simp [zan], rfl⟩⟩
    clear a2 a3 a4 hE2
    rintro n' B ρ' ⟨hE, a2, a3, a4, a11, i, v, a13, hi, rfl, a10, hO⟩ I1 hI1
    by_cases hlt : i < P.length
    · have hxx : P[i]? = some P[i] := List.getElem?_eq_getElem hlt
      have w1 : IntKind.i64.wrap ((i : Int) + 1) = ((i + 1 : Nat) : Int) := by rw [zo (by omega) (by omega)]; omega
      have hri := hinz P[i] (List.getElem_mem hlt)
      have hsum : (P.take (i + 1)).filter (fun r => !decide ((zk x d r.lo).1 = (zk y d r.lo).1)) = (P.take i).filter (fun r => !decide ((zk x d r.lo).1 = (zk y d r.lo).1)) ++ (if (!decide ((zk x d P[i].lo).1 = (zk y d P[i].lo).1)) = true then [P[i]] else []) := by
        rw [List.take_add_one, hxx, List.filter_append]
        simp only [Option.toList_some, List.filter_cons, List.filter_nil]
      have hin1 : Zn.InZ (zan [] ((P.take i).filter fun r => !decide ((zk x d r.lo).1 = (zk y d r.lo).1))) := zfa _ _ (fun _ h => by cases h) fun r hr => hinz r (List.mem_of_mem_take (List.mem_filter.1 hr).1)
      have hjl : (zan [] ((P.take i).filter fun r => !decide ((zk x d r.lo).1 = (zk y d r.lo).1))).length < 2 ^ 36 := by
        have h1 := zdz ((P.take i).filter fun r => !decide ((zk x d r.lo).1 = (zk y d r.lo).1)) []
        have h2 := List.length_filter_le (fun r : Rg => !decide ((zk x d r.lo).1 = (zk y d r.lo).1)) (P.take i)
        rw [List.length_take] at h2
        simp only [List.length_nil] at h1
        omega
      have h1 := zdu x f d P[i].lo hx hrx
      have h2 := zdu y g d P[i].lo hy hry
      obtain ⟨r, hr'⟩ : ∃ r, P[i] = r := ⟨_, rfl⟩
      rw [hr'] at hxx hri hsum h1 h2
      have h3 := zjV (zk x d r.lo).1 (zk y d r.lo).1 false false (by have := zbC x d r.lo; have := hx.links; omega) (by have := zbC y d r.lo; have := hy.links; omega)
      generalize (P.take i).filter (fun r => !decide ((zk x d r.lo).1 = (zk y d r.lo).1)) = Q at *
      generalize (zk x d r.lo).2 = eT at h1
      generalize (zk y d r.lo).2 = eU at h2
      generalize (zk x d r.lo).1 = T at *
      generalize (zk y d r.lo).1 = U at *
      generalize decide (T = U) = c at *
      have wlo : IntKind.i64.wrap r.lo = r.lo := by obtain ⟨k1, k2, k3, k4⟩ := hri; exact zo (by omega) (by omega)
      have whi : IntKind.i64.wrap r.hi = r.hi := by obtain ⟨k1, k2, k3, k4⟩ := hri; exact zo (by omega) (by omega)
      have hj := fun (ρ2 : St) (hE' : Ext σ ρ2) (hO' : OwnL σ ρ2 2 v ((zan [] Q).map zp)) => Zn.join_calls (f := r.lo) (t := r.hi) hE' hO' hin1 ⟨hri.1, hri.2.1⟩ ⟨hri.2.2.1, hri.2.2.2⟩ hjl
      cases c with
      | false =>
        rw [Bool.not_false, if_pos rfl] at hsum
        (try ((first | with_reducible refine zs ?_ | with_reducible refine zx ?_ | with_reducible refine zy ?_); simp [-cellOK, a2, a3, a4, a11, a13, a10, hlt, hxx, hr', z9, rg_cells, rg_fold, ze, zw, zX, zau, zb5, zbM, zbz, wlo, whi, zt, zD, za])); repeat' (first | ((first | refine zm ?_ | refine zl ?_ | refine dN (by decide +kernel) ?_ | refine dC (by decide +kernel) ?_ | refine uP (h1) ?_ | refine .inl ⟨_, .inl (h1), ?_⟩ | refine uP (h2) ?_ | refine .inl ⟨_, .inl (h2), ?_⟩ | refine uP (h3) ?_ | refine .inl ⟨_, .inl (h3), ?_⟩ | (refine zb ?_ ?_ <;> (intro hg; simp only [hg])) | fail) <;> simp [-cellOK, a2, a3, a4, a11, a13, a10, hlt, hxx, hr', z9, rg_cells, rg_fold, ze, zw, zX, zau, zb5, zbM, zbz, wlo, whi, zt, zD, za]) | refine zf ?_ | refine zg ?_ | (refine zF ?_; simp only [zG]; try simp) | (refine zd (fun hc => ?_) (fun hc => ?_) <;> try simp at hc) | fail)
        refine (hj _ exA (hO.ext exA)).mono ?_
        rintro v' τ2 ⟨hO2, hE2⟩
        have FF := fI @a2 (fI @a3 (fI @a4 (fI @a11 (fI @a13 @w1)))); refine gxB ?_; clear FF
        refine hI1 (P.length - (i + 1)) _ _ (by omega) ⟨hE2, by simp [a2], by simp [a3], by simp [a4], by simp [a11], i + 1, v', by simp, by omega, rfl, by simp, ?_⟩
        rw [hsum, zcj]
        exact hO2
      | true =>
        rw [if_neg (by simp), List.append_nil] at hsum
        have FF := fI @a2 (fI @a3 (fI @a4 (fI @a11 (fI @a13 (fI @a10 (fI @hlt (fI @hxx (fI @hr' (fI z9.eq_1 (fI @rg_cells (fI @rg_fold (fI @ze (fI @zw (fI @zX (fI @zau (fI @zb5 (fI @zbM (fI @zbz (fI @zt (fI @zD (fI @za @w1))))))))))))))))))))); refine gxC ?_; clear FF
        refine hI1 (P.length - (i + 1)) _ _ (by omega) ⟨exA, by simp [a2], by simp [a3], by simp [a4], by simp [a11, z9], i + 1, v, by simp, by omega, rfl, by simp [a10], ?_⟩
        rw [hsum]
        exact hO.ext exA
    · have : i = P.length := by omega
      subst this
      rw [List.take_length] at hO
      have FF := fI @a2 (fI @a3 (fI @a4 (fI @a11 (fI @a13 z9.eq_1)))); refine gxB ?_; clear FF
      exact hR1 _ _ ⟨by simp [a10]; exact hO, hE⟩
  · rintro B ρ' ⟨hO, hE⟩
    generalize hb10 : B 10 = v at *
    have FF := @hb10; refine gxC ?_; clear FF
    exact Zn.retP_own2 (.inr rfl) (by simp) hO hE
end Go.Proofs.YtpboabpapgimoaaGreat.Av
namespace Go.Proofs.YtpboabpapgimoaaGreat.Av
open Go
set_option linter.unusedSimpArgs false
set_option linter.unusedVariables false
set_option maxRecDepth 100000
set_option maxHeartbeats 4000000
set_option pp.maxSteps 600
def zcY (j : Id) : AV → Prop
  | .rp i _ _ => i ≠ j
  | .rs i _ _ => i ≠ j
  | _ => True
theorem zom {σ : St} {j : Id} : ∀ {v : AV}, zcY j v → zr (σ.del j).m σ.m v = v
  | .rp _ _ _, h => zcI h
  | .rs _ _ _, h => zfy h
  | .raw _, _ | .agg _, _ | .tup _, _ | .pp _ _, _ | .sl _ _ _, _ | .fn _ _ _, _ | .mp _, _ | .ifc _ _, _ | .any, _ => rfl
theorem zbs {P : Program} {N : Nat} {A : zL} {σ : St} {r : Option Nat} {K : Exit → zL → St → Prop} {c : Code} (j : Id) {a : AV} (hj : σ.m j = some (.buf [a]))
    (h : ∀ B : zL, (∀ t v, A t = v → zcY j v → B t = v) → (∀ t off, A t = .rp j 0 off → B t = .pp a.cells off) → AWP P r N c K B (σ.del j)) : AWP P r N c K A σ := by
  refine z8 j (h _ (fun t v e hv => ?_) fun t off e => ?_)
  · show zr _ _ (A t) = _
    rw [e, zom hv]
  · show zr _ _ (A t) = _
    rw [e, zcJ (by simp [St.del]) hj rfl]
def zeH (v : AV) (j : Id) : Prop := ∃ l, v = .rs j 0 l
def upC (c : Nat → AV) (k : Nat) (x : AV) : Nat → AV := fun j => if j = k then x else c j
def zar (c : Nat → AV) : List AV := [c 0, c 1, c 2, c 3, c 4]
structure OwnC (σ0 τ : St) (lo : Nat) (c : Nat → AV) (es : Nat → List AV) : Prop where
  own : ∀ k, lo ≤ k → k < 5 → OwnL σ0 τ 2 (c k) (es k)
  ap : ∀ a b i, lo ≤ a → a < 5 → lo ≤ b → b < 5 → zeH (c a) i → zeH (c b) i → a = b
theorem zfg {σ0 τ : St} {n : Nat} {v : AV} {es : List AV} (h : OwnL σ0 τ n v es) {i : Id} (hi : zeH v i) : i.sz = n ∧ τ.m i = some (.buf es) ∧ σ0.m i = none := by
  obtain ⟨l, e⟩ := hi
  rcases h with ⟨_, rfl⟩ | ⟨j, rfl, h1, h2, h3⟩
  · cases e
  · injection e with e; subst e; exact ⟨h1, h2, h3⟩
theorem zkz {σ0 τ ρ : St} {n : Nat} {v : AV} {es : List AV} (h : OwnL σ0 τ n v es) (hm : ∀ i o, zeH v i → τ.m i = some o → ρ.m i = some o) : OwnL σ0 ρ n v es := by
  rcases h with h | ⟨j, rfl, h1, h2, h3⟩
  · exact .inl h
  · exact .inr ⟨j, rfl, h1, hm _ _ ⟨_, rfl⟩ h2, h3⟩
theorem zcO {σ0 τ : St} {n : Nat} {v : AV} {es : List AV} (h : OwnL σ0 τ n v es) : v.cells = [v] ∧ cellOK v = true := by
  rcases h with ⟨_, rfl⟩ | ⟨j, rfl, h1, h2, h3⟩
  · exact ⟨rfl, rfl⟩
  · exact ⟨rfl, rfl⟩
theorem OwnC.one {σ0 τ : St} {lo : Nat} {c : Nat → AV} {es : Nat → List AV} (h : OwnC σ0 τ lo c es) (hE : Ext σ0 τ) {k : Nat} (hk : lo ≤ k) (hk5 : k < 5) :
    ∃ σ1, OwnL σ1 τ 2 (c k) (es k) ∧ Ext σ1 τ ∧ Ext σ0 σ1 ∧ ∀ i o, τ.m i = some o → ¬ zeH (c k) i → σ1.m i = some o := by
  rcases h.own k hk hk5 with ⟨h1, h2⟩ | ⟨j, h1, h2, h3, h4⟩
  · exact ⟨τ, .inl ⟨h1, h2⟩, Ext.refl _, hE, fun i o h _ => h⟩
  · refine ⟨τ.del j, .inr ⟨j, h1, h2, h3, by simp [St.del]⟩, ⟨fun i o h => ?_, fun s => Nat.le_refl _⟩, ⟨fun i o h => ?_, hE.nx⟩, fun i o h hn => ?_⟩
    · by_cases e : i = j
      · subst e; simp [St.del] at h
      · rwa [zU e] at h
    · rw [zU (fun e => by rw [e, h4] at h; cases h)]; exact hE.m i o h
    · rw [zU (fun e => hn ⟨_, by rw [h1, e]⟩)]; exact h
theorem OwnC.rest {σ0 σ1 τ τ' : St} {lo : Nat} {c : Nat → AV} {es : Nat → List AV} (h : OwnC σ0 τ lo c es) {k : Nat} (hk : lo ≤ k) (hk5 : k < 5) (hE' : Ext σ1 τ') (hs : ∀ i o, τ.m i = some o → ¬ zeH (c k) i → σ1.m i = some o)
    {a : Nat} (ha : lo ≤ a) (ha5 : a < 5) (hne : a ≠ k) : OwnL σ0 τ' 2 (c a) (es a) :=
  zkz (h.own a ha ha5) fun i o hi hm => hE'.m i o (hs i o hm fun e => hne (h.ap a k i ha ha5 hk hk5 hi e))
theorem OwnC.upd {σ0 σ1 τ τ' : St} {lo : Nat} {c : Nat → AV} {es : Nat → List AV} (h : OwnC σ0 τ lo c es) {k : Nat} (hk : lo ≤ k) (hk5 : k < 5) {v' : AV} {es' : List AV} (h1 : OwnL σ1 τ' 2 v' es') (hE' : Ext σ1 τ') (h0 : Ext σ0 σ1)
    (hs : ∀ i o, τ.m i = some o → ¬ zeH (c k) i → σ1.m i = some o) : OwnC σ0 τ' lo (upC c k v') (fun j => if j = k then es' else es j) where
  own := fun j hj hj5 => by
    by_cases e : j = k
    · subst e
      simp only [upC, if_true]
      rcases h1 with h1 | ⟨i, a, b, c, d⟩
      · exact .inl h1
      · exact .inr ⟨i, a, b, c, zkx h0 d⟩
    · simp only [upC, e, if_false]
      exact h.rest hk hk5 hE' hs hj hj5 e
  ap := fun a b i ha ha5 hb hb5 ia ib => by
    have key : ∀ b, lo ≤ b → b < 5 → b ≠ k → zeH v' i → zeH (c b) i → False := fun b hb hb5 hbk h2 h3 => by
      obtain ⟨_, q1, _⟩ := zfg (h.own b hb hb5) h3
      have q2 := hs i _ q1 fun e => hbk (h.ap b k i hb hb5 hk hk5 h3 e)
      rw [(zfg h1 h2).2.2] at q2
      cases q2
    by_cases e : a = k
    · by_cases e2 : b = k
      · rw [e, e2]
      · simp only [upC, e, e2, if_true, if_false] at ia ib
        exact (key b hb hb5 e2 ia ib).elim
    · by_cases e2 : b = k
      · simp only [upC, e, e2, if_true, if_false] at ia ib
        exact (key a ha ha5 e ib ia).elim
      · simp only [upC, e, e2, if_false] at ia ib
        exact h.ap a b i ha ha5 hb hb5 ia ib
theorem OwnC.drop {σ0 σ1 τ τ' : St} {k : Nat} {c : Nat → AV} {es : Nat → List AV} (h : OwnC σ0 τ k c es) (hk5 : k < 5) (x : AV) (hE' : Ext σ1 τ') (hs : ∀ i o, τ.m i = some o → ¬ zeH (c k) i → σ1.m i = some o) : OwnC σ0 τ' (k + 1) (upC c k x) es where
  own := fun j hj hj5 => by
    have e : j ≠ k := by omega
    simp only [upC, e, if_false]
    exact h.rest (Nat.le_refl _) hk5 hE' hs (by omega) hj5 e
  ap := fun a b i ha ha5 hb hb5 ia ib => by
    have e : a ≠ k := by omega
    have e2 : b ≠ k := by omega
    simp only [upC, e, e2, if_false] at ia ib
    exact h.ap a b i (by omega) ha5 (by omega) hb5 ia ib
theorem OwnC.up {σ0 τ ρ : St} {lo : Nat} {c : Nat → AV} {es : Nat → List AV} (h : OwnC σ0 τ lo c es) (hm : ∀ i o, i.sz = 2 → τ.m i = some o → ρ.m i = some o) : OwnC σ0 ρ lo c es where
  own := fun k h1 h2 => zkz (h.own k h1 h2) fun i o hi => hm i o (zfg (h.own k h1 h2) hi).1
  ap := h.ap
theorem zp8 (n : Nw) (d a : Int) : 0 ≤ (zap n d a).1 ∧ (zap n d a).1 < 5 := by
  unfold zap
  repeat' split
  all_goals simp
theorem zk7 (n : Nw) (a : Int) : ∀ (f : Nat) (d : Int) (p : List Int), 0 ≤ (zcC n a f d p).out ∧ (zcC n a f d p).out < 5
  | 0, _, _ => by simp [zcC]
  | f + 1, d, p => by
    unfold zcC
    split
    · simp
    · split
      · exact zk7 n a f _ _
      · exact zp8 n d a
theorem zhQ (n : Nw) (d a : Int) : ∃ k : Nat, (zk n d a).1.out = (k : Int) ∧ k < 5 := by
  have h : 0 ≤ (zk n d a).1.out ∧ (zk n d a).1.out < 5 := by
    unfold zk
    split
    · simp
    · exact zk7 n a _ d []
  exact ⟨(zk n d a).1.out.toNat, by omega, by omega⟩
def zaO (n : Nw) (d : Int) (Q : List Rg) (k : Nat) : List Rg := Q.filter fun r => decide ((zk n d r.lo).1.out = (k : Int))
def zdF (n : Nw) (d : Int) (P : List Rg) (k : Nat) : List Rg := zaq P fun a => decide ((zk n d a).1.out = (k : Int))
def zbb (n : Nw) (d : Int) (k : Nat) : List Rg := if zas n d = true then [] else zdF n d (zN [n]) k
def zcM (n : Nw) (d : Int) : AV := .tup [.agg (zar fun k => Zn.zAV (zbb n d k) false), .raw (.int .i64 (if zas n d = true then 91 else 0))]
@[simp] theorem zux (K : Id → Prop) (F : Nat → List Rg) : z7 K (zar fun k => Zn.zAV (F k) false) := by simp [zar, z7]
theorem zpq : ∀ S vs, LRel S [] vs → LRel S [] vs := fun _ _ h => h
theorem zei {a b : AV} {l m : List AV} (h : Weaker a b) (hl : ∀ S vs, LRel S l vs → LRel S m vs) : ∀ S vs, LRel S (a :: l) vs → LRel S (b :: m) vs := fun S vs hv => by
  simp only [LRel] at hv ⊢
  obtain ⟨u, us, h1, h2, h3⟩ := hv
  exact ⟨u, us, h1, h _ _ h2, hl _ _ h3⟩
theorem znk {l m : List AV} (hl : ∀ S vs, LRel S l vs → LRel S m vs) : Weaker (.agg l) (.agg m) := by
  intro S v hv
  simp only [VRel] at hv ⊢
  obtain ⟨w, e, h⟩ := hv
  exact ⟨w, e, hl _ _ h⟩
theorem weaker_five {a b : Nat → AV} {u : AV} (h : ∀ k, k < 5 → Weaker (a k) (b k)) : Weaker (.tup [.agg (zar a), u]) (.tup [.agg (zar b), u]) :=
  weaker_tup (znk (zei (h 0 (by omega)) (zei (h 1 (by omega)) (zei (h 2 (by omega)) (zei (h 3 (by omega)) (zei (h 4 (by omega)) zpq))))))
theorem zjW (n : Nw) (d : Int) : noIds (zcM n d) := by simp [noIds, zcM, zar]
end Go.Proofs.YtpboabpapgimoaaGreat.Av
namespace Go.Proofs.YtpboabpapgimoaaGreat.Av
open Go
set_option linter.unusedSimpArgs false
set_option linter.unusedVariables false
set_option maxRecDepth 100000
set_option maxHeartbeats 4000000
set_option pp.maxSteps 600
theorem zf6 {n : Nw} (f : Fl) {d : Int} (hn : NwOK n) (hP : PartsW (zN [n])) :
    PCalls Tryz.prog 10 [zR n f, .raw (.int .i64 d)] (zcM n d) := by
  have hhas := ze9 n f [d] false (by simp)
  have hz := zjW n d
  refine zE Tryz.func10 rfl (N := 66) rfl rfl (by simp) hz fun σ => ?_
  repeat (refine zf ?_)
  refine zl ?_
  simp [-cellOK, ze]
  generalize hA0 : put 66 _ _ _ = A0
  have d1 : A0 1 = .raw (.int .i64 d) := by rw [← hA0]; simp [za]
  have d2 : A0 2 = .rp ⟨2, σ.nx 2, 3⟩ 0 0 := by rw [← hA0]; simp [za]
  have d4 : A0 4 = .rp ⟨4, σ.nx 4, 5⟩ 0 0 := by rw [← hA0]; simp [za]
  clear hA0
  refine z8 ⟨2, σ.nx 2, 3⟩ ?_
  generalize hτ : St.del _ _ = τ
  generalize hA : (fun t => zr _ _ _) = A
  have a1 : A 1 = .raw (.int .i64 d) := by rw [← hA, ← hτ]; simp [zr, d1]
  have a2 : A 2 = .pp (zR n f).cells 0 := by rw [← hA, ← hτ]; simp [zr, St.new, St.del, ze, d2]
  have a4 : A 4 = .rp ⟨4, σ.nx 4, 5⟩ 0 0 := by rw [← hA, ← hτ]; simp [zr, St.new, St.del, ze, d4]
  have m4 : τ.m ⟨4, σ.nx 4, 5⟩ = some (.buf [.agg [.sl 0 [] true, .sl 0 [] true, .sl 0 [] true, .sl 0 [] true, .sl 0 [] true]]) := by rw [← hτ]; simp [St.new, St.del]
  have f4 : σ.m ⟨4, σ.nx 4, 5⟩ = none := zc _ _ _
  have hE : Ext σ τ := by
    rw [← hτ]
    refine ⟨fun i o h => ?_, fun s => ?_⟩
    · have q1 : i ≠ ⟨2, σ.nx 2, 3⟩ := fun e => by rw [e, zc] at h; cases h
      have q2 : i ≠ ⟨4, σ.nx 4, 5⟩ := fun e => by rw [e, zc] at h; cases h
      simp [St.del, St.new, q1, q2, h]
    · simp only [St.del, St.new]
      repeat' split
      all_goals omega
  clear hτ hA d1 d2 d4
  generalize σ.nx 4 = s4 at *
  have FF := fI @a1 (fI @a2 (fI @a4 (fI @ze (fI @zw (fI @zt @za))))); refine gxC ?_; clear FF
  refine PCalls.useLent (n := 1) (es := [.raw (.int .i64 d)]) (σ0 := σ) hhas rfl (OwnL.of rfl (by simp [zt, za]) (zI hE) (by simp)) ?_
  have hnil : (Ob.buf [AV.agg [AV.sl 0 [] true, AV.sl 0 [] true, AV.sl 0 [] true, AV.sl 0 [] true, AV.sl 0 [] true]]) = .buf [.agg (zar fun _ => .sl 0 [] true)] := rfl
  cases hb : [d].any (zas n) with
  | true =>
    have hb1 : zas n d = true := by simpa using hb
    have FF := fI @a1 (fI @a2 (fI @a4 (fI @m4 (fI @zt (fI @zD @za))))); refine gxC ?_; clear FF
    refine zct (x := .tup [.agg (zar fun _ => .sl 0 [] true), .raw (.int .i64 91)]) (.inr rfl) exA (by simp [a4, zar, zt, zD, za, m4]) ?_
    unfold zcM zbb
    rw [hb1]
    simp only [z0, zr, zar, List.map_cons, List.map_nil, if_true]
    exact weaker_five (a := fun _ => .sl 0 [] true) (b := fun _ => Zn.zAV [] false) fun k _ => zaT
  | false =>
    have hb1 : zas n d = false := by simpa using hb
    refine goD ?_
    iterate 2 (first | ((first | refine zm ?_ | refine zl ?_ | refine dN (by decide +kernel) ?_ | refine dC (by decide +kernel) ?_ | (refine zb ?_ ?_ <;> (intro hg; simp only [hg])) | fail) <;> simp [-cellOK, a1, a2, a4]) | refine zf ?_ | refine zg ?_ | (refine zF ?_; simp only [zG]; try simp) | (refine zd (fun hc => ?_) (fun hc => ?_) <;> try simp at hc) | fail)
    refine zf ?_
    refine zbF (fun o => o.dst == some 23) zc8 (by decide +kernel) ?_
    simp [-cellOK, a1, a2, a4, ze, zw, zt, za]
    refine .inl ⟨_, .inl zf2, ?_⟩
    rw [hnil]
    refine ACalls.freeze ⟨22, τ.nx 22, 3⟩ ?_
    have f22 : σ.m ⟨22, τ.nx 22, 3⟩ = none := zI hE
    have f6 : σ.m ⟨6, τ.nx 6, 5⟩ = none := zI hE
    have n22 : (4 : Nat) ≠ 22 := by decide
    generalize hρ : St.del _ _ = ρ
    have hmap : List.map (zr ρ.m (((τ.new 6 5 (.buf [.agg (zar fun _ => .sl 0 [] true)])).new 16 1 (.buf [.raw (.int .i64 d)])).new 22 3 (.buf [zR n f])).m) [.rs ⟨22, τ.nx 22, 3⟩ 0 1, zp ⟨0, 4294967295⟩] = [zaN [(n, f)] false, zp zbr] := by
      rw [← hρ, List.map_cons, List.map_cons, List.map_nil, zbf (es := [zR n f]) (by simp [St.del]) (by simp [zt, za]) (by simp)]
      rfl
    rw [hmap]
    have hE2 : Ext σ ρ := by rw [← hρ]; exact Ext.delZ (zK (zK (zK hE))) f22
    have r4 : ρ.m ⟨4, s4, 5⟩ = some (.buf [.agg (zar fun _ => .sl 0 [] true)]) := by
      rw [← hρ, ← hnil]; simp [St.del, zt, zD, m4]
    have r6 : ρ.m ⟨6, τ.nx 6, 5⟩ = some (.buf [.agg (zar fun _ => .sl 0 [] true)]) := by
      rw [← hρ]; simp [St.del, zt, zD, za]
    clear hρ hmap f22 hE m4 hb
    generalize τ.nx 6 = s6 at *
    have hcut := zhE [(n, f)] false zbr ⟨by decide, by decide, by decide, by decide⟩ (by simp [hn]) (by simp)
    have hce : (if zbr.hi < zbr.lo then (31 : Int) else 0) = 0 := by decide
    rw [hce] at hcut
    have hPe : zba (List.map (fun x : Nw × Fl => x.1) [(n, f)]) zbr = zN [n] := rfl
    rw [hPe] at hcut
    have hlen := hP.len
    have hinz := hP.inz
    have hord := hP.ord
    have hfz : zcM n d = .tup [.agg (zar fun k => Zn.zAV (zdF n d (zN [n]) k) false), .raw (.int .i64 0)] := by
      unfold zcM zbb; rw [hb1]; rfl
    rw [hfz]
    clear hfz hz hP hPe hce hnil hhas
    generalize zN [n] = P at *
    refine hcut.use ?_
    have FF := fI @a1 (fI @a2 @a4); refine gxB ?_; clear FF
    have hfst : ∀ Q : List Rg, ∀ k : Nat, zaO n d Q k = Q.filter fun r => decide ((zk n d r.lo).1.out = (k : Int)) := fun _ _ => rfl
    refine zaC (fun B ρ' => ∃ c, OwnC σ ρ' 0 c (fun k => (zaO n d P k).map zp) ∧ Ext σ ρ' ∧ B 4 = .rp ⟨4, s4, 5⟩ 0 0 ∧ B 6 = .rp ⟨6, s6, 5⟩ 0 0 ∧ ρ'.m ⟨4, s4, 5⟩ = some (.buf [.agg (zar fun _ => .sl 0 [] true)]) ∧ ρ'.m ⟨6, s6, 5⟩ = some (.buf [.agg (zar c)])) ?_ ?_
    · intro R1 hR1
      refine zO (fun n' B ρ' => Ext σ ρ' ∧ B 1 = .raw (.int .i64 d) ∧ B 2 = .pp (zR n f).cells 0 ∧ B 4 = .rp ⟨4, s4, 5⟩ 0 0 ∧ B 6 = .rp ⟨6, s6, 5⟩ 0 0 ∧ B 27 = z9 P false ∧ B 28 = .raw (.int .i64 P.length) ∧ ρ'.m ⟨4, s4, 5⟩ = some (.buf [.agg (zar fun _ => .sl 0 [] true)]) ∧ ∃ (i : Nat) (c : Nat → AV), B 29 = .raw (.int .i64 i) ∧ i ≤ P.length ∧ n' = P.length - i ∧ ρ'.m ⟨6, s6, 5⟩ = some (.buf [.agg (zar c)]) ∧ OwnC σ ρ' 0 c (fun k => (zaO n d (P.take i) k).map zp)) P.length ?_ ?_
      · exact ⟨hE2, by simp [a1], by simp [a2], by simp [a4], by simp, by simp [z9], by simp [z9], r4, 0, _, by simp, by omega, by omega, r6, ⟨fun k _ _ => .inl ⟨by simp [zaO], rfl⟩, fun a b i _ _ _ _ ⟨l, h⟩ => by cases h⟩⟩
      clear a1 a2 a4 hE2 r4 r6
      rintro n' B ρ' ⟨hE, a1, a2, a4, a6, a27, a28, m4, i, c, a29, hi, rfl, m6, hC⟩ I1 hI1
      by_cases hlt : i < P.length
      · have hxx : P[i]? = some P[i] := List.getElem?_eq_getElem hlt
        have w1 : IntKind.i64.wrap ((i : Int) + 1) = ((i + 1 : Nat) : Int) := by rw [zo (by omega) (by omega)]; omega
        have h1 := zcc n f d P[i].lo hn
        obtain ⟨k, hk, hk5⟩ := zhQ n d P[i].lo
        have hsum : ∀ j : Nat, zaO n d (P.take (i + 1)) j = zaO n d (P.take i) j ++ (if j = k then [P[i]] else []) := fun j => by
          unfold zaO
          rw [List.take_add_one, hxx, List.filter_append]
          simp only [Option.toList_some, List.filter_cons, List.filter_nil, hk]
          congr 1
          by_cases e : j = k
          · subst e; simp
          · have : ¬ ((k : Int) = (j : Int)) := by omega
            simp [e, this]
        have hll : ∀ j : Nat, (zaO n d (P.take i) j).length < 2 ^ 38 := fun j => by
          have h2 := List.length_filter_le (fun r : Rg => decide ((zk n d r.lo).1.out = (j : Int))) (P.take i)
          rw [List.length_take] at h2
          unfold zaO
          omega
        obtain ⟨r, hr'⟩ : ∃ r, P[i] = r := ⟨_, rfl⟩
        rw [hr'] at hxx hsum h1 hk
        generalize (zk n d r.lo).2 = eT at h1
        generalize (zk n d r.lo).1 = T at *
        have hck : ∀ j, j < 5 → (c j).cells = [c j] ∧ cellOK (c j) = true := fun j hj => zcO (hC.own j (Nat.zero_le _) hj)
        have c0 := hck 0 (by omega)
        have c1 := hck 1 (by omega)
        have c2 := hck 2 (by omega)
        have c3 := hck 3 (by omega)
        have c4 := hck 4 (by omega)
        (try ((first | with_reducible refine zs ?_ | with_reducible refine zx ?_ | with_reducible refine zy ?_); simp [-cellOK, a1, a2, a4, a6, a27, a28, a29, m6, hlt, hxx, hr', z9, rg_cells, rg_fold, ze, zw, zX, zau, -zJ, zt, zD, za])); repeat' (first | ((first | refine zm ?_ | refine zl ?_ | refine dN (by decide +kernel) ?_ | refine dC (by decide +kernel) ?_ | refine uP (h1) ?_ | refine .inl ⟨_, .inl (h1), ?_⟩ | (refine zb ?_ ?_ <;> (intro hg; simp only [hg])) | fail) <;> simp [-cellOK, a1, a2, a4, a6, a27, a28, a29, m6, hlt, hxx, hr', z9, rg_cells, rg_fold, ze, zw, zX, zau, -zJ, zt, zD, za]) | refine zf ?_ | refine zg ?_ | (refine zF ?_; simp only [zG]; try simp) | (refine zq (by simp) ?_; simp) | (refine zam (by simp) (by simp [noIds]) (by repeat (first | assumption | exact Ext.refl _ | refine zK ?_ | refine Ext.setF ?_ (by first | assumption | (simp [za, St.set, zc]; done) | exact zI (by assumption)))) ?_; simp [-cellOK, a1, a2, a4, a6, a27, a28, a29, m6, hlt, hxx, hr', z9, rg_cells, rg_fold, ze, zw, zX, zau, -zJ, zt, zD, za, nsE]) | (refine zd (fun hc => ?_) (fun hc => ?_) <;> try simp at hc) | fail)
        generalize hA0 : put 66 _ _ _ = A0
        have d1 : A0 1 = .raw (.int .i64 d) := by rw [← hA0]; simp [a1]
        have d2 : A0 2 = .pp (zR n f).cells 0 := by rw [← hA0]; simp [a2]
        have d4 : A0 4 = .rp ⟨4, s4, 5⟩ 0 0 := by rw [← hA0]; simp [a4]
        have d6 : A0 6 = .rp ⟨6, s6, 5⟩ 0 0 := by rw [← hA0]; simp [a6]
        have d10 : A0 10 = .rp ⟨10, ρ'.nx 10, 2⟩ 0 0 := by rw [← hA0]; simp
        have d11 : A0 11 = .rp ⟨11, ρ'.nx 11, 4⟩ 0 0 := by rw [← hA0]; simp
        have d27 : A0 27 = z9 P false := by rw [← hA0]; simp [a27]
        have d28 : A0 28 = .raw (.int .i64 P.length) := by rw [← hA0]; simp [a28]
        have d29 : A0 29 = .raw (.int .i64 i) := by rw [← hA0]; simp [a29]
        clear hA0
        refine zbs ⟨11, ρ'.nx 11, 4⟩ (a := zaX T false) (by simp [zt, zD, za]) fun B2 kp fz => ?_
        have b1 := kp 1 _ d1 trivial
        have b2 := kp 2 _ d2 trivial
        have b4 := kp 4 _ d4 (by simp [zcY])
        have b6 := kp 6 _ d6 (by simp [zcY])
        have b10 := kp 10 _ d10 (by simp [zcY])
        have b11 := fz 11 _ d11
        have b27 := kp 27 _ d27 trivial
        have b28 := kp 28 _ d28 trivial
        have b29 := kp 29 _ d29 trivial
        clear kp fz d1 d2 d4 d6 d10 d11 d27 d28 d29 a1 a2 a4 a6 a27 a28 a29 A0
        generalize hρ : St.del _ _ = ρ
        have g4 : ρ.m ⟨4, s4, 5⟩ = some (.buf [.agg (zar fun _ => .sl 0 [] true)]) := by rw [← hρ]; simp [St.del, zt, zD, m4]
        have g6 : ρ.m ⟨6, s6, 5⟩ = some (.buf [.agg (zar c)]) := by rw [← hρ]; simp [St.del, zt, zD, m6]
        have g10 : ρ.m ⟨10, ρ'.nx 10, 2⟩ = some (.buf [zp r]) := by rw [← hρ]; simp [St.del, zt, zD, za]
        have hEr : Ext ρ' ρ := by rw [← hρ]; exact Ext.delZ exA (zc _ _ _)
        clear hρ m4 m6
        have hE3 := hE.trans hEr
        have hC3 := hC.up (ρ := ρ) fun i o _ => hEr.m i o
        clear hC hE hEr
        generalize ρ'.nx 10 = s10 at *
        have hk4 : k = 0 ∨ k = 1 ∨ k = 2 ∨ k = 3 ∨ k = 4 := by omega
        obtain ⟨σ1, hO1, hE1, h01, hs1⟩ := hC3.one hE3 (Nat.zero_le k) hk5
        simp only [zar] at g6
        refine zbF (lsO [42]) zc8 (by decide +kernel) ?_
        have fin : ∀ v' τ', OwnL σ1 τ' 2 v' ((zaO n d (P.take i) k).map zp ++ [zp r]) → Ext σ1 τ' → OwnC σ τ' 0 (upC c k v') (fun j => (zaO n d (P.take (i + 1)) j).map zp) := fun v' τ' h1 h2 => by
          have := hC3.upd (Nat.zero_le k) hk5 h1 h2 h01 hs1
          have e : (fun j => if j = k then (zaO n d (P.take i) k).map zp ++ [zp r] else (zaO n d (P.take i) j).map zp) = fun j => (zaO n d (P.take (i + 1)) j).map zp := by
            funext j
            rw [hsum]
            by_cases e : j = k
            · subst e; simp
            · simp [e]
          rw [e] at this
          exact this
        have kee : ∀ i o, i.sz ≠ 2 → ρ.m i = some o → ∀ τ', Ext σ1 τ' → τ'.m i = some o := fun i o hi h τ' hE' => hE'.m i o (hs1 i o h fun e => hi (zfg (hC3.own k (Nat.zero_le _) hk5) e).1)
        have k4 := kee _ _ (by simp) g4
        have k6 := kee _ _ (by simp) g6
        have nxx : ∀ τ', Ext σ1 τ' → Ext σ τ' := fun τ' h => h01.trans h
        clear kee hs1 hC3
        rcases hk4 with rfl | rfl | rfl | rfl | rfl
        all_goals
          simp [-cellOK, -zJ, b1, b2, b4, b6, b10, b11, g6, g10, zX, hk, rg_cells]
          refine zaV zfM (σ0 := σ1) (zkz hO1 fun i o _ h => zaz _ _ h) (zK hE1) (ys := [zp r]) (by simp [zt, zp]) (.inr rfl) (by simp [rg_cells]) (by simp; have := hll 0; have := hll 1; have := hll 2; have := hll 3; have := hll 4; omega) ?_
          intro v' τ' hO' hE' _ _
          have v1 := (zcO hO').1
          have v2 := (zcO hO').2
          have k6' := k6 τ' hE'
          have k4' := k4 τ' hE'
          have hfin := fin v' τ' hO' hE'
          have hEE := nxx τ' hE'
          clear hO' hE' fin nxx k4 k6
          (try ((first | with_reducible refine zs ?_ | with_reducible refine zx ?_ | with_reducible refine zy ?_); simp [-cellOK, b1, b2, b4, b6, b10, b11, b27, b28, b29, k6', zar, zX, hk, c0, c1, c2, c3, c4, v1, v2, w1, zD])); repeat' (first | ((first | refine zm ?_ | refine zl ?_ | refine dN (by decide +kernel) ?_ | refine dC (by decide +kernel) ?_ | (refine zb ?_ ?_ <;> (intro hg; simp only [hg])) | fail) <;> simp [-cellOK, b1, b2, b4, b6, b10, b11, b27, b28, b29, k6', zar, zX, hk, c0, c1, c2, c3, c4, v1, v2, w1, zD]) | refine zf ?_ | refine zg ?_ | (refine zF ?_; simp only [zG]; try simp) | (refine zq (by simp) ?_; simp) | (refine zam (by simp) (by simp [noIds]) (by repeat (first | assumption | exact Ext.refl _ | refine zK ?_ | refine Ext.setF ?_ (by first | assumption | (simp [za, St.set, zc]; done) | exact zI (by assumption)))) ?_; simp [-cellOK, b1, b2, b4, b6, b10, b11, b27, b28, b29, k6', zar, zX, hk, c0, c1, c2, c3, c4, v1, v2, w1, zD, nsE]) | (refine zd (fun hc => ?_) (fun hc => ?_) <;> try simp at hc) | fail)
          refine hI1 (P.length - (i + 1)) _ _ (by omega) ⟨Ext.setF hEE f6, by simp [b1], by simp [b2], by simp [b4], by simp [b6], by simp [b27], by simp [b28], by simp [zD, k4'], i + 1, _, by simp, by omega, rfl, ?_, hfin.up ?_⟩
          · simp [zD, k6', zar, upC]
          · intro j o hj h
            rw [zhA (by rintro rfl; simp at hj)]; exact h
      · have : i = P.length := by omega
        subst this
        rw [List.take_length] at hC
        have FF := fI @a1 (fI @a2 (fI @a4 (fI @a6 (fI @a27 (fI @a28 @a29))))); refine gxB ?_; clear FF
        exact hR1 _ _ ⟨c, hC, hE, by simp [a4], by simp [a6], m4, m6⟩
    clear a1 a2 a4 hE2 r4 r6
    rintro B ρ' ⟨c, hC, hE, a4, a6, m4, m6⟩
    have FF := fI @a4 @a6; refine gxB ?_; clear FF
    refine zaC (fun B ρ' => Ext σ ρ' ∧ B 4 = .rp ⟨4, s4, 5⟩ 0 0 ∧ B 6 = .rp ⟨6, s6, 5⟩ 0 0 ∧ ρ'.m ⟨4, s4, 5⟩ = some (.buf [.agg (zar fun _ => .sl 0 [] true)]) ∧ ρ'.m ⟨6, s6, 5⟩ = some (.buf [.agg (zar fun k => Zn.zAV (zdF n d P k) false)])) ?_ ?_
    · intro R1 hR1
      refine zO (fun n' B ρ' => Ext σ ρ' ∧ B 4 = .rp ⟨4, s4, 5⟩ 0 0 ∧ B 6 = .rp ⟨6, s6, 5⟩ 0 0 ∧ ρ'.m ⟨4, s4, 5⟩ = some (.buf [.agg (zar fun _ => .sl 0 [] true)]) ∧ ∃ (i : Nat) (c : Nat → AV), B 52 = .raw (.int .i64 i) ∧ i ≤ 5 ∧ n' = 5 - i ∧ ρ'.m ⟨6, s6, 5⟩ = some (.buf [.agg (zar c)]) ∧ OwnC σ ρ' i c (fun k => (zaO n d P k).map zp) ∧ ∀ k, k < i → c k = Zn.zAV (zdF n d P k) false) 5 ?_ ?_
      · exact ⟨hE, by simp [a4], by simp [a6], m4, 0, c, by simp, by omega, by omega, m6, hC, fun k h => by omega⟩
      clear a4 a6 hC hE m4 m6
      rintro n' B ρ' ⟨hE, a4, a6, m4, i, c, a52, hi, rfl, m6, hC, hz⟩ I1 hI1
      have hck : ∀ j, j < 5 → (c j).cells = [c j] ∧ cellOK (c j) = true := fun j hj => by
        by_cases h : i ≤ j
        · exact zcO (hC.own j h hj)
        · rw [hz j (by omega)]; exact ⟨rfl, rfl⟩
      have c0 := hck 0 (by omega)
      have c1 := hck 1 (by omega)
      have c2 := hck 2 (by omega)
      have c3 := hck 3 (by omega)
      have c4 := hck 4 (by omega)
      by_cases hlt : i < 5
      · obtain ⟨σ1, hO1, hE1, h01, hs1⟩ := hC.one hE (Nat.le_refl i) hlt
        have kee : ∀ j o, j.sz ≠ 2 → ρ'.m j = some o → ∀ τ', Ext σ1 τ' → τ'.m j = some o := fun j o hj h τ' hE' => hE'.m j o (hs1 j o h fun e => hj (zfg (hC.own i (Nat.le_refl _) hlt) e).1)
        have k4 := kee _ _ (by simp) m4
        have k6 := kee _ _ (by simp) m6
        have hfl : (zaO n d P i).length < 2 ^ 38 := Nat.lt_of_le_of_lt (List.length_filter_le _ _) hlen
        have hsub : ∀ r ∈ zaO n d P i, r ∈ P := fun r hr => (List.mem_filter.1 hr).1
        have hof := Zn.zoneOf_calls (zaO n d P i) false (fun r hr => hinz r (hsub r hr)) hfl
        rw [Zn.ofAV_ok fun r hr => hord r (hsub r hr)] at hof
        have hzz : Zn.refOfZ (zaO n d P i) = zdF n d P i := rfl
        rw [hzz] at hof
        have fin : ∀ τ', Ext σ1 τ' → OwnC σ τ' (i + 1) (upC c i (Zn.zAV (zdF n d P i) false)) (fun k => (zaO n d P k).map zp) := fun τ' h => hC.drop hlt _ h hs1
        have fz : ∀ k, k < i + 1 → upC c i (Zn.zAV (zdF n d P i) false) k = Zn.zAV (zdF n d P k) false := fun k h => by
          unfold upC
          by_cases e : k = i
          · rw [if_pos e, e]
          · rw [if_neg e]; exact hz k (by omega)
        have nxx : ∀ τ', Ext σ1 τ' → Ext σ τ' := fun τ' h => h01.trans h
        simp only [zar] at m6
        have hi5 : i = 0 ∨ i = 1 ∨ i = 2 ∨ i = 3 ∨ i = 4 := by omega
        clear kee hck hz hC hs1
        rcases hi5 with rfl | rfl | rfl | rfl | rfl
        all_goals
          have FF := fI @a4 (fI @a6 (fI @a52 @m6)); refine gxC ?_; clear FF
          refine hof.useOwn hO1 hE1 fun τ' hE' => ?_
          have k6' := k6 τ' hE'
          have k4' := k4 τ' hE'
          have hfin := fin τ' hE'
          have hEE := nxx τ' hE'
          clear hE' fin nxx k4 k6
          have FF := fI @a4 (fI @a6 (fI @a52 (fI @k6' (fI zar.eq_1 (fI @c0 (fI @c1 (fI @c2 (fI @c3 (fI @c4 Zn.zAV.eq_1))))))))); refine gxB ?_; clear FF
          refine hI1 _ _ _ ?_ ⟨Ext.setF hEE f6, by simp [a4], by simp [a6], by simp [zD, k4'], _, _, by simp; rfl, ?_, rfl, ?_, hfin.up ?_, fz⟩
          · omega
          · omega
          · simp [zD, k6', zar, upC]; rfl
          · intro j o hj h
            rw [zhA (by rintro rfl; simp at hj)]; exact h
      · have : i = 5 := by omega
        subst this
        have FF := fI @a4 (fI @a6 @a52); refine gxB ?_; clear FF
        refine hR1 _ _ ⟨hE, by simp [a4], by simp [a6], m4, ?_⟩
        rw [m6]
        simp only [zar, hz 0 (by omega), hz 1 (by omega), hz 2 (by omega), hz 3 (by omega), hz 4 (by omega)]
    · rintro B ρ' ⟨hE, a4, a6, m4, m6⟩
      simp only [zar] at m4 m6
      have FF := fI @a4 (fI @a6 (fI @m4 (fI @m6 (fI zar.eq_1 (fI Zn.zAV.eq_1 @zD))))); exact gxA
end Go.Proofs.YtpboabpapgimoaaGreat.Av
namespace Go.Proofs.YtpboabpapgimoaaGreat.Av
open Go
set_option linter.unusedSimpArgs false
set_option linter.unusedVariables false
set_option maxRecDepth 100000
set_option maxHeartbeats 4000000
set_option pp.maxSteps 600
theorem zon {σ ρ : St} {n : Nat} {v : AV} {es : List AV} (h : OwnL σ ρ n v es) : Weaker (zr σ.m ρ.m v) (.sl n es false) := by
  rcases h with ⟨rfl, rfl⟩ | ⟨j, rfl, h1, h2, h3⟩
  · exact zaT
  · rw [zbf h3 h2 (by simp), h1]; simp; exact Weaker.refl _
theorem OwnC.give {σ ρ : St} {c : Nat → AV} {es : Nat → List AV} {u : Value} (h : OwnC σ ρ 0 c es) : Weaker (z0 σ.m ρ.m (.tup [.agg (zar c), .raw u])) (.tup [.agg (zar fun k => .sl 2 (es k) false), .raw u]) :=
  weaker_five (a := fun k => zr σ.m ρ.m (c k)) fun k hk => zon (h.own k (Nat.zero_le _) hk)
theorem zkA {n : Nw} (f : Fl) {d : Int} (hn : NwOK n) (hr : zax n = true) :
    PCalls Tryz.prog 11 [zR n f, .raw (.int .i64 d)] (zcM n d) := by
  have hP := zdv (l := [n]) (by simp [hr]) (by simp)
  have hdl := zcy n f d (by have := hn.ports; omega)
  have hz := zjW n d
  refine zE Tryz.func11 rfl (N := 67) rfl rfl (by simp) hz fun σ => ?_
  repeat (refine zf ?_)
  refine zl ?_
  simp [-cellOK, ze]
  generalize hA0 : put 67 _ _ _ = A0
  have d1 : A0 1 = .raw (.int .i64 d) := by rw [← hA0]; simp [za]
  have d2 : A0 2 = .rp ⟨2, σ.nx 2, 3⟩ 0 0 := by rw [← hA0]; simp [za]
  have d4 : A0 4 = .rp ⟨4, σ.nx 4, 5⟩ 0 0 := by rw [← hA0]; simp [za]
  clear hA0
  refine zbs ⟨2, σ.nx 2, 3⟩ (a := zR n f) (by simp [zt]) fun A kp fz => ?_
  have a1 := kp 1 _ d1 trivial
  have a2 := fz 2 _ d2
  have a4 := kp 4 _ d4 (by simp [zcY])
  clear kp fz d1 d2 d4
  generalize hτ : St.del _ _ = τ
  have m4 : τ.m ⟨4, σ.nx 4, 5⟩ = some (.buf [.agg (zar fun _ => .sl 0 [] true)]) := by rw [← hτ]; simp [St.new, St.del, zar]
  have f4 : σ.m ⟨4, σ.nx 4, 5⟩ = none := zc _ _ _
  have hE : Ext σ τ := by rw [← hτ]; exact Ext.delZ exA (zc _ _ _)
  clear hτ
  generalize σ.nx 4 = s4 at *
  have hnil : (Ob.buf [AV.agg [AV.sl 0 [] true, AV.sl 0 [] true, AV.sl 0 [] true, AV.sl 0 [] true, AV.sl 0 [] true]]) = .buf [.agg (zar fun _ => .sl 0 [] true)] := rfl
  cases hb1 : zas n d with
  | true =>
    rw [hb1] at hdl
    simp only [zar] at m4
    have FF := fI @a1 (fI @a2 (fI @a4 (fI @ze (fI @zw (fI @m4 (fI @zt (fI @zD @za))))))); refine gxC ?_; clear FF
    refine zct (x := .tup [.agg (zar fun _ => .sl 0 [] true), .raw (.int .i64 91)]) (.inr rfl) exA (by simp [a4, zar, zt, zD, za, m4]) ?_
    unfold zcM zbb
    rw [hb1]
    simp only [z0, zr, zar, List.map_cons, List.map_nil, if_true]
    exact weaker_five (a := fun _ => .sl 0 [] true) (b := fun _ => Zn.zAV [] false) fun k _ => zaT
  | false =>
    rw [hb1] at hdl
    refine goD ?_
    iterate 10 (first | ((first | refine zm ?_ | refine zl ?_ | refine dN (by decide +kernel) ?_ | refine dC (by decide +kernel) ?_ | refine uP (hdl) ?_ | refine .inl ⟨_, .inl (hdl), ?_⟩ | (refine zb ?_ ?_ <;> (intro hg; simp only [hg])) | fail) <;> simp [-cellOK, a1, a2, a4, ze, zw, zt, za]) | refine zf ?_ | refine zg ?_ | (refine zF ?_; simp only [zG]; try simp) | (refine zd (fun hc => ?_) (fun hc => ?_) <;> try simp at hc) | fail)
    refine zf ?_
    refine zbF (fun o => o.dst == some 24) zc8 (by decide +kernel) ?_
    simp [-cellOK, a1, a2, a4, ze, zw, zt, za]
    refine .inl ⟨_, .inl zev, ?_⟩
    rw [hnil]
    refine ACalls.freeze ⟨23, τ.nx 23, 3⟩ ?_
    have f23 : σ.m ⟨23, τ.nx 23, 3⟩ = none := zI hE
    have f6 : σ.m ⟨6, τ.nx 6, 5⟩ = none := zI hE
    generalize hρ : St.del _ _ = ρ
    have hmap : List.map (zr ρ.m ((τ.new 6 5 (.buf [.agg (zar fun _ => .sl 0 [] true)])).new 23 3 (.buf [zR n f])).m) [.rs ⟨23, τ.nx 23, 3⟩ 0 1, zp ⟨0, 4294967295⟩] = [zaN [(n, f)] false, zp zbr] := by
      rw [← hρ, List.map_cons, List.map_cons, List.map_nil, zbf (es := [zR n f]) (by simp [St.del]) (by simp [zt, za]) (by simp)]
      rfl
    rw [hmap]
    have hE2 : Ext σ ρ := by rw [← hρ]; exact Ext.delZ (zK (zK hE)) f23
    have r4 : ρ.m ⟨4, s4, 5⟩ = some (.buf [.agg (zar fun _ => .sl 0 [] true)]) := by
      rw [← hρ, ← hnil]; simp [St.del, zt, m4, zar]
    have r6 : ρ.m ⟨6, τ.nx 6, 5⟩ = some (.buf [.agg (zar fun _ => .sl 0 [] true)]) := by
      rw [← hρ]; simp [St.del, zt]
    clear hρ hmap f23 hE m4
    generalize τ.nx 6 = s6 at *
    have hcut := zeh [(n, f)] false zbr ⟨by decide, by decide, by decide, by decide⟩ (by simp [hn]) (by simp [hr]) (by simp)
    have hce : (if zbr.hi < zbr.lo then (31 : Int) else 0) = 0 := by decide
    rw [hce] at hcut
    have hPe : zba (List.map (fun x : Nw × Fl => x.1) [(n, f)]) zbr = zN [n] := rfl
    rw [hPe] at hcut
    have hlen := hP.len
    have hinz := hP.inz
    have hfz : zcM n d = .tup [.agg (zar fun k => .sl 2 ((zan [] (zaO n d (zN [n]) k)).map zp) false), .raw (.int .i64 0)] := by
      have : (fun k => Zn.zAV (zdF n d (zN [n]) k) false) = fun k => .sl 2 ((zan [] (zaO n d (zN [n]) k)).map zp) false := by
        funext k
        unfold zdF
        rw [← zdE hP]; rfl
      unfold zcM zbb; rw [hb1, if_neg (by simp), ← this]; rfl
    rw [hfz]
    clear hfz hz hP hPe hce hnil
    generalize zN [n] = P at *
    refine hcut.use ?_
    have FF := fI @a1 (fI @a2 @a4); refine gxB ?_; clear FF
    refine zaC (fun B ρ' => ∃ c, OwnC σ ρ' 0 c (fun k => (zan [] (zaO n d P k)).map zp) ∧ Ext σ ρ' ∧ B 4 = .rp ⟨4, s4, 5⟩ 0 0 ∧ B 6 = .rp ⟨6, s6, 5⟩ 0 0 ∧ ρ'.m ⟨4, s4, 5⟩ = some (.buf [.agg (zar fun _ => .sl 0 [] true)]) ∧ ρ'.m ⟨6, s6, 5⟩ = some (.buf [.agg (zar c)])) ?_ ?_
    · intro R1 hR1
      refine zO (fun n' B ρ' => Ext σ ρ' ∧ B 1 = .raw (.int .i64 d) ∧ B 2 = .pp (zR n f).cells 0 ∧ B 4 = .rp ⟨4, s4, 5⟩ 0 0 ∧ B 6 = .rp ⟨6, s6, 5⟩ 0 0 ∧ B 8 = z9 P false ∧ ρ'.m ⟨4, s4, 5⟩ = some (.buf [.agg (zar fun _ => .sl 0 [] true)]) ∧ ∃ (i : Nat) (c : Nat → AV), B 10 = .raw (.int .i64 i) ∧ i ≤ P.length ∧ n' = P.length - i ∧ ρ'.m ⟨6, s6, 5⟩ = some (.buf [.agg (zar c)]) ∧ OwnC σ ρ' 0 c (fun k => (zan [] (zaO n d (P.take i) k)).map zp)) P.length ?_ ?_
      · exact ⟨hE2, by simp [a1], by simp [a2], by simp [a4], by simp, by simp [z9], r4, 0, _, by simp, by omega, by omega, r6, ⟨fun k _ _ => .inl ⟨by simp [zaO, zan], rfl⟩, fun a b i _ _ _ _ ⟨l, h⟩ => by cases h⟩⟩
      clear a1 a2 a4 hE2 r4 r6
      rintro n' B ρ' ⟨hE, a1, a2, a4, a6, a8, m4, i, c, a10, hi, rfl, m6, hC⟩ I1 hI1
      by_cases hlt : i < P.length
      · have hxx : P[i]? = some P[i] := List.getElem?_eq_getElem hlt
        have w1 : IntKind.i64.wrap ((i : Int) + 1) = ((i + 1 : Nat) : Int) := by rw [zo (by omega) (by omega)]; omega
        have hri := hinz P[i] (List.getElem_mem hlt)
        have h1 := zdu n f d P[i].lo hn hr
        obtain ⟨k, hk, hk5⟩ := zhQ n d P[i].lo
        have hsum : ∀ j : Nat, zaO n d (P.take (i + 1)) j = zaO n d (P.take i) j ++ (if j = k then [P[i]] else []) := fun j => by
          unfold zaO
          rw [List.take_add_one, hxx, List.filter_append]
          simp only [Option.toList_some, List.filter_cons, List.filter_nil, hk]
          congr 1
          by_cases e : j = k
          · subst e; simp
          · have : ¬ ((k : Int) = (j : Int)) := by omega
            simp [e, this]
        have hjl : ∀ j : Nat, (zan [] (zaO n d (P.take i) j)).length < 2 ^ 36 := fun j => by
          have h2 := List.length_filter_le (fun r : Rg => decide ((zk n d r.lo).1.out = (j : Int))) (P.take i)
          have h3 := zdz (zaO n d (P.take i) j) []
          rw [List.length_take] at h2
          unfold zaO at *
          simp only [List.length_nil] at h3
          omega
        have hin1 : ∀ j : Nat, Zn.InZ (zan [] (zaO n d (P.take i) j)) := fun j => zfa _ _ (fun _ h => by cases h) fun r hr => hinz r (List.mem_of_mem_take (List.mem_filter.1 hr).1)
        obtain ⟨r, hr'⟩ : ∃ r, P[i] = r := ⟨_, rfl⟩
        rw [hr'] at hxx hsum h1 hk hri
        generalize (zk n d r.lo).2 = eT at h1
        generalize (zk n d r.lo).1 = T at *
        have wlo : IntKind.i64.wrap r.lo = r.lo := by obtain ⟨k1, k2, k3, k4⟩ := hri; exact zo (by omega) (by omega)
        have whi : IntKind.i64.wrap r.hi = r.hi := by obtain ⟨k1, k2, k3, k4⟩ := hri; exact zo (by omega) (by omega)
        have hck : ∀ j, j < 5 → (c j).cells = [c j] ∧ cellOK (c j) = true := fun j hj => zcO (hC.own j (Nat.zero_le _) hj)
        have c0 := hck 0 (by omega)
        have c1 := hck 1 (by omega)
        have c2 := hck 2 (by omega)
        have c3 := hck 3 (by omega)
        have c4 := hck 4 (by omega)
        obtain ⟨ρ2, hρ2⟩ : ∃ ρ2, ((ρ'.new 11 4 (.buf [.agg [.sl 0 [] true, .raw (.int .i64 0), .raw (.int .i64 0), .raw (.int .i64 0)]])).set ⟨11, ρ'.nx 11, 4⟩ (.buf [zaX T false])) = ρ2 := ⟨_, rfl⟩
        have hEr : Ext ρ' ρ2 := by rw [← hρ2]; exact exA
        have hE3 := hE.trans hEr
        have hC3 := hC.up (ρ := ρ2) fun i o _ => hEr.m i o
        have g4 := hEr.m _ _ m4
        have g6 := hEr.m _ _ m6
        have g11 : ρ2.m ⟨11, ρ'.nx 11, 4⟩ = some (.buf [zaX T false]) := by rw [← hρ2]; simp [zt, zD]
        obtain ⟨σ1, hO1, hE1, h01, hs1⟩ := hC3.one hE3 (Nat.zero_le k) hk5
        have hj := Zn.join_calls (f := r.lo) (t := r.hi) hE1 hO1 (hin1 k) ⟨hri.1, hri.2.1⟩ ⟨hri.2.2.1, hri.2.2.2⟩ (hjl k)
        have fin : ∀ v' τ', OwnL σ1 τ' 2 v' ((Zn.joinZ (zan [] (zaO n d (P.take i) k)) r.lo r.hi).map zp) → Ext σ1 τ' → OwnC σ τ' 0 (upC c k v') (fun j => (zan [] (zaO n d (P.take (i + 1)) j)).map zp) := fun v' τ' h1 h2 => by
          have := hC3.upd (Nat.zero_le k) hk5 h1 h2 h01 hs1
          have e : (fun j => if j = k then (Zn.joinZ (zan [] (zaO n d (P.take i) k)) r.lo r.hi).map zp else (zan [] (zaO n d (P.take i) j)).map zp) = fun j => (zan [] (zaO n d (P.take (i + 1)) j)).map zp := by
            funext j
            rw [hsum]
            by_cases e : j = k
            · subst e; rw [if_pos rfl, if_pos rfl, zcj]
            · simp [e]
          rw [e] at this
          exact this
        have kee : ∀ i o, i.sz ≠ 2 → ρ2.m i = some o → ∀ τ', Ext σ1 τ' → τ'.m i = some o := fun i o hi h τ' hE' => hE'.m i o (hs1 i o h fun e => hi (zfg (hC3.own k (Nat.zero_le _) hk5) e).1)
        have k4 := kee _ _ (by simp) g4
        have k6 := kee _ _ (by simp) g6
        have nxx : ∀ τ', Ext σ1 τ' → Ext σ τ' := fun τ' h => h01.trans h
        clear kee hs1 hC3 hC hEr hck hO1
        simp only [zar] at g6 m6
        have hk4 : k = 0 ∨ k = 1 ∨ k = 2 ∨ k = 3 ∨ k = 4 := by omega
        rcases hk4 with rfl | rfl | rfl | rfl | rfl
        all_goals
          (try ((first | with_reducible refine zs ?_ | with_reducible refine zx ?_ | with_reducible refine zy ?_); simp [-cellOK, a1, a2, a4, a6, a8, a10, m6, g6, g11, hlt, hxx, hr', hk, z9, rg_cells, rg_fold, ze, zw, zX, zau, wlo, whi])); repeat' (first | ((first | refine zm ?_ | refine zl ?_ | refine dN (by decide +kernel) ?_ | refine dC (by decide +kernel) ?_ | refine uP (h1) ?_ | refine .inl ⟨_, .inl (h1), ?_⟩ | (refine zb ?_ ?_ <;> (intro hg; simp only [hg])) | fail) <;> simp [-cellOK, a1, a2, a4, a6, a8, a10, m6, g6, g11, hlt, hxx, hr', hk, z9, rg_cells, rg_fold, ze, zw, zX, zau, wlo, whi]) | refine zf ?_ | refine zg ?_ | (refine zF ?_; simp only [zG]; try simp) | (refine zd (fun hc => ?_) (fun hc => ?_) <;> try simp at hc) | fail)
          have hq := hρ2
          simp [zaX, hk] at hq
          rw [zdq]
          rw [hq]
          refine hj.mono ?_
          rintro v' τ' ⟨hO', hE'⟩
          have v1 := (zcO hO').1
          have v2 := (zcO hO').2
          have k6' := k6 τ' hE'
          have k4' := k4 τ' hE'
          have hfin := fin v' τ' hO' hE'
          have hEE := nxx τ' hE'
          clear hO' hE' fin nxx k4 k6
          have FF := fI @a1 (fI @a2 (fI @a4 (fI @a6 (fI @a8 (fI @a10 (fI @k6' (fI zar.eq_1 (fI @hk (fI @c0 (fI @c1 (fI @c2 (fI @c3 (fI @c4 (fI @v1 (fI @v2 @w1))))))))))))))); refine gxB ?_; clear FF
          refine hI1 (P.length - (i + 1)) _ _ (by omega) ⟨Ext.setF hEE f6, by simp [a1], by simp [a2], by simp [a4], by simp [a6], by simp [a8, z9], by simp [zD, k4'], i + 1, _, by simp, by omega, rfl, ?_, hfin.up ?_⟩
          · simp [zD, k6', zar, upC]
          · intro j o hj h
            rw [zhA (by rintro rfl; simp at hj)]; exact h
      · have : i = P.length := by omega
        subst this
        rw [List.take_length] at hC
        have FF := fI @a1 (fI @a2 (fI @a4 (fI @a6 (fI @a8 (fI @a10 z9.eq_1))))); refine gxB ?_; clear FF
        exact hR1 _ _ ⟨c, hC, hE, by simp [a4], by simp [a6], m4, m6⟩
    clear a1 a2 a4 hE2 r4 r6
    rintro B ρ' ⟨c, hC, hE, a4, a6, m4, m6⟩
    have hck : ∀ j, j < 5 → (c j).cells = [c j] ∧ cellOK (c j) = true := fun j hj => zcO (hC.own j (Nat.zero_le _) hj)
    have c0 := hck 0 (by omega)
    have c1 := hck 1 (by omega)
    have c2 := hck 2 (by omega)
    have c3 := hck 3 (by omega)
    have c4 := hck 4 (by omega)
    simp only [zar] at m4 m6
    have FF := fI @a4 (fI @a6 (fI @m4 (fI @m6 (fI @c0 (fI @c1 (fI @c2 (fI @c3 @c4))))))); refine gxC ?_; clear FF
    refine zct (x := .tup [.agg (zar c), .raw (.int .i64 0)]) (.inr rfl) (Ext.setF hE f4) (by simp [a4, zar, zD, m4]) ?_
    refine OwnC.give (hC.up ?_)
    intro j o hj h
    rw [zhA (by rintro rfl; simp at hj)]; exact h
end Go.Proofs.YtpboabpapgimoaaGreat.Av
namespace Go.Proofs.YtpboabpapgimoaaGreat.Av
open Go
set_option linter.unusedSimpArgs false
set_option linter.unusedVariables false
set_option maxRecDepth 100000
set_option maxHeartbeats 4000000
set_option pp.maxSteps 600
theorem zg5 : PartsOK (zN [zcU]) := zdv (by simp [zoc]) (by simp)
theorem ztf : zbb zcU 0 2 = [⟨20, 24⟩] := by decide +kernel
theorem ztg : zbb zcU 0 4 = [⟨50, 59⟩] := by decide +kernel
theorem zuy : zaq (zN [zcU]) (fun x => zbl (zk zcU 0 x).1 2) = [⟨0, 49⟩] := by decide +kernel
theorem zuz : zaq (zN [zcU]) (fun x => za4 (zk zcU 0 x).1 2) = [⟨0, 19⟩, ⟨25, 29⟩] := by decide +kernel
theorem zdG : PCalls Tryz.prog 9 [] (.raw (.bool true)) := by
  have h1 := zf6 flN (d := 0) zkl zg5.w
  have h2 := zfJ flN (a := 0) (b := 2) zkl zg5.w
  have h3 := zeu flN (a := 0) (b := 2) zkl zg5.w
  have q1 : [(0 : Int), 2].any (zas zcU) = false := by decide
  have q2 : zas zcU 0 = false := by decide
  unfold zbm at h2 h3
  rw [if_neg (by rw [q1]; simp)] at h2 h3
  rw [zuy] at h2
  rw [zuz] at h3
  unfold zcM at h1
  simp only [zar, ztf, ztg] at h1
  rw [q2, if_neg (by simp)] at h1
  have s1 := Zn.same_calls [⟨20, 24⟩] [⟨20, 24⟩] false false (by simp)
  have s2 := Zn.same_calls [⟨0, 49⟩] [⟨0, 49⟩] false false (by simp)
  have s3 := Zn.same_calls [⟨0, 19⟩, ⟨25, 29⟩] [⟨0, 19⟩, ⟨25, 29⟩] false false (by simp)
  have s4 := Zn.same_calls [⟨50, 59⟩] [⟨50, 59⟩] false false (by simp)
  rw [decide_eq_true rfl] at s1 s2 s3 s4
  generalize zbb zcU 0 0 = Z0 at *
  generalize zbb zcU 0 1 = Z1 at *
  generalize zbb zcU 0 3 = Z3 at *
  have hn := zo9
  generalize zcU = N at hn h1 h2 h3
  have hnp : setPart (AV.agg [.sl 0 [] true, .sl 0 [] true, .sl 0 [] true]) 0 [zh N.t.ports flN.p, zC N.t.links flN.l, zz N.rules flN.r] = zR N flN := rfl
  refine zE Tryz.func9 rfl (N := 61) rfl rfl (by simp) (by simp [noIds]) fun σ => ?_
  (try ((first | with_reducible refine zs ?_ | with_reducible refine zx ?_ | with_reducible refine zy ?_); simp [-cellOK, ze, zw, hnp, Zn.zAV, zt, zD, za])); repeat' (first | ((first | refine zm ?_ | refine zl ?_ | refine dN (by decide +kernel) ?_ | refine dC (by decide +kernel) ?_ | refine uP (hn) ?_ | refine .inl ⟨_, .inl (hn), ?_⟩ | refine uP (h1) ?_ | refine .inl ⟨_, .inl (h1), ?_⟩ | refine uP (h2) ?_ | refine .inl ⟨_, .inl (h2), ?_⟩ | refine uP (h3) ?_ | refine .inl ⟨_, .inl (h3), ?_⟩ | (refine zb ?_ ?_ <;> (intro hg; simp only [hg])) | fail) <;> simp [-cellOK, ze, zw, hnp, Zn.zAV, zt, zD, za]) | refine zf ?_ | refine zg ?_ | (refine zF ?_; simp only [zG]; try simp) | (refine zd (fun hc => ?_) (fun hc => ?_) <;> try simp at hc) | fail)
  refine s1.useLent rfl (σ0 := σ) (OwnL.of rfl (by simp [zt, za, zD, zp]) (zc _ _ _) (by simp)) ?_
  have FF := fI @ze (fI @zw (fI @hnp (fI Zn.zAV.eq_1 (fI @zt (fI @zD @za))))); refine gxC ?_; clear FF
  refine s2.useLent rfl (σ0 := σ) (OwnL.of rfl (by simp [zt, za, zD, zp]) (zc _ _ _) (by simp)) ?_
  have FF := fI @ze (fI @zw (fI @hnp (fI Zn.zAV.eq_1 (fI @zt (fI @zD @za))))); refine gxC ?_; clear FF
  refine s3.useLent rfl (σ0 := σ) (OwnL.of rfl (by simp [zt, za, zD, zp]) (zc _ _ _) (by simp)) ?_
  have FF := fI @ze (fI @zw (fI @hnp (fI Zn.zAV.eq_1 (fI @zt (fI @zD @za))))); refine gxC ?_; clear FF
  refine s4.useLent rfl (σ0 := σ) (OwnL.of rfl (by simp [zt, za, zD, zp]) (zc _ _ _) (by simp)) ?_
  have FF := fI @ze (fI @zw (fI @hnp (fI Zn.zAV.eq_1 (fI @zt (fI @zD @za))))); exact gxA
end Go.Proofs.YtpboabpapgimoaaGreat.Av
namespace Go.Proofs.YtpboabpapgimoaaGreat.Av
open Go
set_option linter.unusedSimpArgs false
set_option linter.unusedVariables false
set_option maxRecDepth 100000
set_option maxHeartbeats 4000000
set_option pp.maxSteps 600
theorem PCalls.weak {P : Program} {f : FuncId} {args : List AV} {r r' : AV} (h : PCalls P f args r) (hw : Weaker r r') (hn : noIds r') : PCalls P f args r' :=
  ⟨hn, fun σ => ⟨(h.2 σ).1, fun S vs hS hl => ((h.2 σ).2 S vs hS hl).mono fun e w' ⟨S', σ', x, v, h1, h2, h3, h4, h5, h6⟩ => ⟨S', σ', r', v, h1, h2, h3, h4, hw _ _ (h6.1 ▸ h5), rfl, h6.2⟩⟩⟩
def zh7 (b : Bool) (z : List Rg) : AV := .tup [Zn.zAV (if b then [] else z) false, .raw (.int .i64 (if b then 91 else 0))]
@[simp] theorem zcz (K : Id → Prop) (b : Bool) (z : List Rg) : (zh7 b z).ids K := by simp [zh7]
theorem zbV (b : Bool) (z : List Rg) : Weaker (zeg b z) (zh7 b z) := by
  cases b
  · exact Weaker.refl _
  · exact weaker_tup zaT
theorem zk8 (n m : Nw) (f g : Fl) (b : Bool) : AV.sl 3 [zR n f, zR m g] b = zaN [(n, f), (m, g)] b := rfl
theorem zck {n : Nw} (h : zbZ n = true) : zax n = true := by
  unfold zbZ at h
  simp only [Bool.and_eq_true] at h
  exact h.2.2.2
theorem zdj {l : List Nw} (h : PartsOK (zN l)) (w : Int → Bool) : (zaq (zN l) w).length < 256 := by
  rw [← zdE h]
  have h1 := zdz ((zN l).filter fun r => w r.lo) []
  have h2 := List.length_filter_le (fun r : Rg => w r.lo) (zN l)
  have h3 := h.len
  simp only [List.length_nil] at h1
  omega
theorem zie (n m : Nw) (f g : Fl) (d : Int) (r : Rg) (hn : NwOK n) (hm : NwOK m) (hr : RgOK r) :
    PCalls Tryz.prog 6 [zcl n m f g, .raw (.int .i64 d), zp r] (.raw (.bool true)) := by
  have hal := zdG
  have hf1 := zch n f hn.w
  have hf2 := zch m g hm.w
  refine zE Tryz.func6 rfl (N := 85) rfl rfl (by simp) (by simp [noIds]) fun σ => ?_
  repeat (refine zf ?_)
  refine zl ?_
  simp [-cellOK, zaB, rg_cells]
  generalize hA0 : put 85 _ _ _ = A0
  have d1 : A0 1 = .raw (.int .i64 d) := by rw [← hA0]; simp [za]
  have d3 : A0 3 = .rp ⟨3, σ.nx 3, 6⟩ 0 0 := by rw [← hA0]; simp [za]
  have d5 : A0 5 = .rp ⟨5, σ.nx 5, 2⟩ 0 0 := by rw [← hA0]; simp [za]
  clear hA0
  refine zbs ⟨3, σ.nx 3, 6⟩ (a := zcl n m f g) (by simp [zt, za]) fun A1 kp fz => ?_
  have b1 := kp 1 _ d1 trivial
  have b3 := fz 3 _ d3
  have b5 := kp 5 _ d5 (by simp [zcY])
  clear kp fz d1 d3 d5
  refine zbs ⟨5, σ.nx 5, 2⟩ (a := zp r) (by simp [St.del, zt, za]) fun A kp fz => ?_
  have a1 := kp 1 _ b1 trivial
  have a3 := kp 3 _ b3 trivial
  have a5 := fz 5 _ b5
  clear kp fz b1 b3 b5
  have hE : Ext σ (St.del (St.del ((σ.new 3 6 (.buf [zcl n m f g])).new 5 2 (.buf [zp r])) ⟨3, σ.nx 3, 6⟩) ⟨5, σ.nx 5, 2⟩) := Ext.delZ (Ext.delZ exA (zc _ _ _)) (zc _ _ _)
  generalize St.del _ _ = τ at *
  cases hq : zbZ n with
  | false =>
    rw [hq] at hf1
    have FF := fI @a1 (fI @a3 (fI @a5 (fI @zaB @zw))); exact gxA
  | true =>
  rw [hq] at hf1
  cases hq2 : zbZ m with
  | false =>
    rw [hq2] at hf2
    have FF := fI @a1 (fI @a3 (fI @a5 (fI @zaB @zw))); exact gxA
  | true =>
  rw [hq2] at hf2
  have rn := zck hq
  have rm := zck hq2
  have hP := zdv (l := [n, m]) (by simp [rn, rm]) (by simp)
  have hzl := zdj hP fun a => !decide ((zk n d a).1 = (zk m d a).1)
  have h1 := (zhe (f := f) (g := g) (d := d) hn hm hP.w).weak (zbV _ _) (zcz _ _ _)
  have h2 := (ziU f g (d := d) hn hm rn rm).weak (zbV _ _) (zcz _ _ _)
  have hcl : (zba [n, m] r).length < 2 ^ 60 := by
    have h1 := zdT (l := [n, m]) (by simp [rn, rm])
    have h2 := zfP (zal [n, m])
    rw [zeG (by simp [rn, rm]) (by simp)]
    split
    · simp
    · have h3 : (zee (zaF (zal [n, m])) r).length ≤ (zaE (zaF (zal [n, m]))).length := List.length_filterMap_le _ _
      rw [zcx] at h3
      simp only [List.length_cons, List.length_nil] at h1
      omega
  have h3 := zhE [(n, f), (m, g)] true r hr (by simp [hn, hm]) (by simp)
  have h4 := zeh [(n, f), (m, g)] true r hr (by simp [hn, hm]) (by simp [rn, rm]) (by simp)
  rw [← zk8] at h3 h4
  have hmp : List.map (fun x : Nw × Fl => x.1) [(n, f), (m, g)] = [n, m] := rfl
  rw [hmp] at h3 h4
  generalize (if r.hi < r.lo then (31 : Int) else 0) = eC at *
  generalize zba [n, m] r = C at *
  generalize zaq (zN [n, m]) _ = Z at *
  generalize (zas n d || zas m d) = bb at *
  have hzl2 : (if bb = true then [] else Z).length < 2 ^ 60 := by cases bb <;> simp; omega
  unfold zh7 at h1 h2
  generalize (if bb = true then [] else Z) = Y at *
  generalize (if bb = true then (91 : Int) else 0) = eD at *
  have s1 := Zn.same_calls Y Y false false hzl2
  have s2 := Zn.same_calls C C false false hcl
  rw [decide_eq_true rfl] at s1 s2
  have hzc : ∀ (z : List Rg), z9 z false = Zn.zAV z false := fun _ => rfl
  rw [hzc] at h3 h4
  (try ((first | with_reducible refine zs ?_ | with_reducible refine zx ?_ | with_reducible refine zy ?_); simp [-cellOK, a1, a3, a5, zaB, zw, rg_cells, rg_fold, Zn.zAV])); repeat' (first | ((first | refine zm ?_ | refine zl ?_ | refine dN (by decide +kernel) ?_ | refine dC (by decide +kernel) ?_ | refine uP (hf1) ?_ | refine .inl ⟨_, .inl (hf1), ?_⟩ | refine uP (hf2) ?_ | refine .inl ⟨_, .inl (hf2), ?_⟩ | refine uP (h1) ?_ | refine .inl ⟨_, .inl (h1), ?_⟩ | refine uP (h2) ?_ | refine .inl ⟨_, .inl (h2), ?_⟩ | refine uP (h3) ?_ | refine .inl ⟨_, .inl (h3), ?_⟩ | refine uP (h4) ?_ | refine .inl ⟨_, .inl (h4), ?_⟩ | refine uP (s1) ?_ | refine .inl ⟨_, .inl (s1), ?_⟩ | refine uP (s2) ?_ | refine .inl ⟨_, .inl (s2), ?_⟩ | refine uP (hal) ?_ | refine .inl ⟨_, .inl (hal), ?_⟩ | (refine zb ?_ ?_ <;> (intro hg; simp only [hg])) | fail) <;> simp [-cellOK, a1, a3, a5, zaB, zw, rg_cells, rg_fold, Zn.zAV]) | refine zf ?_ | refine zg ?_ | (refine zF ?_; simp only [zG]; try simp) | (refine zq (by simp) ?_; simp) | (refine zam (by simp) (by simp [noIds]) (by repeat (first | assumption | exact Ext.refl _ | refine zK ?_ | refine Ext.setF ?_ (by first | assumption | (simp [za, St.set, zc]; done) | exact zI (by assumption)))) ?_; simp [-cellOK, a1, a3, a5, zaB, zw, rg_cells, rg_fold, Zn.zAV, nsE]) | (refine zd (fun hc => ?_) (fun hc => ?_) <;> try simp at hc) | fail)
theorem zjX {n : Nw} (h : PartsOK (zN [n])) (d : Int) (k : Nat) : (zbb n d k).length < 2 ^ 60 := by
  unfold zbb
  split
  · simp
  · have := zdj h fun a => decide ((zk n d a).1.out = (k : Int))
    unfold zdF
    omega
theorem zjY (n : Nw) (f : Fl) (a b : Int) (hn : NwOK n) :
    PCalls Tryz.prog 3 [zR n f, .raw (.int .i64 a), .raw (.int .i64 b)] (.raw (.bool true)) := by
  have hal := zdG
  have hf1 := zch n f hn.w
  refine zE Tryz.func3 rfl (N := 110) rfl rfl (by simp) (by simp [noIds]) fun σ => ?_
  cases hq : zbZ n with
  | false =>
    rw [hq] at hf1
    have FF := fI @ze (fI @zw (fI @zt (fI @zD @za))); exact gxA
  | true =>
  rw [hq] at hf1
  have rn := zck hq
  have hP := zdv (l := [n]) (by simp [rn]) (by simp)
  have h1 := zf6 f (d := a) hn hP.w
  have h2 := zkA f (d := a) hn rn
  have h3 := (zfJ f (a := a) (b := b) hn hP.w).weak (zbV _ _) (zcz _ _ _)
  have h4 := (zjU f (a := a) (b := b) hn rn).weak (zbV _ _) (zcz _ _ _)
  have h5 := (zeu f (a := a) (b := b) hn hP.w).weak (zbV _ _) (zcz _ _ _)
  have h6 := (zid f (a := a) (b := b) hn rn).weak (zbV _ _) (zcz _ _ _)
  have hz1 := zdj hP fun x => zbl (zk n a x).1 b
  have hz2 := zdj hP fun x => za4 (zk n a x).1 b
  have hs : ∀ k, PCalls Tryz.prog 12 [Zn.zAV (zbb n a k) false, Zn.zAV (zbb n a k) false] (.raw (.bool true)) := fun k => by
    have := Zn.same_calls (zbb n a k) (zbb n a k) false false (zjX hP a k)
    rwa [decide_eq_true rfl] at this
  unfold zcM at h1 h2
  generalize zbb n a = F at *
  generalize zaq (zN [n]) (fun x => zbl (zk n a x).1 b) = Z1 at *
  generalize zaq (zN [n]) (fun x => za4 (zk n a x).1 b) = Z2 at *
  generalize (if zas n a = true then (91 : Int) else 0) = eA at *
  generalize [a, b].any (zas n) = bb at *
  have hzl1 : (if bb = true then [] else Z1).length < 2 ^ 60 := by cases bb <;> simp; omega
  have hzl2 : (if bb = true then [] else Z2).length < 2 ^ 60 := by cases bb <;> simp; omega
  unfold zh7 at h3 h4 h5 h6
  generalize (if bb = true then [] else Z1) = Y1 at *
  generalize (if bb = true then [] else Z2) = Y2 at *
  generalize (if bb = true then (91 : Int) else 0) = eB at *
  have s1 := Zn.same_calls Y1 Y1 false false hzl1
  have s2 := Zn.same_calls Y2 Y2 false false hzl2
  rw [decide_eq_true rfl] at s1 s2
  simp only [zar] at h1 h2
  have s00 := hs 0
  have s01 := hs 1
  have s02 := hs 2
  have s03 := hs 3
  have s04 := hs 4
  clear hs
  generalize F 0 = F0 at *
  generalize F 1 = F1 at *
  generalize F 2 = F2 at *
  generalize F 3 = F3 at *
  generalize F 4 = F4 at *
  (try ((first | with_reducible refine zs ?_ | with_reducible refine zx ?_ | with_reducible refine zy ?_); simp [-cellOK, ze, zw, Zn.zAV, zt, zD, za])); repeat' (first | ((first | refine zm ?_ | refine zl ?_ | refine dN (by decide +kernel) ?_ | refine dC (by decide +kernel) ?_ | refine uP (hf1) ?_ | refine .inl ⟨_, .inl (hf1), ?_⟩ | refine uP (h1) ?_ | refine .inl ⟨_, .inl (h1), ?_⟩ | refine uP (h2) ?_ | refine .inl ⟨_, .inl (h2), ?_⟩ | (refine zb ?_ ?_ <;> (intro hg; simp only [hg])) | fail) <;> simp [-cellOK, ze, zw, Zn.zAV, zt, zD, za]) | refine zf ?_ | refine zg ?_ | (refine zF ?_; simp only [zG]; try simp) | (refine zq (by simp) ?_; simp) | (refine zam (by simp) (by simp [noIds]) (by repeat (first | assumption | exact Ext.refl _ | refine zK ?_ | refine Ext.setF ?_ (by first | assumption | (simp [za, St.set, zc]; done) | exact zI (by assumption)))) ?_; simp [-cellOK, ze, zw, Zn.zAV, zt, zD, za, nsE]) | (refine zd (fun hc => ?_) (fun hc => ?_) <;> try simp at hc) | fail)
  generalize hST : St.set _ _ _ = ST
  have hE : Ext σ ST := by rw [← hST]; exact exA
  have m3 : ST.m ⟨3, σ.nx 3, 3⟩ = some (.buf [zR n f]) := by rw [← hST]; simp [zt, zD, za]
  have m8 : ST.m ⟨8, σ.nx 8, 5⟩ = some (.buf [.agg [Zn.zAV F0 false, Zn.zAV F1 false, Zn.zAV F2 false, Zn.zAV F3 false, Zn.zAV F4 false]]) := by rw [← hST]; simp [zt, zD, za, Zn.zAV]
  have m10 : ST.m ⟨10, σ.nx 10, 5⟩ = some (.buf [.agg [Zn.zAV F0 false, Zn.zAV F1 false, Zn.zAV F2 false, Zn.zAV F3 false, Zn.zAV F4 false]]) := by rw [← hST]; simp [zt, zD, za, Zn.zAV]
  clear hST
  generalize hA0 : put 110 _ _ _ = A
  have a1 : A 1 = .raw (.int .i64 a) := by rw [← hA0]; simp
  have a2 : A 2 = .raw (.int .i64 b) := by rw [← hA0]; simp
  have a3 : A 3 = .rp ⟨3, σ.nx 3, 3⟩ 0 0 := by rw [← hA0]; simp
  have a8 : A 8 = .rp ⟨8, σ.nx 8, 5⟩ 0 0 := by rw [← hA0]; simp
  have a9 : A 9 = .raw (.int .i64 eA) := by rw [← hA0]; simp
  have a10 : A 10 = .rp ⟨10, σ.nx 10, 5⟩ 0 0 := by rw [← hA0]; simp
  have a11 : A 11 = .raw (.int .i64 eA) := by rw [← hA0]; simp
  have a12 : A 12 = .raw (.int .i64 0) := by rw [← hA0]; simp
  clear hA0 hf1 h1 h2
  refine zaC (fun B ρ => ρ = ST ∧ B 1 = .raw (.int .i64 a) ∧ B 2 = .raw (.int .i64 b) ∧ B 3 = .rp ⟨3, σ.nx 3, 3⟩ 0 0 ∧ B 9 = .raw (.int .i64 eA) ∧ B 11 = .raw (.int .i64 eA)) ?_ ?_
  · intro R1 hR1
    refine zO (fun n' B ρ => ρ = ST ∧ B 1 = .raw (.int .i64 a) ∧ B 2 = .raw (.int .i64 b) ∧ B 3 = .rp ⟨3, σ.nx 3, 3⟩ 0 0 ∧ B 8 = .rp ⟨8, σ.nx 8, 5⟩ 0 0 ∧ B 9 = .raw (.int .i64 eA) ∧ B 10 = .rp ⟨10, σ.nx 10, 5⟩ 0 0 ∧ B 11 = .raw (.int .i64 eA) ∧ ∃ i : Nat, B 12 = .raw (.int .i64 i) ∧ i ≤ 5 ∧ n' = 5 - i) 5 ?_ ?_
    · exact ⟨rfl, a1, a2, a3, a8, a9, a10, a11, 0, a12, by omega, by omega⟩
    clear a1 a2 a3 a8 a9 a10 a11 a12
    rintro n' B ρ ⟨rfl, a1, a2, a3, a8, a9, a10, a11, i, a12, hi, rfl⟩ I1 hI1
    have hi5 : i = 5 ∨ i = 0 ∨ i = 1 ∨ i = 2 ∨ i = 3 ∨ i = 4 := by omega
    rcases hi5 with h | h | h | h | h | h
    focus
      have FF := fI @a12 @h; refine gxB ?_; clear FF
      exact hR1 _ _ ⟨rfl, by simp [a1], by simp [a2], by simp [a3], by simp [a9], by simp [a11]⟩
    all_goals
      have FF := fI @a1 (fI @a2 (fI @a3 (fI @a8 (fI @a9 (fI @a10 (fI @a11 (fI @a12 (fI @h (fI @m8 (fI @m10 Zn.zAV.eq_1)))))))))); refine gxB ?_; clear FF
      refine hI1 (5 - (i + 1)) _ _ (by omega) ⟨rfl, by simp [a1], by simp [a2], by simp [a3], by simp [a8], by simp [a9], by simp [a10], by simp [a11], i + 1, by simp [h, IntKind.wrap, IntKind.bits, IntKind.signed], by omega, rfl⟩
  · rintro B ρ ⟨rfl, a1, a2, a3, a9, a11⟩
    have FF := fI @a1 (fI @a2 (fI @a3 (fI @a9 (fI @a11 (fI @m3 (fI @ze (fI @zw Zn.zAV.eq_1))))))); exact gxA
end Go.Proofs.YtpboabpapgimoaaGreat.Av
namespace Go.Proofs.YtpboabpapgimoaaGreat.Av
set_option linter.unusedSimpArgs false
set_option linter.unusedVariables false
theorem zhR {l : List Nw} (hr : ∀ n ∈ l, zax n = true) (hl : l.length ≤ 12) {r p : Rg} (hok : RgOK r) (hp : p ∈ zba l r) {n : Nw} (hn : n ∈ l) {a b : Int} (ha : p.lo ≤ a ∧ a ≤ p.hi) (hb : p.lo ≤ b ∧ b ≤ p.hi) (d : Int) : zk n d a = zk n d b := by
  have hpi := zgl hp
  obtain ⟨a1, a2, a3, a4⟩ := hok
  rw [zjH hr hl (by omega)] at hp
  have hc := zbt (zal l)
  obtain ⟨x, hx, b1, b2, b3, b4, b5⟩ := zms hp
  have hs : zg0 (zal l) a b := zo4 hc.srt hx ⟨by omega, by omega⟩ ⟨by omega, by omega⟩
  exact zn8 (zo7 hn) hs (by omega) (by omega) d
theorem zmI {l : List Nw} (hr : ∀ n ∈ l, zax n = true) (hl : l.length ≤ 12) {r : Rg} (hok : RgOK r) {x : Int} (hx : r.lo ≤ x ∧ x ≤ r.hi) : ∃ p ∈ zba l r, p.lo ≤ x ∧ x ≤ p.hi := by
  obtain ⟨a1, a2, a3, a4⟩ := hok
  rw [zjH hr hl (by omega)]
  exact zpY (zbt (zal l)) (by omega) (by omega) hx
def atP (P : List Rg) (s : Int) : Nat → Int
  | 0 => s
  | i + 1 => (P.getD i ⟨0, 0⟩).hi + 1
theorem zrE {P : List Rg} {r : Rg} (hs : P.Pairwise fun a b => a.hi < b.lo) (hi : ∀ p ∈ P, r.lo ≤ p.lo ∧ p.lo ≤ p.hi ∧ p.hi ≤ r.hi) (hc : ∀ x, r.lo ≤ x ∧ x ≤ r.hi → ∃ p ∈ P, p.lo ≤ x ∧ x ≤ p.hi) {i : Nat} (h : i < P.length) : P[i].lo = atP P r.lo i := by
  have hp := List.pairwise_iff_getElem.1 hs
  have k1 := hi _ (List.getElem_mem h)
  have hs1 : r.lo ≤ atP P r.lo i ∧ atP P r.lo i ≤ P[i].lo ∧ ∀ j (hj : j < i), P[j].hi < atP P r.lo i := by
    cases i with
    | zero => exact ⟨Int.le_refl _, k1.1, fun j hj => by omega⟩
    | succ i =>
      have h1 : i < P.length := by omega
      have h2 := hp i (i + 1) h1 h (by omega)
      have h3 := hi _ (List.getElem_mem h1)
      have e : atP P r.lo (i + 1) = P[i].hi + 1 := by simp [atP, List.getD_eq_getElem?_getD, List.getElem?_eq_getElem h1]
      rw [e]
      refine ⟨by omega, by omega, fun j hj => ?_⟩
      rcases Nat.lt_or_eq_of_le (Nat.lt_succ_iff.1 hj) with q | q
      · have := hp j i (by omega) h1 q
        omega
      · subst q; omega
  obtain ⟨q1, q2, q3⟩ := hs1
  obtain ⟨p, hpm, c1, c2⟩ := hc (atP P r.lo i) ⟨q1, by omega⟩
  obtain ⟨j, hj, rfl⟩ := List.getElem_of_mem hpm
  rcases Nat.lt_trichotomy j i with q | q | q
  · have := q3 j q; omega
  · subst q; omega
  · have := hp i j h hj q; omega
theorem zqG {P : List Rg} {r : Rg} (hr : r.lo ≤ r.hi) (hs : P.Pairwise fun a b => a.hi < b.lo) (hi : ∀ p ∈ P, r.lo ≤ p.lo ∧ p.lo ≤ p.hi ∧ p.hi ≤ r.hi) (hc : ∀ x, r.lo ≤ x ∧ x ≤ r.hi → ∃ p ∈ P, p.lo ≤ x ∧ x ≤ p.hi) : atP P r.lo P.length = r.hi + 1 := by
  have hp := List.pairwise_iff_getElem.1 hs
  obtain ⟨p, hpm, c1, c2⟩ := hc r.hi ⟨hr, Int.le_refl _⟩
  obtain ⟨j, hj, rfl⟩ := List.getElem_of_mem hpm
  have k := hi _ hpm
  have hjl : j + 1 = P.length := by
    rcases Nat.lt_or_ge (j + 1) P.length with q | q
    · have h1 := hp j (j + 1) hj q (by omega)
      have h2 := hi _ (List.getElem_mem q)
      omega
    · omega
  rw [← hjl]
  simp only [atP, List.getD_eq_getElem?_getD, List.getElem?_eq_getElem hj, Option.getD_some]
  omega
end Go.Proofs.YtpboabpapgimoaaGreat.Av
namespace Go.Proofs.YtpboabpapgimoaaGreat.Av
open Go
set_option linter.unusedSimpArgs false
set_option linter.unusedVariables false
set_option maxRecDepth 100000
set_option maxHeartbeats 4000000
set_option pp.maxSteps 600
theorem zlC (n m : Nw) (f g : Fl) (r : Rg) (d : Int) (hn : NwOK n) (hm : NwOK m) (hr : RgOK r) :
    PCalls Tryz.prog 5 [zcl n m f g, zp r, .raw (.int .i64 d)] (.raw (.bool true)) := by
  have hal := zdG
  have hf1 := zch n f hn.w
  have hf2 := zch m g hm.w
  have h3 := zhE [(n, f), (m, g)] true r hr (by simp [hn, hm]) (by simp)
  rw [← zk8] at h3
  have hmp : List.map (fun x : Nw × Fl => x.1) [(n, f), (m, g)] = [n, m] := rfl
  rw [hmp] at h3
  refine zE Tryz.func5 rfl (N := 158) rfl rfl (by simp) (by simp [noIds]) fun σ => ?_
  repeat (refine zf ?_)
  refine zl ?_
  simp [-cellOK, zaB, rg_cells]
  generalize hA0 : put 158 _ _ _ = A0
  have d2 : A0 2 = .raw (.int .i64 d) := by rw [← hA0]; simp [za]
  have d3 : A0 3 = .rp ⟨3, σ.nx 3, 6⟩ 0 0 := by rw [← hA0]; simp [za]
  have d4 : A0 4 = .rp ⟨4, σ.nx 4, 2⟩ 0 0 := by rw [← hA0]; simp [za]
  clear hA0
  refine zbs ⟨3, σ.nx 3, 6⟩ (a := zcl n m f g) (by simp [zt, za]) fun A1 kp fz => ?_
  have b2 := kp 2 _ d2 trivial
  have b3 := fz 3 _ d3
  have b4 := kp 4 _ d4 (by simp [zcY])
  clear kp fz d2 d3 d4
  refine zbs ⟨4, σ.nx 4, 2⟩ (a := zp r) (by simp [St.del, zt, za]) fun A kp fz => ?_
  have a2 := kp 2 _ b2 trivial
  have a3 := kp 3 _ b3 trivial
  have a4 := fz 4 _ b4
  clear kp fz b2 b3 b4
  have hE : Ext σ (St.del (St.del ((σ.new 3 6 (.buf [zcl n m f g])).new 4 2 (.buf [zp r])) ⟨3, σ.nx 3, 6⟩) ⟨4, σ.nx 4, 2⟩) := Ext.delZ (Ext.delZ exA (zc _ _ _)) (zc _ _ _)
  generalize St.del _ _ = τ at *
  have hzc : ∀ (z : List Rg), z9 z false = Zn.zAV z false := fun _ => rfl
  rw [hzc] at h3
  cases hq : zbZ n with
  | false =>
    rw [hq] at hf1
    by_cases hlt : r.hi < r.lo
    · rw [if_pos hlt] at h3
      generalize zba [n, m] r = P at *
      generalize zbZ m = qm at *
      cases qm <;> ((try ((first | with_reducible refine zs ?_ | with_reducible refine zx ?_ | with_reducible refine zy ?_); simp [-cellOK, a2, a3, a4, hlt, zaB, zw, rg_cells, rg_fold, Zn.zAV])); repeat' (first | ((first | refine zm ?_ | refine zl ?_ | refine dN (by decide +kernel) ?_ | refine dC (by decide +kernel) ?_ | refine uP (hf1) ?_ | refine .inl ⟨_, .inl (hf1), ?_⟩ | refine uP (hf2) ?_ | refine .inl ⟨_, .inl (hf2), ?_⟩ | refine uP (h3) ?_ | refine .inl ⟨_, .inl (h3), ?_⟩ | refine uP (hal) ?_ | refine .inl ⟨_, .inl (hal), ?_⟩ | (refine zb ?_ ?_ <;> (intro hg; simp only [hg])) | fail) <;> simp [-cellOK, a2, a3, a4, hlt, zaB, zw, rg_cells, rg_fold, Zn.zAV]) | refine zf ?_ | refine zg ?_ | (refine zF ?_; simp only [zG]; try simp) | (refine zq (by simp) ?_; simp) | (refine zam (by simp) (by simp [noIds]) (by repeat (first | assumption | exact Ext.refl _ | refine zK ?_ | refine Ext.setF ?_ (by first | assumption | (simp [za, St.set, zc]; done) | exact zI (by assumption)))) ?_; simp [-cellOK, a2, a3, a4, hlt, zaB, zw, rg_cells, rg_fold, Zn.zAV, nsE]) | (refine zd (fun hc => ?_) (fun hc => ?_) <;> try simp at hc) | fail))
    · rw [if_neg hlt] at h3
      generalize zba [n, m] r = P at *
      generalize zbZ m = qm at *
      cases qm <;> (have FF := fI @a2 (fI @a3 (fI @a4 (fI @hlt (fI @zaB (fI @zw (fI @rg_cells (fI @rg_fold Zn.zAV.eq_1))))))); exact gxA)
  | true =>
  rw [hq] at hf1
  cases hq2 : zbZ m with
  | false =>
    rw [hq2] at hf2
    by_cases hlt : r.hi < r.lo
    · rw [if_pos hlt] at h3
      generalize zba [n, m] r = P at *
      have FF := fI @a2 (fI @a3 (fI @a4 (fI @hlt (fI @zaB (fI @zw (fI @rg_cells (fI @rg_fold Zn.zAV.eq_1))))))); exact gxA
    · rw [if_neg hlt] at h3
      generalize zba [n, m] r = P at *
      have FF := fI @a2 (fI @a3 (fI @a4 (fI @hlt (fI @zaB (fI @zw (fI @rg_cells (fI @rg_fold Zn.zAV.eq_1))))))); exact gxA
  | true =>
  rw [hq2] at hf2
  by_cases hlt : r.hi < r.lo
  · rw [if_pos hlt] at h3
    generalize zba [n, m] r = P at *
    have FF := fI @a2 (fI @a3 (fI @a4 (fI @hlt (fI @zaB (fI @zw (fI @rg_cells (fI @rg_fold Zn.zAV.eq_1))))))); exact gxA
  rw [if_neg hlt] at h3
  have rn := zck hq
  have rm := zck hq2
  have hrr : ∀ x ∈ [n, m], zax x = true := by simp [rn, rm]
  have hll : [n, m].length ≤ 12 := by simp
  have hcl : (zba [n, m] r).length < 2 ^ 60 := by
    have h1 := zdT (l := [n, m]) (by simp [rn, rm])
    have h2 := zfP (zal [n, m])
    rw [zeG (by simp [rn, rm]) (by simp)]
    split
    · simp
    · have h3 : (zee (zaF (zal [n, m])) r).length ≤ (zaE (zaF (zal [n, m]))).length := List.length_filterMap_le _ _
      rw [zcx] at h3
      simp only [List.length_cons, List.length_nil] at h1
      omega
  have p1 := fun {p : Rg} (hp : p ∈ zba [n, m] r) {a b : Int} (ha : p.lo ≤ a ∧ a ≤ p.hi) (hb : p.lo ≤ b ∧ b ≤ p.hi) => zhR hrr hll hr hp (n := n) (by simp) ha hb d
  have p2 := fun {p : Rg} (hp : p ∈ zba [n, m] r) {a b : Int} (ha : p.lo ≤ a ∧ a ≤ p.hi) (hb : p.lo ≤ b ∧ b ≤ p.hi) => zhR hrr hll hr hp (n := m) (by simp) ha hb d
  have hin : ∀ p ∈ zba [n, m] r, r.lo ≤ p.lo ∧ p.lo ≤ p.hi ∧ p.hi ≤ r.hi := fun p hp => zgl hp
  have hsr := zmH (l := [n, m]) r
  have hcov := fun x hx => zmI hrr hll hr (x := x) hx
  have hlo := fun {i : Nat} (h : i < (zba [n, m] r).length) => zrE hsr hin hcov h
  have hend := zqG (by omega) hsr hin hcov
  clear hsr hcov
  generalize zba [n, m] r = P at *
  obtain ⟨r1, r2, r3, r4⟩ := hr
  have wlo : IntKind.i64.wrap r.lo = r.lo := zo (by omega) (by omega)
  have whi : IntKind.i64.wrap r.hi = r.hi := zo (by omega) (by omega)
  have whi1 : IntKind.i64.wrap (r.hi + 1) = r.hi + 1 := zo (by omega) (by omega)
  have FF := fI @a2 (fI @a3 (fI @a4 (fI @zaB (fI @zw (fI @rg_cells (fI @rg_fold (fI Zn.zAV.eq_1 @wlo))))))); refine gxB ?_; clear FF
  refine zaC (fun B ρ => Ext σ ρ ∧ B 4 = .pp (zp r).cells 0 ∧ B 11 = .raw (.int .i64 (r.hi + 1))) ?_ ?_
  · intro R1 hR1
    refine zO (fun n' B ρ => Ext σ ρ ∧ B 2 = .raw (.int .i64 d) ∧ B 3 = .pp (zcl n m f g).cells 0 ∧ B 4 = .pp (zp r).cells 0 ∧ B 9 = Zn.zAV P false ∧ ∃ i : Nat, B 12 = .raw (.int .i64 i) ∧ i ≤ P.length ∧ n' = P.length - i ∧ B 11 = .raw (.int .i64 (atP P r.lo i))) P.length ?_ ?_
    · exact ⟨hE, by simp [a2], by simp [a3], by simp [a4], by simp [Zn.zAV], 0, by simp, by omega, by omega, by simp [atP]⟩
    clear a2 a3 a4 hE
    rintro n' B ρ ⟨hE, a2, a3, a4, a9, i, a12, hi, rfl, a11⟩ I1 hI1
    by_cases hil : i < P.length
    · have hx : P[i]? = some P[i] := List.getElem?_eq_getElem hil
      have hmem := List.getElem_mem hil
      have hl := hlo hil
      have hii := hin _ hmem
      have hat : atP P r.lo (i + 1) = P[i].hi + 1 := by simp only [atP, List.getD_eq_getElem?_getD, hx, Option.getD_some]
      have q1 := fun {a b : Int} => p1 hmem (a := a) (b := b)
      have q2 := fun {a b : Int} => p2 hmem (a := a) (b := b)
      have w1 : IntKind.i64.wrap ((i : Int) + 1) = ((i + 1 : Nat) : Int) := by rw [zo (by omega) (by omega)]; omega
      obtain ⟨x, hxe⟩ : ∃ x, P[i] = x := ⟨_, rfl⟩
      rw [hxe] at hx hl hii hat q1 q2
      rw [← hl] at a11
      have v1 : IntKind.i64.wrap x.lo = x.lo := zo (by omega) (by omega)
      have v2 : IntKind.i64.wrap x.hi = x.hi := zo (by omega) (by omega)
      have v3 : IntKind.i64.wrap (x.hi + 1) = x.hi + 1 := zo (by omega) (by omega)
      have v4 : ¬ x.hi < x.lo := by omega
      have v5 : IntKind.u32.wrap (x.hi - x.lo) = x.hi - x.lo := zc1 (by omega) (by omega)
      obtain ⟨y, hy⟩ : ∃ y, (x.hi - x.lo).tdiv 2 = y := ⟨_, rfl⟩
      have hy2 : y = (x.hi - x.lo) / 2 := by rw [← hy, Int.tdiv_eq_ediv_of_nonneg (by omega)]
      have v6 : IntKind.u32.wrap y = y := zc1 (by omega) (by omega)
      have v7 : IntKind.u32.wrap (x.lo + y) = x.lo + y := zc1 (by omega) (by omega)
      have z1 : ∀ a, x.lo ≤ a ∧ a ≤ x.hi → PCalls Tryz.prog 22 [zR n f, .raw (.int .i64 d), .raw (.int .u32 a)] (.tup [zaX (zk n d x.lo).1 false, .raw (.int .i64 (zk n d x.lo).2)]) := fun a ha => by
        have := zcc n f d a hn
        rwa [q1 ha ⟨Int.le_refl _, hii.2.1⟩] at this
      have z2 : ∀ a, x.lo ≤ a ∧ a ≤ x.hi → PCalls Tryz.prog 22 [zR m g, .raw (.int .i64 d), .raw (.int .u32 a)] (.tup [zaX (zk m d x.lo).1 false, .raw (.int .i64 (zk m d x.lo).2)]) := fun a ha => by
        have := zcc m g d a hm
        rwa [q2 ha ⟨Int.le_refl _, hii.2.1⟩] at this
      have t11 := z1 x.lo ⟨by omega, by omega⟩
      have t12 := z1 x.hi ⟨by omega, by omega⟩
      have t13 := z1 (x.lo + y) ⟨by omega, by omega⟩
      have t21 := z2 x.lo ⟨by omega, by omega⟩
      have t22 := z2 x.hi ⟨by omega, by omega⟩
      have t23 := z2 (x.lo + y) ⟨by omega, by omega⟩
      have u1 := zd6 (zk n d x.lo).1 (zk n d x.lo).1 false false (by have := zbC n d x.lo; have := hn.links; omega) (by have := zbC n d x.lo; have := hn.links; omega)
      have u2 := zd6 (zk m d x.lo).1 (zk m d x.lo).1 false false (by have := zbC m d x.lo; have := hm.links; omega) (by have := zbC m d x.lo; have := hm.links; omega)
      rw [decide_eq_true rfl] at u1 u2
      clear q1 q2 z1 z2 p1 p2
      generalize (zk n d x.lo).1 = T1 at *
      generalize (zk n d x.lo).2 = e1 at *
      generalize (zk m d x.lo).1 = T2 at *
      generalize (zk m d x.lo).2 = e2 at *
      have FF := fI @a2 (fI @a3 (fI @a4 (fI @a9 (fI @a11 (fI @a12 (fI @hil (fI @hx (fI @hxe (fI Zn.zAV.eq_1 (fI @rg_cells (fI @rg_fold (fI @v1 (fI @v2 (fI @v3 (fI @v4 (fI @zt (fI @zD @za))))))))))))))))); refine gxB ?_; clear FF
      refine zbs ⟨13, ρ.nx 13, 2⟩ (a := zp x) (by simp [zt, zD, za]) fun C kp fz => ?_
      have c2 := kp 2 (.raw (.int .i64 d)) (by simp [a2]) trivial
      have c3 := kp 3 (.pp (zcl n m f g).cells 0) (by simp [a3]) trivial
      have c4 := kp 4 (.pp (zp r).cells 0) (by simp [a4]) trivial
      have c9 := kp 9 (Zn.zAV P false) (by simp [a9, Zn.zAV]) trivial
      have c11 := kp 11 (.raw (.int .i64 (x.hi + 1))) (by simp) trivial
      have c12 := kp 12 (.raw (.int .i64 i)) (by simp [a12]) trivial
      have c13 := fz 13 0 (by simp)
      have c14 := kp 14 (.raw (.int .i64 0)) (by simp) trivial
      clear kp fz a2 a3 a4 a9 a11 a12
      generalize hST : St.del _ _ = ST
      have hEs : Ext σ ST := by rw [← hST]; exact Ext.delZ exA (zI hE)
      clear hST hE
      refine zO (fun n' B ρ => Ext σ ρ ∧ B 2 = .raw (.int .i64 d) ∧ B 3 = .pp (zcl n m f g).cells 0 ∧ B 4 = .pp (zp r).cells 0 ∧ B 9 = Zn.zAV P false ∧ B 11 = .raw (.int .i64 (x.hi + 1)) ∧ B 12 = .raw (.int .i64 i) ∧ B 13 = .pp (zp x).cells 0 ∧ ∃ k : Nat, B 14 = .raw (.int .i64 k) ∧ k ≤ 2 ∧ n' = 2 - k) 2 ?_ ?_
      · exact ⟨hEs, c2, c3, c4, c9, c11, c12, c13, 0, c14, by omega, by omega⟩
      clear hEs c2 c3 c4 c9 c11 c12 c13 c14
      rintro n' B ρ ⟨hE, a2, a3, a4, a9, a11, a12, a13, k, a14, hk, rfl⟩ I2 hI2
      have hk2 : k = 2 ∨ k = 0 ∨ k = 1 := by omega
      rcases hk2 with h | h | h
      focus
        have FF := fI @a2 (fI @a3 (fI @a4 (fI @a9 (fI @a11 (fI @a12 (fI @a13 (fI @a14 (fI @h @w1)))))))); refine gxB ?_; clear FF
        refine hI1 (P.length - (i + 1)) _ _ (by omega) ⟨hE, by simp [a2], by simp [a3], by simp [a4], by simp [a9], i + 1, by simp, by omega, rfl, by simp [a11, hat]⟩
      all_goals
        have FF := fI @a2 (fI @a3 (fI @a4 (fI @a9 (fI @a11 (fI @a12 (fI @a13 (fI @a14 (fI @h (fI @zaB (fI @zw (fI @rg_cells (fI @rg_fold (fI @zX (fI @zau (fI @v5 (fI @v6 (fI @v7 (fI @hy (fI @zt (fI @zD @za)))))))))))))))))))); refine gxB ?_; clear FF
        refine hI2 (2 - (k + 1)) _ _ (by omega) ⟨exA, by simp [a2], by simp [a3], by simp [a4], by simp [a9], by simp [a11], by simp [a12], by simp [a13], k + 1, by simp [h, IntKind.wrap, IntKind.bits, IntKind.signed], by omega, rfl⟩
    · have : i = P.length := by omega
      subst this
      rw [hend] at a11
      have FF := fI @a2 (fI @a3 (fI @a4 (fI @a9 (fI @a11 (fI @a12 Zn.zAV.eq_1))))); refine gxB ?_; clear FF
      exact hR1 _ _ ⟨hE, by simp [a4], by simp [a11]⟩
  · rintro B ρ ⟨hE, a4, a11⟩
    have FF := fI @a4 (fI @a11 (fI @rg_cells (fI @whi @whi1))); exact gxA
end Go.Proofs.YtpboabpapgimoaaGreat.Av
namespace Go.Proofs.YtpboabpapgimoaaGreat.Av
open Go
set_option linter.unusedSimpArgs false
set_option linter.unusedVariables false
set_option maxRecDepth 100000
set_option maxHeartbeats 4000000
set_option pp.maxSteps 600
theorem zny : RgOK zbr := ⟨by decide, by decide, by decide, by decide⟩
theorem zhS {l : List Nw} (hr : ∀ n ∈ l, zax n = true) (hl : l.length ≤ 2) {w : Int → Bool} (hw : ∀ p ∈ zN l, ∀ a, p.lo ≤ a ∧ a ≤ p.hi → w a = w p.lo) {x : Int} (h0 : 0 ≤ x) (h1 : x < 4294967296) : Zn.hasB (zaq (zN l) w) x = w x := by
  have hP := zdv hr hl
  have hz : Zn.InZ ((zN l).filter fun r => w r.lo) := fun r hr => hP.inz r (List.mem_filter.1 hr).1
  have hsp := (Zn.refOfZ_spec hz).2.1 x
  have e1 : Zn.hasB (zaq (zN l) w) x = true ↔ Zn.MZ (Zn.refOfZ ((zN l).filter fun r => w r.lo)) x := by
    unfold zaq
    exact Zn.hasB_iff
  rw [Bool.eq_iff_iff, e1, hsp]
  constructor
  · rintro ⟨p, hp, h2⟩
    obtain ⟨h3, h4⟩ := List.mem_filter.1 hp
    rw [hw p h3 x h2]
    exact h4
  · intro h
    obtain ⟨p, hp, h2⟩ := zmI hr (by omega) zny (x := x) ⟨h0, by have : zbr.hi = 4294967295 := rfl; omega⟩
    exact ⟨p, List.mem_filter.2 ⟨hp, by rw [← hw p hp x h2]; exact h⟩, h2⟩
theorem zfb {l : List Nw} (hr : ∀ n ∈ l, zax n = true) (hl : l.length ≤ 2) {n : Nw} (hn : n ∈ l) {p : Rg} (hp : p ∈ zN l) {a : Int} (ha : p.lo ≤ a ∧ a ≤ p.hi) (d : Int) : zk n d a = zk n d p.lo :=
  zhR hr (by omega) zny hp hn ha ⟨Int.le_refl _, (zgl hp).2.1⟩ d
theorem zoo {n : Nw} (hr : zax n = true) {d x : Int} (hd : zas n d = false) (h0 : 0 ≤ x) (h1 : x < 4294967296) (k : Nat) : Zn.hasB (zbb n d k) x = decide ((zk n d x).1.out = (k : Int)) := by
  unfold zbb zdF
  rw [hd, if_neg (by simp)]
  exact zhS (by simp [hr]) (by simp) (fun p hp a ha => by rw [zfb (by simp [hr]) (by simp) (by simp) hp ha d]) h0 h1
theorem zop {n m : Nw} (hn : zax n = true) (hm : zax m = true) {d x : Int} (h0 : 0 ≤ x) (h1 : x < 4294967296) : Zn.hasB (zaq (zN [n, m]) fun a => !decide ((zk n d a).1 = (zk m d a).1)) x = !decide ((zk n d x).1 = (zk m d x).1) :=
  zhS (by simp [hn, hm]) (by simp) (fun p hp a ha => by rw [zfb (l := [n, m]) (n := n) (by simp [hn, hm]) (by simp) (by simp) hp ha d, zfb (l := [n, m]) (n := m) (by simp [hn, hm]) (by simp) (by simp) hp ha d]) h0 h1
theorem zjZ {n : Nw} (hr : zax n = true) {d x : Int} (h0 : 0 ≤ x) (h1 : x < 4294967296) (w : Tk → Bool) : Zn.hasB (zaq (zN [n]) fun a => w (zk n d a).1) x = w (zk n d x).1 :=
  zhS (by simp [hr]) (by simp) (fun p hp a ha => by rw [zfb (by simp [hr]) (by simp) (by simp) hp ha d]) h0 h1
theorem zk9 (n : Nw) (d a : Int) : (zk n d a).2 = if zas n d = true then 91 else 0 := by
  unfold zk zas
  by_cases h1 : d < 0
  · simp [h1]
  · by_cases h2 : (n.t.ports.length : Int) ≤ d <;> simp [h1, h2]
end Go.Proofs.YtpboabpapgimoaaGreat.Av
namespace Go.Proofs.YtpboabpapgimoaaGreat.Av
open Go
set_option linter.unusedSimpArgs false
set_option linter.unusedVariables false
set_option maxRecDepth 100000
set_option maxHeartbeats 4000000
set_option pp.maxSteps 600
theorem zj0 (n m : Nw) (f g : Fl) (p0 p1 x : Int) (hn : NwOK n) (hm : NwOK m) (hx : 0 ≤ x ∧ x < 4294967296) :
    PCalls Tryz.prog 7 [zcl n m f g, .agg [.raw (.int .i64 p0), .raw (.int .i64 p1)], .raw (.int .u32 x)] (.raw (.bool true)) := by
  have hal := zdG
  have hf1 := zch n f hn.w
  have hf2 := zch m g hm.w
  have t1 := zcc n f p0 x hn
  have t2 := zcc m g p0 x hm
  have e1 := zk9 n p0 x
  have e2 := zk9 m p0 x
  have hT1 := zhQ n p0 x
  have l1 := zbC n p0 x
  have l2 := zbC m p0 x
  refine zE Tryz.func7 rfl (N := 172) rfl rfl (by simp) (by simp [noIds]) fun σ => ?_
  repeat (refine zf ?_)
  refine zl ?_
  simp [-cellOK, zaB]
  generalize hA0 : put 172 _ _ _ = A0
  have d2 : A0 2 = .raw (.int .u32 x) := by rw [← hA0]; simp [za]
  have d3 : A0 3 = .rp ⟨3, σ.nx 3, 6⟩ 0 0 := by rw [← hA0]; simp [za]
  have d4 : A0 4 = .rp ⟨4, σ.nx 4, 2⟩ 0 0 := by rw [← hA0]; simp [za]
  clear hA0
  refine zbs ⟨3, σ.nx 3, 6⟩ (a := zcl n m f g) (by simp [zt, za]) fun A1 kp fz => ?_
  have b2 := kp 2 _ d2 trivial
  have b3 := fz 3 _ d3
  have b4 := kp 4 _ d4 (by simp [zcY])
  clear kp fz d2 d3 d4
  refine zbs ⟨4, σ.nx 4, 2⟩ (a := .agg [.raw (.int .i64 p0), .raw (.int .i64 p1)]) (by simp [St.del, zt, za]) fun A kp fz => ?_
  have a2 := kp 2 _ b2 trivial
  have a3 := kp 3 _ b3 trivial
  have a4 : A 4 = .pp [.raw (.int .i64 p0), .raw (.int .i64 p1)] 0 := fz 4 _ b4
  clear kp fz b2 b3 b4
  have hE : Ext σ (St.del (St.del ((σ.new 3 6 (.buf [zcl n m f g])).new 4 2 (.buf [.agg [.raw (.int .i64 p0), .raw (.int .i64 p1)]])) ⟨3, σ.nx 3, 6⟩) ⟨4, σ.nx 4, 2⟩) := Ext.delZ (Ext.delZ exA (zc _ _ _)) (zc _ _ _)
  generalize St.del _ _ = τ at *
  cases hq : zbZ n with
  | false =>
    rw [hq] at hf1
    generalize (zk n p0 x).1 = T at *
    generalize (zk n p0 x).2 = eT at *
    generalize (zk m p0 x).1 = U at *
    generalize (zk m p0 x).2 = eU at *
    have FF := fI @a2 (fI @a3 (fI @a4 (fI @zaB (fI @zw (fI @zX (fI @zau (fI @zt (fI @zD @za)))))))); exact gxA
  | true =>
  rw [hq] at hf1
  cases hq2 : zbZ m with
  | false =>
    rw [hq2] at hf2
    generalize (zk n p0 x).1 = T at *
    generalize (zk n p0 x).2 = eT at *
    generalize (zk m p0 x).1 = U at *
    generalize (zk m p0 x).2 = eU at *
    have FF := fI @a2 (fI @a3 (fI @a4 (fI @zaB (fI @zw (fI @zX (fI @zau (fI @zt (fI @zD @za)))))))); exact gxA
  | true =>
  rw [hq2] at hf2
  cases hd1 : zas n p0 with
  | true =>
    rw [hd1, if_pos rfl] at e1
    rw [e1] at t1
    generalize (zk n p0 x).1 = T at *
    generalize (zk m p0 x).1 = U at *
    generalize (zk m p0 x).2 = eU at *
    have FF := fI @a2 (fI @a3 (fI @a4 (fI @zaB (fI @zw (fI @zX (fI @zau (fI @zt (fI @zD @za)))))))); exact gxA
  | false =>
  rw [hd1, if_neg (by simp)] at e1
  rw [e1] at t1
  cases hd2 : zas m p0 with
  | true =>
    rw [hd2, if_pos rfl] at e2
    rw [e2] at t2
    generalize (zk n p0 x).1 = T at *
    generalize (zk m p0 x).1 = U at *
    have FF := fI @a2 (fI @a3 (fI @a4 (fI @zaB (fI @zw (fI @zX (fI @zau (fI @zt (fI @zD @za)))))))); exact gxA
  | false =>
  rw [hd2, if_neg (by simp)] at e2
  rw [e2] at t2
  have rn := zck hq
  have rm := zck hq2
  have hP := zdv (l := [n]) (by simp [rn]) (by simp)
  have hP2 := zdv (l := [n, m]) (by simp [rn, rm]) (by simp)
  have h1 := zf6 f (d := p0) hn hP.w
  have h2 := (zhe (f := f) (g := g) (d := p0) hn hm hP2.w).weak (zbV _ _) (zcz _ _ _)
  have h3 := (zfJ f (a := p0) (b := p1) hn hP.w).weak (zbV _ _) (zcz _ _ _)
  have h4 := (zeu f (a := p0) (b := p1) hn hP.w).weak (zbV _ _) (zcz _ _ _)
  have hsame := zd6 (zk n p0 x).1 (zk m p0 x).1 false false (by have := hn.links; omega) (by have := hm.links; omega)
  have hany : [p0, p1].any (zas n) = zas n p1 := by simp [hd1]
  rw [hany] at h3 h4
  rw [hd1, hd2] at h2
  have hF := fun k : Nat => Zn.refHas_calls (zbb n p0 k) false x (zjX hP p0 k)
  have hF0 := hF 0
  have hF1 := hF 1
  have hF2 := hF 2
  have hF3 := hF 3
  have hF4 := hF 4
  rw [zoo rn hd1 hx.1 hx.2] at hF0 hF1 hF2 hF3 hF4
  have hD := Zn.refHas_calls (zaq (zN [n, m]) fun a => !decide ((zk n p0 a).1 = (zk m p0 a).1)) false x (by have := zdj hP2 fun a => !decide ((zk n p0 a).1 = (zk m p0 a).1); omega)
  rw [zop rn rm hx.1 hx.2] at hD
  have hV := Zn.refHas_calls (zaq (zN [n]) fun a => zbl (zk n p0 a).1 p1) false x (by have := zdj hP fun a => zbl (zk n p0 a).1 p1; omega)
  rw [zjZ rn hx.1 hx.2 fun t => zbl t p1] at hV
  have hW := Zn.refHas_calls (zaq (zN [n]) fun a => za4 (zk n p0 a).1 p1) false x (by have := zdj hP fun a => za4 (zk n p0 a).1 p1; omega)
  rw [zjZ rn hx.1 hx.2 fun t => za4 t p1] at hW
  unfold zcM at h1
  rw [hd1, if_neg (by simp)] at h1
  simp only [zar] at h1
  clear hF hany
  generalize zbb n p0 0 = F0 at *
  generalize zbb n p0 1 = F1 at *
  generalize zbb n p0 2 = F2 at *
  generalize zbb n p0 3 = F3 at *
  generalize zbb n p0 4 = F4 at *
  generalize (zaq (zN [n, m]) fun a => !decide ((zk n p0 a).1 = (zk m p0 a).1)) = D at *
  generalize (zaq (zN [n]) fun a => zbl (zk n p0 a).1 p1) = V at *
  generalize (zaq (zN [n]) fun a => za4 (zk n p0 a).1 p1) = W at *
  have hTl : (zk n p0 x).1.path.length < 2 ^ 60 := by have := hn.links; omega
  generalize (zk n p0 x).1 = T at *
  generalize (zk m p0 x).1 = U at *
  generalize decide (T = U) = bTU at *
  clear l1 l2 e1 e2
  have FF := fI @a2 (fI @a3 (fI @a4 (fI @zaB (fI @zw (fI @zX (fI @zau (fI Zn.zAV.eq_1 (fI @zt (fI @zD @za))))))))); refine gxB ?_; clear FF
  refine zbs ⟨9, τ.nx 9, 4⟩ (a := zaX T false) (by simp [zt, zD, za]) fun B1 kp fz => ?_
  have b2 := kp 2 (.raw (.int .u32 x)) (by simp [a2]) trivial
  have b3 := kp 3 (.pp (zcl n m f g).cells 0) (by simp [a3]) trivial
  have b4 := kp 4 (.pp [.raw (.int .i64 p0), .raw (.int .i64 p1)] 0) (by simp [a4]) trivial
  have b9 := fz 9 0 (by simp)
  have b11 := kp 11 (.rp ⟨11, τ.nx 11, 4⟩ 0 0) (by simp) (by simp [zcY])
  have b13 := kp 13 (.rp ⟨13, τ.nx 13, 5⟩ 0 0) (by simp) (by simp [zcY])
  have b15 := kp 15 (.raw (.int .i64 0)) (by simp) trivial
  clear kp fz
  refine zbs ⟨11, τ.nx 11, 4⟩ (a := zaX U false) (by simp [St.del, zt, zD, za]) fun B2 kp fz => ?_
  have c2 := kp 2 _ b2 trivial
  have c3 := kp 3 _ b3 trivial
  have c4 := kp 4 _ b4 trivial
  have c9 := kp 9 _ b9 trivial
  have c11 := fz 11 _ b11
  have c13 := kp 13 _ b13 (by simp [zcY])
  have c15 := kp 15 _ b15 trivial
  clear kp fz b2 b3 b4 b9 b11 b13 b15
  refine zbs ⟨13, τ.nx 13, 5⟩ (a := .agg [Zn.zAV F0 false, Zn.zAV F1 false, Zn.zAV F2 false, Zn.zAV F3 false, Zn.zAV F4 false]) (by simp [St.del, zt, zD, za, Zn.zAV]) fun A kp fz => ?_
  have q2 := kp 2 _ c2 trivial
  have q3 := kp 3 _ c3 trivial
  have q4 := kp 4 _ c4 trivial
  have q9 := kp 9 _ c9 trivial
  have q11 := kp 11 _ c11 trivial
  have q13 : A 13 = .pp [Zn.zAV F0 false, Zn.zAV F1 false, Zn.zAV F2 false, Zn.zAV F3 false, Zn.zAV F4 false] 0 := fz 13 _ c13
  have q15 := kp 15 _ c15 trivial
  clear kp fz c2 c3 c4 c9 c11 c13 c15 a2 a3 a4
  generalize hST : St.del _ _ = ST
  have hEs : Ext σ ST := by rw [← hST]; exact Ext.delZ (Ext.delZ (Ext.delZ exA (zI hE)) (zI hE)) (zI hE)
  clear hST hE hf1 hf2 t1 t2 h1
  obtain ⟨k0, hk0⟩ : ∃ q, decide (T.out = 0) = q := ⟨_, rfl⟩
  obtain ⟨k1, hk1⟩ : ∃ q, decide (T.out = 1) = q := ⟨_, rfl⟩
  obtain ⟨k2, hk2⟩ : ∃ q, decide (T.out = 2) = q := ⟨_, rfl⟩
  obtain ⟨k3, hk3⟩ : ∃ q, decide (T.out = 3) = q := ⟨_, rfl⟩
  obtain ⟨k4, hk4⟩ : ∃ q, decide (T.out = 4) = q := ⟨_, rfl⟩
  obtain ⟨kd, hkd⟩ : ∃ q, decide (T.last.dev = p1) = q := ⟨_, rfl⟩
  have hF0' : PCalls Tryz.prog 27 [Zn.zAV F0 false, .raw (.int .u32 x)] (.raw (.bool k0)) := by rw [← hk0]; exact hF0
  have hF1' : PCalls Tryz.prog 27 [Zn.zAV F1 false, .raw (.int .u32 x)] (.raw (.bool k1)) := by rw [← hk1]; exact hF1
  have hF2' : PCalls Tryz.prog 27 [Zn.zAV F2 false, .raw (.int .u32 x)] (.raw (.bool k2)) := by rw [← hk2]; exact hF2
  have hF3' : PCalls Tryz.prog 27 [Zn.zAV F3 false, .raw (.int .u32 x)] (.raw (.bool k3)) := by rw [← hk3]; exact hF3
  have hF4' : PCalls Tryz.prog 27 [Zn.zAV F4 false, .raw (.int .u32 x)] (.raw (.bool k4)) := by rw [← hk4]; exact hF4
  clear hF0 hF1 hF2 hF3 hF4
  have hlv : za4 T p1 = (k3 && kd) := by unfold za4; rw [hk3, hkd]
  rw [hlv] at hW
  refine zaC (fun B ρ => Ext σ ρ ∧ B 2 = .raw (.int .u32 x) ∧ B 3 = .pp (zcl n m f g).cells 0 ∧ B 4 = .pp [.raw (.int .i64 p0), .raw (.int .i64 p1)] 0 ∧ B 9 = .pp (zaX T false).cells 0 ∧ B 11 = .pp (zaX U false).cells 0) ?_ ?_
  · intro R1 hR1
    refine zO (fun n' B ρ => Ext σ ρ ∧ B 2 = .raw (.int .u32 x) ∧ B 3 = .pp (zcl n m f g).cells 0 ∧ B 4 = .pp [.raw (.int .i64 p0), .raw (.int .i64 p1)] 0 ∧ B 9 = .pp (zaX T false).cells 0 ∧ B 11 = .pp (zaX U false).cells 0 ∧ B 13 = .pp [Zn.zAV F0 false, Zn.zAV F1 false, Zn.zAV F2 false, Zn.zAV F3 false, Zn.zAV F4 false] 0 ∧ ∃ i : Nat, B 15 = .raw (.int .i64 i) ∧ i ≤ 5 ∧ n' = 5 - i) 5 ?_ ?_
    · exact ⟨hEs, q2, q3, q4, q9, q11, q13, 0, q15, by omega, by omega⟩
    clear hEs q2 q3 q4 q9 q11 q13 q15
    rintro n' B ρ ⟨hE, a2, a3, a4, a9, a11, a13, i, a15, hi, rfl⟩ I1 hI1
    have hi5 : i = 5 ∨ i = 0 ∨ i = 1 ∨ i = 2 ∨ i = 3 ∨ i = 4 := by omega
    rcases hi5 with h | h | h | h | h | h
    focus
      have FF := fI @a15 @h; refine gxB ?_; clear FF
      exact hR1 _ _ ⟨hE, by simp [a2], by simp [a3], by simp [a4], by simp [a9], by simp [a11]⟩
    all_goals
      have FF := fI @a2 (fI @a9 (fI @a13 (fI @a15 (fI @h (fI Zn.zAV.eq_1 (fI @zX (fI @hk0 (fI @hk1 (fI @hk2 (fI @hk3 @hk4)))))))))); refine gxB ?_; clear FF
      refine hI1 (5 - (i + 1)) _ _ (by omega) ⟨hE, by simp [a2], by simp [a3], by simp [a4], by simp [a9], by simp [a11], by simp [a13], i + 1, by simp [h, IntKind.wrap, IntKind.bits, IntKind.signed], by omega, rfl⟩
  · clear hEs q2 q3 q4 q9 q11 q13 q15
    rintro B ρ ⟨hE, a2, a3, a4, a9, a11⟩
    unfold zh7 at h2 h3 h4
    cases hd3 : zas n p1 with
    | true =>
      rw [hd3] at h3 h4
      simp only [Bool.or_self, if_true, if_false] at h2 h3 h4
      have FF := fI @a2 (fI @a3 (fI @a4 (fI @a9 (fI @a11 (fI @zaB (fI @zw (fI @zX (fI @zau Zn.zAV.eq_1)))))))); exact gxA
    | false =>
      rw [hd3] at h3 h4
      simp only [Bool.or_self, if_false] at h2 h3 h4
      have FF := fI @a2 (fI @a3 (fI @a4 (fI @a9 (fI @a11 (fI @zaB (fI @zw (fI @zX (fI @zau Zn.zAV.eq_1)))))))); refine gxB ?_; clear FF
      refine zaC (fun B ρ => Ext σ ρ ∧ B 2 = .raw (.int .u32 x) ∧ B 4 = .pp [.raw (.int .i64 p0), .raw (.int .i64 p1)] 0 ∧ B 9 = .pp (zaX T false).cells 0 ∧ B 18 = Zn.zAV V false ∧ B 20 = Zn.zAV W false ∧ B 22 = .raw (.bool (zbl T p1))) ?_ ?_
      · intro R1 hR1
        refine zO (fun n' B ρ => Ext σ ρ ∧ B 2 = .raw (.int .u32 x) ∧ B 4 = .pp [.raw (.int .i64 p0), .raw (.int .i64 p1)] 0 ∧ B 9 = .pp (zaX T false).cells 0 ∧ B 18 = Zn.zAV V false ∧ B 20 = Zn.zAV W false ∧ ∃ i : Nat, B 23 = .raw (.int .i64 i) ∧ i ≤ T.path.length ∧ n' = T.path.length - i ∧ B 22 = .raw (.bool ((T.path.take i).any fun y => decide (p1 = y)))) T.path.length ?_ ?_
        · exact ⟨hE, by simp [a2], by simp [a4], by simp [a9], by simp [Zn.zAV], by simp [Zn.zAV], 0, by simp, by omega, by omega, by simp⟩
        clear a2 a3 a4 a9 a11 hE
        rintro n' B ρ ⟨hE, a2, a4, a9, a18, a20, i, a23, hi, rfl, a22⟩ I1 hI1
        by_cases hil : i < T.path.length
        · have hxx : T.path[i]? = some T.path[i] := List.getElem?_eq_getElem hil
          have w1 : IntKind.i64.wrap ((i : Int) + 1) = ((i + 1 : Nat) : Int) := by rw [zo (by omega) (by omega)]; omega
          have hnx : (T.path.take (i + 1)).any (fun y => decide (p1 = y)) = ((T.path.take i).any (fun y => decide (p1 = y)) || decide (T.path[i] = p1)) := by
            rw [List.take_add_one, hxx, List.any_append]
            simp [eq_comm]
          obtain ⟨y, hy⟩ : ∃ y, T.path[i] = y := ⟨_, rfl⟩
          rw [hy] at hxx hnx
          obtain ⟨ky, hky⟩ : ∃ q, decide (y = p1) = q := ⟨_, rfl⟩
          rw [hky] at hnx
          generalize (T.path.take i).any _ = bq at *
          cases bq with
          | true =>
            have FF := fI @a4 (fI @a9 (fI @a22 (fI @a23 (fI @hil (fI @hxx (fI @hy (fI @hky (fI @zX (fI zh.eq_1 (fI iAV.eq_1 @w1)))))))))); refine gxB ?_; clear FF
            exact hI1 (T.path.length - (i + 1)) _ _ (by omega) ⟨hE, by simp [a2], by simp [a4], by simp [a9], by simp [a18], by simp [a20], i + 1, by simp, by omega, rfl, by rw [hnx]; simp⟩
          | false =>
            have FF := fI @a4 (fI @a9 (fI @a22 (fI @a23 (fI @hil (fI @hxx (fI @hy (fI @hky (fI @zX (fI zh.eq_1 (fI iAV.eq_1 @w1)))))))))); refine gxB ?_; clear FF
            exact hI1 (T.path.length - (i + 1)) _ _ (by omega) ⟨hE, by simp [a2], by simp [a4], by simp [a9], by simp [a18], by simp [a20], i + 1, by simp, by omega, rfl, by rw [hnx]; simp⟩
        · have : i = T.path.length := by omega
          subst this
          rw [List.take_length] at a22
          have FF := fI @a9 (fI @a23 (fI @zX zh.eq_1)); refine gxB ?_; clear FF
          exact hR1 _ _ ⟨hE, by simp [a2], by simp [a4], by simp [a9], by simp [a18], by simp [a20], by simp [a22]; rfl⟩
      · clear a2 a3 a4 a9 a11 hE
        rintro B ρ ⟨hE, a2, a4, a9, a18, a20, a22⟩
        generalize zbl T p1 = bC at *
        cases k3 with
        | true => have FF := fI @a2 (fI @a4 (fI @a9 (fI @a18 (fI @a20 (fI @a22 (fI @zX (fI Zn.zAV.eq_1 (fI @hk3 @hkd)))))))); exact gxA
        | false => have FF := fI @a2 (fI @a4 (fI @a9 (fI @a18 (fI @a20 (fI @a22 (fI @zX (fI Zn.zAV.eq_1 (fI @hk3 @hkd)))))))); exact gxA
end Go.Proofs.YtpboabpapgimoaaGreat.Av
