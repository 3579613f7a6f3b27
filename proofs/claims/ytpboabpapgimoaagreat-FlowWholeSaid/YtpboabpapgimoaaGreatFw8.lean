/- Flows: FlowWhole. Part 8 of 14: AvN26, AvN27, AvN28, AvN29, AvN30, AvN15, AvN18, AvN19, AvN20, AvN21, AvN32, AvN23, AvN24, AvN16, AvN31, AvN33, AvL1, AvL2, AvL3, AvL4, AvF1, AvZ1, AvZ2, AvZ4, AvZ5, AvZ6, AvZ3, AvP3, AvL7, AvL8, AvL9, AvL5, AvL10, AvL11, AvL12, AvL13. -/
import Derived.Test.YtpboabpapgimoaaGreatFw6
import Derived.Test.YtpboabpapgimoaaGreatFw7
namespace Go.Proofs.YtpboabpapgimoaaGreat.Av
open Go
set_option linter.unusedSimpArgs false
set_option linter.unusedVariables false
set_option maxRecDepth 100000
set_option maxHeartbeats 4000000
set_option pp.maxSteps 600
def zcZ (f : Int) (p : Pt) : AV := .agg [.raw (.int .i64 f), .raw (.int .i64 p.dev), .raw (.int .i64 p.port)]
theorem ze0 (f : Int) (p : Pt) : (zcZ f p).cells = [.raw (.int .i64 f), .raw (.int .i64 p.dev), .raw (.int .i64 p.port)] := rfl
theorem zic (q : Pt) : (zag q).cells = [.raw (.int .i64 q.dev), .raw (.int .i64 q.port)] := rfl
theorem zoz (x y : Int) : setPart (AV.agg [.raw (.int .i64 0), .raw (.int .i64 0)]) 0 [.raw (.int .i64 x), .raw (.int .i64 y)] = zag ⟨x, y⟩ := rfl
theorem zmU (q : Pt) (x y : Int) : setPart (zag q) 0 [.raw (.int .i64 x), .raw (.int .i64 y)] = zag ⟨x, y⟩ := rfl
theorem z9 (n : Nw) (f : Fl) : AV.agg [zp n.t.ports f.p, zF n.t.links f.l, zz n.rules f.r] = zau n f := rfl
theorem zq4 (v w : Value) (off : Nat) : setPart (AV.raw v) off [AV.raw w] = .raw w := rfl
theorem zkG (N : Nw) (f : Fl) (d a : Int) (ie : Id) {σ : St} (hie : σ.m ie ≠ none) :
    ACalls Tryz.prog 47 [zau N f, .raw (.int .i64 d), .raw (.int .u32 a), .rp ie 0 0] σ fun r τ => ∃ i : Id, r = .fn (.func 78) [] [.rp i 0 0, .pp (zau N f).cells 0, .pp [.raw (.int .u32 a)] 0, .pp [.rp ie 0 0] 0] ∧ i.sz = 1 ∧ σ.m i = none ∧ τ.m i = some (.buf [.raw (.int .i64 d)]) ∧ Ext σ τ := by
  have ne : ∀ slot sz, ie ≠ ⟨slot, σ.nx slot, sz⟩ := fun slot sz e => hie (by rw [e]; exact zb _ _ _)
  refine zaL Tryz.func47 rfl (N := 10) rfl rfl (by simp) ?_
  repeat (refine ze ?_)
  refine zg ?_
  simp [-cellOK, zs]
  refine zai ⟨4, σ.nx 4, 3⟩ ?_
  refine zai ⟨6, σ.nx 6, 1⟩ ?_
  refine zai ⟨7, σ.nx 7, 1⟩ ?_
  generalize hτ : St.del _ _ = τ
  generalize hA : (fun t => zw _ _ _) = A
  have a4 : A 4 = .pp (zau N f).cells 0 := by rw [← hA, ← hτ]; simp [zw, St.new, St.del, zs]
  have a5 : A 5 = .rp ⟨5, σ.nx 5, 1⟩ 0 0 := by rw [← hA, ← hτ]; simp [zw, St.new, St.del, zs]
  have a6 : A 6 = .pp [.raw (.int .u32 a)] 0 := by rw [← hA, ← hτ]; simp [zw, St.new, St.del, zs]
  have a7 : A 7 = .pp [.rp ie 0 0] 0 := by rw [← hA, ← hτ]; simp [zw, St.new, St.del, zs, ne]
  have hm : τ.m ⟨5, σ.nx 5, 1⟩ = some (.buf [.raw (.int .i64 d)]) := by rw [← hτ]; simp [St.new, St.del]
  have hE : Ext σ τ := by
    rw [← hτ]
    refine ⟨fun i o h => ?_, fun s => ?_⟩
    · have q1 : i ≠ ⟨4, σ.nx 4, 3⟩ := fun e => by rw [e, zb] at h; cases h
      have q2 : i ≠ ⟨5, σ.nx 5, 1⟩ := fun e => by rw [e, zb] at h; cases h
      have q3 : i ≠ ⟨6, σ.nx 6, 1⟩ := fun e => by rw [e, zb] at h; cases h
      have q4 : i ≠ ⟨7, σ.nx 7, 1⟩ := fun e => by rw [e, zb] at h; cases h
      simp [St.del, St.new, q1, q2, q3, q4, h]
    · simp only [St.del, St.new]
      repeat' split
      all_goals omega
  clear hτ hA
  have FF := fI @a4 (fI @a5 (fI @a6 @a7)); refine gxC ?_; clear FF
  exact zT (x := .fn (.func 78) [] [.rp ⟨5, σ.nx 5, 1⟩ 0 0, .pp (zau N f).cells 0, .pp [.raw (.int .u32 a)] 0, .pp [.rp ie 0 0] 0]) (.inr rfl) (by simp) ⟨_, rfl, rfl, zb _ _ _, hm, hE⟩
def zp6 (N : Nw) (a : Int) (iat ie : Id) (Q : Int → List Int → St → Prop) (F : St → Prop) (d : Int) (p : List Int) (r : AV) (ρ : St) : Prop :=
  (r = .raw (.bool true) ∧ ρ.m iat = some (.buf [.raw (.int .i64 d)]) ∧ ρ.m ie = some (.buf [zcZ 4 ⟨0, 0⟩]) ∧ ((zao N d a).1 ≠ 4 → ∀ π, Ext ρ π → F (π.set ie (.buf [zcZ (zao N d a).1 (zao N d a).2]))) ∧
    ((zao N d a).1 = 4 → ∀ π, Ext ρ π → Q (zcX N (zao N d a).2) (p ++ [d]) (π.set iat (.buf [.raw (.int .i64 (zcX N (zao N d a).2))])))) ∨ (r = .raw (.bool false) ∧ F ρ)
theorem zny (N : Nw) (f : Fl) (a : Int) (iat ie : Id) (hN : NwOK N) (M : Nat) (Q : Int → List Int → St → Prop) (F : St → Prop) (b : Nat)
    (hlen : ∀ d p τ, Q d p τ → p.length ≤ M)
    (hQE : ∀ d p τ ρ, Q d p τ → Ext τ ρ → Q d p ρ)
    (hFE : ∀ τ ρ, F τ → Ext τ ρ → F ρ)
    (hat : ∀ d p τ, Q d p τ → τ.m iat = some (.buf [.raw (.int .i64 d)]))
    (hy : ∀ d p τ, Q d p τ → YK Tryz.prog b [.raw (.int .i64 d)] τ (zp6 N a iat ie Q F d p))
    {σ : St} {d0 : Int} (hQ : Q d0 [] σ) :
    ACalls Tryz.prog 78 (.fn (.yield b) [] [] :: [.rp iat 0 0, .pp (zau N f).cells 0, .pp [.raw (.int .u32 a)] 0, .pp [.rp ie 0 0] 0]) σ fun _ τ => F τ := by
  obtain ⟨hr0, hp0, hl0, hu0, hi0⟩ := hN
  refine zaL Tryz.func78 rfl (N := 36) rfl rfl (by simp) ?_
  have FF := @zs; refine gxB ?_; clear FF
  refine zU (fun n A τ => A 0 = .fn (.yield b) [] [] ∧ A 1 = .rp iat 0 0 ∧ A 2 = .pp (zau N f).cells 0 ∧ A 3 = .pp [.raw (.int .u32 a)] 0 ∧ A 4 = .pp [.rp ie 0 0] 0 ∧ ∃ d p, Q d p τ ∧ n = M + 1 - p.length) (M + 1) ?_ ?_
  · exact ⟨by simp, by simp, by simp [zs], by simp, by simp, d0, [], hQ, by simp⟩
  rintro n A τ ⟨a0, a1, a2, a3, a4, d, p, hq, rfl⟩ I1 hI1
  have ht := hat d p τ hq
  have hl := hlen d p τ hq
  (try ((first | with_reducible refine zo ?_ | with_reducible refine zt ?_ | with_reducible refine zu ?_); simp [-cellOK, a0, a1, a2, a3, a4, ht])); repeat' (first | ((first | refine zf ?_ | refine zg ?_ | refine dN (by decide +kernel) ?_ | refine dC (by decide +kernel) ?_ | (refine za ?_ ?_ <;> (intro hg; simp only [hg])) | fail) <;> simp [-cellOK, a0, a1, a2, a3, a4, ht]) | refine ze ?_ | refine zd ?_ | (refine zA ?_; simp only [zB]; try simp) | (refine zm (by simp) ?_; simp) | (refine zan (by simp) (by simp [noIds]) (by repeat (first | assumption | exact Ext.refl _ | refine zS ?_ | refine Ext.setF ?_ (by first | assumption | (simp [zk, St.set, zb]; done) | exact zN (by assumption)))) ?_; simp [-cellOK, a0, a1, a2, a3, a4, ht, nsE]) | (refine zc (fun hc => ?_) (fun hc => ?_) <;> try simp at hc) | fail)
  refine YK.mono ?_ (hy d p τ hq)
  rintro r ρ (⟨rfl, hρ, hρe, h1, h2⟩ | ⟨rfl, hF⟩)
  · have hs := znt N f d a hl0 hu0
    have hn := ziY N.t f (zao N d a).2 hl0
    have hnd : ((zcb N.t (zao N d a).2).getD ⟨0, 0⟩).dev = zcX N (zao N d a).2 := rfl
    by_cases q : (zao N d a).1 = 4
    · have h2 := h2 q
      rw [q] at hs
      generalize (zao N d a).2 = P at *
      obtain ⟨R, hR⟩ : ∃ R, (zcb N.t P).getD ⟨0, 0⟩ = R := ⟨_, rfl⟩
      rw [hR] at hn hnd
      have htf : AV.agg [zp N.t.ports f.p, zF N.t.links f.l] = zbZ N.t f := rfl
      have FF := fI @a0 (fI @a1 (fI @a2 (fI @a3 (fI @a4 (fI @hρ (fI @zs (fI @z9 (fI @zic (fI @zoz (fI @zmU (fI @zcA (fI @zjz (fI @htf (fI @zq4 @hnd)))))))))))))); refine gxB ?_; clear FF
      refine hI1 (M + 1 - (p ++ [d]).length) _ _ (by simp; omega) ⟨by simp [a0], by simp [a1], by simp [a2, zs], by simp [a3], by simp [a4], _, p ++ [d], h2 _ ?_, rfl⟩
      exact exA
    · have h1 := h1 q
      generalize (zao N d a).1 = s at *
      generalize (zao N d a).2 = P at *
      have hndf : ∀ z : Int, AV.agg [.raw (.int .i64 z), .raw (.int .i64 P.dev), .raw (.int .i64 P.port)] = zcZ z P := fun _ => rfl
      have hnp : ∀ (z : Int) (q : Pt) (z' : Int) (q' : Pt), setPart (zcZ z q) 0 [.raw (.int .i64 z'), .raw (.int .i64 q'.dev), .raw (.int .i64 q'.port)] = zcZ z' q' := fun _ _ _ _ => rfl
      have FF := fI @a0 (fI @a1 (fI @a2 (fI @a3 (fI @a4 (fI @hρ (fI @hρe (fI @zs (fI @z9 (fI @zic (fI @zoz (fI @zmU (fI @zjz (fI @ze0 (fI @hndf (fI @hnp @q))))))))))))))); refine gxC ?_; clear FF
      exact zT (x := .tup []) (.inr rfl) (by simp) (h1 _ exA)
  · have FF := fI @a0 (fI @a1 (fI @a2 (fI @a3 @a4))); refine gxC ?_; clear FF
    exact zT (x := .tup []) (.inl rfl) (by simp) hF
end Go.Proofs.YtpboabpapgimoaaGreat.Av
namespace Go.Proofs.YtpboabpapgimoaaGreat.Av
open Go
set_option linter.unusedSimpArgs false
set_option linter.unusedVariables false
set_option maxRecDepth 100000
set_option maxHeartbeats 4000000
set_option pp.maxSteps 600
theorem OwnL.ne_sz {σ0 τ : St} {n : Nat} {v : AV} {es : List AV} (h : OwnL σ0 τ n v es) {i : Id} (hi : i.sz ≠ n) : ∀ k l, v ≠ .rs i k l := by
  rintro k l rfl
  rcases h with ⟨_, e⟩ | ⟨j, e, hj, _, _⟩
  · cases e
  · injection e with e; subst e; exact hi hj
theorem OwnL.set {σ0 τ : St} {n : Nat} {v : AV} {es : List AV} (h : OwnL σ0 τ n v es) {i : Id} {o : Ob} (hi : ∀ k l, v ≠ .rs i k l) : OwnL σ0 (τ.set i o) n v es := by
  rcases h with h | ⟨j, e, hj, hm, hn⟩
  · exact .inl h
  · exact .inr ⟨j, e, hj, by rw [zy (fun e2 => hi 0 es.length (by rw [e, e2]))]; exact hm, hn⟩
theorem OwnL.del {σ0 τ : St} {n : Nat} {v : AV} {es : List AV} (h : OwnL σ0 τ n v es) {i : Id} (hi : ∀ k l, v ≠ .rs i k l) : OwnL σ0 (τ.del i) n v es := by
  rcases h with h | ⟨j, e, hj, hm, hn⟩
  · exact .inl h
  · exact .inr ⟨j, e, hj, by rw [zL (fun e2 => hi 0 es.length (by rw [e, e2]))]; exact hm, hn⟩
theorem zi5 {P : Program} {A : zD} {σ σ0 : St} {fn : Func} {e : Exit} {n : Nat} {v : AV} {es : List AV} {u b c d : Value} (he : e = .normal ∨ e = .ret) (h : zaH P σ.m A fn.results = some (.tup [.agg [v, .raw b, .raw c, .raw d], .raw u])) (hO : OwnL σ0 σ n v es) (hE : Ext σ0 σ) :
    RetP P fn σ0 (.tup [.agg [.sl n es false, .raw b, .raw c, .raw d], .raw u]) e A σ := by
  refine zei he hE h ?_
  rcases hO with ⟨rfl, rfl⟩ | ⟨j, rfl, hj, hmj, hn⟩
  · exact weaker_tup (ziW za7)
  · have e1 : zZ σ0.m σ.m (.tup [.agg [.rs j 0 es.length, .raw b, .raw c, .raw d], .raw u]) = .tup [.agg [.sl n es false, .raw b, .raw c, .raw d], .raw u] := by
      simp only [zZ, List.map_cons, List.map_nil]
      rw [zcj hn hmj (by simp), hj]; simp [zw]
    rw [e1]; exact Weaker.refl _
structure TrS (σ ρ : St) (i6 i8 : Id) (v : AV) (p : List Int) : Prop where
  ext : Ext σ ρ
  m6 : ρ.m i6 = some (.buf [.agg [.sl 0 [] true, .raw (.int .i64 0), .raw (.int .i64 0), .raw (.int .i64 0)]])
  m8 : ρ.m i8 = some (.buf [.agg [v, .raw (.int .i64 0), .raw (.int .i64 0), .raw (.int .i64 0)]])
  own : OwnL σ ρ 1 v (p.map iAV)
theorem TrS.up {σ ρ π : St} {i6 i8 : Id} {v : AV} {p : List Int} (h : TrS σ ρ i6 i8 v p) (k : Ext ρ π) : TrS σ π i6 i8 v p := ⟨h.ext.trans k, k.m _ _ h.m6, k.m _ _ h.m8, h.own.ext k⟩
theorem TrS.put {σ ρ : St} {i6 i8 i : Id} {v : AV} {p : List Int} {o : Ob} (h : TrS σ ρ i6 i8 v p) (h6 : i6 ≠ i) (h8 : i8 ≠ i) (hv : ∀ k l, v ≠ .rs i k l) (h0 : σ.m i = none) : TrS σ (ρ.set i o) i6 i8 v p :=
  ⟨Ext.setF h.ext h0, by rw [zy h6]; exact h.m6, by rw [zy h8]; exact h.m8, h.own.set hv⟩
theorem TrS.del {σ ρ : St} {i6 i8 i : Id} {v : AV} {p : List Int} (h : TrS σ ρ i6 i8 v p) (h6 : i6 ≠ i) (h8 : i8 ≠ i) (hv : ∀ k l, v ≠ .rs i k l) (h0 : σ.m i = none) : TrS σ (ρ.del i) i6 i8 v p :=
  ⟨⟨fun j o hj => by rw [zL (fun e => by rw [e, h0] at hj; cases hj)]; exact h.ext.m j o hj, h.ext.nx⟩, by rw [zL h6]; exact h.m6, by rw [zL h8]; exact h.m8, h.own.del hv⟩
def zQ (n : Nw) (d a : Int) : Tk × Int := if d < 0 ∨ n.t.ports.length ≤ d then (⟨[], 0, ⟨0, 0⟩⟩, 91) else (zbk n d a, 0)
theorem zhJ (N : Nw) (f : Fl) (d a : Int) (hN : NwOK N) : PCalls Tryz.prog 22 [zau N f, .raw (.int .i64 d), .raw (.int .u32 a)] (.tup [zdL (zQ N d a).1 false, .raw (.int .i64 (zQ N d a).2)]) := by
  have hip : ∀ K t b, (zdL t b).ids K := fun K t b => by simp [zdL]
  refine zE Tryz.func22 rfl (N := 47) rfl rfl (by simp) (by simp [noIds, hip]) fun σ => ?_
  have hl := hN.links
  have f3 : σ.m ⟨3, σ.nx 3, 3⟩ = none := zb _ _ _
  have f6 : σ.m ⟨6, σ.nx 6, 4⟩ = none := zb _ _ _
  have f8 : σ.m ⟨8, σ.nx 8, 4⟩ = none := zb _ _ _
  have f9 : σ.m ⟨9, σ.nx 9, 3⟩ = none := zb _ _ _
  have hndf : ∀ x y z : Int, AV.agg [.raw (.int .i64 x), .raw (.int .i64 y), .raw (.int .i64 z)] = zcZ x ⟨y, z⟩ := fun _ _ _ => rfl
  have hndp : ∀ (x y z : Int) (q : Int) (p : Pt), setPart (zcZ q p) 0 [.raw (.int .i64 x), .raw (.int .i64 y), .raw (.int .i64 z)] = zcZ x ⟨y, z⟩ := fun _ _ _ _ _ => rfl
  by_cases q : d < 0 ∨ N.t.ports.length ≤ d
  · unfold zQ
    rw [if_pos q]
    have hw : Weaker (.tup [.agg [.sl 0 [] true, .raw (.int .i64 0), .raw (.int .i64 0), .raw (.int .i64 0)], .raw (.int .i64 91)]) (.tup [zdL ⟨[], 0, ⟨0, 0⟩⟩ false, .raw (.int .i64 91)]) := weaker_tup (ziW za7)
    have fin : ∀ {A : zD} {τ : St}, Ext σ τ → zaH Tryz.prog τ.m A Tryz.f22.results = some (.tup [.agg [.sl 0 [] true, .raw (.int .i64 0), .raw (.int .i64 0), .raw (.int .i64 0)], .raw (.int .i64 91)]) → RetP Tryz.prog Tryz.f22 σ (.tup [zdL ⟨[], 0, ⟨0, 0⟩⟩ false, .raw (.int .i64 91)]) .ret A τ := fun hE h =>
      zei (.inr rfl) hE h (by simpa [zZ, zw] using hw)
    by_cases q1 : d < 0
    · have FF := fI @zs @q1; refine gxC ?_; clear FF
      exact fin exA (by simp [zR, z0, zk])
    · have q2 : (N.t.ports.length : Int) ≤ d := by omega
      have FF := fI @zs (fI @q1 (fI @q2 zp.eq_1)); refine gxC ?_; clear FF
      exact fin exA (by simp [zR, z0, zk])
  have q1 : ¬ d < 0 := fun h => q (.inl h)
  have q2 : ¬ (N.t.ports.length : Int) ≤ d := fun h => q (.inr h)
  have hres : zQ N d a = (zbk N d a, 0) := by unfold zQ; rw [if_neg q]
  rw [hres]
  have hp : ∀ m, zaK Tryz.prog m 22 (zp N.t.ports f.p) = some (.raw (.int .i64 N.t.ports.length)) := fun m => by simp [zp]
  (try ((first | with_reducible refine zo ?_ | with_reducible refine zt ?_ | with_reducible refine zu ?_); simp [-cellOK, zs, z9, q1, q2, -zaK, hp, ze0, hndf, hndp, zR, z0, zk])); repeat' (first | ((first | refine zf ?_ | refine zg ?_ | refine dN (by decide +kernel) ?_ | refine dC (by decide +kernel) ?_ | (refine za ?_ ?_ <;> (intro hg; simp only [hg])) | fail) <;> simp [-cellOK, zs, z9, q1, q2, -zaK, hp, ze0, hndf, hndp, zR, z0, zk]) | refine ze ?_ | refine zd ?_ | (refine zA ?_; simp only [zB]; try simp) | (refine zm (by simp) ?_; simp) | (refine zan (by simp) (by simp [noIds]) (by repeat (first | assumption | exact Ext.refl _ | refine zS ?_ | refine Ext.setF ?_ (by first | assumption | (simp [zk, St.set, zb]; done) | exact zN (by assumption)))) ?_; simp [-cellOK, zs, z9, q1, q2, -zaK, hp, ze0, hndf, hndp, zR, z0, zk, nsE]) | (refine zc (fun hc => ?_) (fun hc => ?_) <;> try simp at hc) | fail)
  generalize hσ1 : St.set _ _ _ = σ1
  have m6 : σ1.m ⟨6, σ.nx 6, 4⟩ = some (.buf [.agg [.sl 0 [] true, .raw (.int .i64 0), .raw (.int .i64 0), .raw (.int .i64 0)]]) := by rw [← hσ1]; simp [zR, z0, zk]
  have m8 : σ1.m ⟨8, σ.nx 8, 4⟩ = some (.buf [.agg [.sl 0 [] true, .raw (.int .i64 0), .raw (.int .i64 0), .raw (.int .i64 0)]]) := by rw [← hσ1]; simp [zR, z0, zk]
  have m9 : σ1.m ⟨9, σ.nx 9, 3⟩ = some (.buf [zcZ 4 ⟨0, 0⟩]) := by rw [← hσ1]; simp [zR, z0, zk]
  have hE1 : Ext σ σ1 := by rw [← hσ1]; exact exA
  clear hσ1
  refine (zkG N f d a ⟨9, σ.nx 9, 3⟩ (by rw [m9]; simp)).mono ?_
  rintro _ τ ⟨iat, rfl, his, hi0, him, hEτ⟩
  have hEs : Ext σ τ := hE1.trans hEτ
  have hiat0 : σ.m iat = none := by
    cases h : σ.m iat with
    | none => rfl
    | some o => rw [hE1.m _ _ h] at hi0; cases hi0
  refine zpp ?_
  generalize hA : put 47 _ 27 _ = A
  have a6 : A 6 = .rp ⟨6, σ.nx 6, 4⟩ 0 0 := by rw [← hA]; simp
  have a8 : A 8 = .rp ⟨8, σ.nx 8, 4⟩ 0 0 := by rw [← hA]; simp
  have a9 : A 9 = .rp ⟨9, σ.nx 9, 3⟩ 0 0 := by rw [← hA]; simp
  have a27 : A 27 = .fn (.func 78) [] [.rp iat 0 0, .pp (zau N f).cells 0, .pp [.raw (.int .u32 a)] 0, .pp [.rp ⟨9, σ.nx 9, 3⟩ 0 0] 0] := by rw [← hA]; simp [zs]
  clear hA
  obtain ⟨i6, hi6⟩ : ∃ i, (⟨6, σ.nx 6, 4⟩ : Id) = i := ⟨_, rfl⟩
  obtain ⟨i8, hi8⟩ : ∃ i, (⟨8, σ.nx 8, 4⟩ : Id) = i := ⟨_, rfl⟩
  obtain ⟨ie, hie⟩ : ∃ i, (⟨9, σ.nx 9, 3⟩ : Id) = i := ⟨_, rfl⟩
  have s6 : i6.sz = 4 := by rw [← hi6]
  have s8 : i8.sz = 4 := by rw [← hi8]
  have se : ie.sz = 3 := by rw [← hie]
  have d68 : i6 ≠ i8 := by rw [← hi6, ← hi8]; simp
  rw [hi6] at m6 f6 a6
  rw [hi8] at m8 f8 a8
  rw [hie] at m9 f9 a9 a27
  have nsz : ∀ {i j : Id}, i.sz ≠ j.sz → i ≠ j := fun h e => h (by rw [e])
  refine za8 (fun B ρ => B 6 = .rp i6 0 0 ∧ B 8 = .rp i8 0 0 ∧ B 9 = .rp ie 0 0 ∧ ∃ v, TrS σ ρ i6 i8 v (zbk N d a).path ∧ ρ.m ie = some (.buf [zcZ (zbk N d a).out (zbk N d a).last])) ?_ ?_
  · intro R1 hR1
    refine zfk a27 fun b lo L hlo hL => ?_
    have hLf : τ.m L = none := by rw [hL]; exact zb _ _ _
    have hL0 : σ.m L = none := by rw [hL]; exact zN hEs
    have sL : L.sz = 0 := by rw [hL]
    have hσL : (τ.new 0 0 (lo .ready none)).m L = some (lo .ready none) := by rw [hL]; simp
    obtain ⟨Q, hQ⟩ : ∃ Q : Int → List Int → St → Prop, ∀ d' p ρ, Q d' p ρ ↔ ∃ v, Way N a d d' p ∧ TrS σ ρ i6 i8 v p ∧ (∀ k l, v ≠ .rs iat k l) ∧ ρ.m L = some (lo .ready none) ∧ ρ.m ie = some (.buf [zcZ 4 ⟨0, 0⟩]) ∧ ρ.m iat = some (.buf [.raw (.int .i64 d')]) := ⟨_, fun _ _ _ => Iff.rfl⟩
    obtain ⟨F, hF⟩ : ∃ F : St → Prop, ∀ ρ, F ρ ↔ ∃ st pd v, ρ.m L = some (lo st pd) ∧ st ≠ .busy ∧ (pd = none ∨ pd = some (.exit 0)) ∧ TrS σ ρ i6 i8 v (zbk N d a).path ∧ ρ.m ie = some (.buf [zcZ (zbk N d a).out (zbk N d a).last]) := ⟨_, fun _ => Iff.rfl⟩
    refine (zny N f a iat ie hN (1 + 2 * N.t.links.length) Q F b ?_ ?_ ?_ ?_ ?_ (d0 := d) ?_).mono ?_
    · intro d' p ρ h; obtain ⟨v, hw, _⟩ := (hQ _ _ _).1 h; exact hw.len
    · intro d' p ρ π h k
      obtain ⟨v, hw, hS, hv, h1, h2, h3⟩ := (hQ _ _ _).1 h
      exact (hQ _ _ _).2 ⟨v, hw, hS.up k, hv, k.m _ _ h1, k.m _ _ h2, k.m _ _ h3⟩
    · intro ρ π h k
      obtain ⟨st, pd, v, h1, h2, h3, hS, h4⟩ := (hF _).1 h
      exact (hF _).2 ⟨st, pd, v, k.m _ _ h1, h2, h3, hS.up k, k.m _ _ h4⟩
    · intro d' p ρ h; obtain ⟨v, hw, hS, hv, h1, h2, h3⟩ := (hQ _ _ _).1 h; exact h3
    · intro d' p ρ h
      obtain ⟨v, hw, hS, hv, h1, h2, h3⟩ := (hQ _ _ _).1 h
      have hpl := hw.len
      have nL6 : i6 ≠ L := nsz (by rw [s6, sL]; decide)
      have nL8 : i8 ≠ L := nsz (by rw [s8, sL]; decide)
      have nLe : ie ≠ L := nsz (by rw [se, sL]; decide)
      have nLa : iat ≠ L := nsz (by rw [his, sL]; decide)
      have ne8 : ie ≠ i8 := nsz (by rw [se, s8]; decide)
      have na8 : iat ≠ i8 := nsz (by rw [his, s8]; decide)
      have nae : iat ≠ ie := nsz (by rw [his, se]; decide)
      refine YK.of h1 hlo (by simp) ?_
      show AWP _ _ _ _ _ (put 47 A 28 (.raw (.int .i64 d'))) ρ
      refine zpp ?_
      refine ⟨h1, ?_⟩
      have g1 : (ρ.set L (lo .busy none)).m L = some (lo .busy none) := by simp [h1]
      have g2 : (ρ.set L (lo .busy none)).m ie = some (.buf [zcZ 4 ⟨0, 0⟩]) := by rw [zy nLe]; exact h2
      have g3 : (ρ.set L (lo .busy none)).m iat = some (.buf [.raw (.int .i64 d')]) := by rw [zy nLa]; exact h3
      have gS : TrS σ (ρ.set L (lo .busy none)) i6 i8 v p := hS.put nL6 nL8 (hS.own.ne_sz (by rw [sL]; decide)) hL0
      generalize ρ.set L (lo .busy none) = ρ2 at g1 g2 g3 gS ⊢
      clear h1 h2 h3 hS
      obtain ⟨hE2, q6, q8, hO⟩ := gS
      have hc : PCalls Tryz.prog 39 [.sl 1 (p.map iAV) false, .raw (.int .i64 d')] (.raw (.bool (p.any fun x => decide (d' = x)))) := zfE p false d' (by omega)
      obtain ⟨b0, hb0⟩ : ∃ b, (p.any fun x => decide (d' = x)) = b := ⟨_, rfl⟩
      have hb : (d' ∈ p) ↔ b0 = true := by rw [← hb0, List.any_eq_true]; constructor
                                           · exact fun h => ⟨d', h, by simp⟩
                                           · rintro ⟨x, hx, e⟩; simp only [decide_eq_true_eq] at e; exact e ▸ hx
      rw [hb0] at hc
      have FF := fI @a8 @q8; refine gxB ?_; clear FF
      refine hc.useP rfl hO.toP ?_
      (try ((first | with_reducible refine zo ?_ | with_reducible refine zt ?_ | with_reducible refine zu ?_); simp [-cellOK, a8, q8, -zC])); repeat' (first | ((first | refine zf ?_ | refine zg ?_ | refine dN (by decide +kernel) ?_ | refine dC (by decide +kernel) ?_ | (refine za ?_ ?_ <;> (intro hg; simp only [hg])) | fail) <;> simp [-cellOK, a8, q8, -zC]) | refine ze ?_ | refine zd ?_ | (refine zA ?_; simp only [zB]; try simp) | (refine zm (by simp) ?_; simp) | (refine zan (by simp) (by simp [noIds]) (by repeat (first | assumption | exact Ext.refl _ | refine zS ?_ | refine Ext.setF ?_ (by first | assumption | (simp [zk, St.set, zb]; done) | exact zN (by assumption)))) ?_; simp [-cellOK, a8, q8, -zC, nsE]) | (refine zc (fun hc => ?_) (fun hc => ?_) <;> try simp at hc) | fail)
      refine za2 znl (σ0 := σ) (hO.ext exA) exA (ys := [iAV d']) (by simp [zR, zk, iAV]) (.inr rfl) (by simp [iAV]) (by simp; omega) ?_
      intro v' τ' hO' hE' hk hnx
      obtain ⟨k6, _⟩ := hk i6 _ (zat _ _ q6) (hO.ne_sz (by rw [s6]; decide))
      obtain ⟨k8, _⟩ := hk i8 _ (zat _ _ q8) (hO.ne_sz (by rw [s8]; decide))
      obtain ⟨ke, _⟩ := hk ie _ (zat _ _ g2) (hO.ne_sz (by rw [se]; decide))
      obtain ⟨kL, _⟩ := hk L _ (zat _ _ g1) (hO.ne_sz (by rw [sL]; decide))
      obtain ⟨ka, hva⟩ := hk iat _ (zat _ _ g3) hv
      clear hk
      have hO2 : OwnL σ τ' 1 v' ((p ++ [d']).map iAV) := by rw [List.map_append]; exact hO'
      have hS3 : ∀ o, TrS σ ((τ'.set i8 (.buf [.agg [v', .raw (.int .i64 0), .raw (.int .i64 0), .raw (.int .i64 0)]])).set L o) i6 i8 v' (p ++ [d']) := fun o =>
        (show TrS σ (τ'.set i8 (.buf [.agg [v', .raw (.int .i64 0), .raw (.int .i64 0), .raw (.int .i64 0)]])) i6 i8 v' (p ++ [d']) from
          ⟨Ext.setF hE' f8, by rw [zy d68]; exact k6, by simp [k8], hO2.set (hO2.ne_sz (by rw [s8]; decide))⟩).put nL6 nL8 (hO2.ne_sz (by rw [sL]; decide)) hL0
      have e1 : ∀ o, ((τ'.set i8 (.buf [.agg [v', .raw (.int .i64 0), .raw (.int .i64 0), .raw (.int .i64 0)]])).set L o).m L = some o := fun o => by simp [zy nL8.symm, kL]
      have e2 : ∀ o, ((τ'.set i8 (.buf [.agg [v', .raw (.int .i64 0), .raw (.int .i64 0), .raw (.int .i64 0)]])).set L o).m ie = some (.buf [zcZ 4 ⟨0, 0⟩]) := fun o => by rw [zy nLe, zy ne8]; exact ke
      have e3 : ∀ o, ((τ'.set i8 (.buf [.agg [v', .raw (.int .i64 0), .raw (.int .i64 0), .raw (.int .i64 0)]])).set L o).m iat = some (.buf [.raw (.int .i64 d')]) := fun o => by rw [zy nLa, zy na8]; exact ka
      have e0 : (τ'.set i8 (.buf [.agg [v', .raw (.int .i64 0), .raw (.int .i64 0), .raw (.int .i64 0)]])).m L = some (lo .busy none) := by rw [zy nL8.symm]; exact kL
      cases b0 with
      | true =>
        have hd := hb.2 rfl
        have hR := hw.again hd
        have FF := fI @a8 (fI @k8 (fI @hO'.cells @hO'.cellOK)); refine gxB ?_; clear FF
        refine ⟨e0, .inr ⟨rfl, (hF _).2 ⟨.done, some (.exit 0), v', e1 _, by simp, .inr rfl, ?_, ?_⟩⟩⟩
        · rw [hR]; exact hS3 _
        · rw [hR]; exact e2 _
      | false =>
        have hd : d' ∉ p := fun h => by have := hb.1 h; cases this
        have FF := fI @a8 (fI @k8 (fI @hO'.cells @hO'.cellOK)); refine gxB ?_; clear FF
        refine ⟨e0, .inl ⟨rfl, e3 _, e2 _, fun hs π hπ => ?_, fun hs π hπ => ?_⟩⟩
        · have hR := hw.fin hd hs
          have hS4 := (hS3 (lo .ready none)).up hπ
          refine (hF _).2 ⟨.ready, none, v', ?_, by simp, .inl rfl, ?_, ?_⟩
          · rw [zy nLe.symm]; exact hπ.m _ _ (e1 _)
          · rw [hR]
            exact hS4.put (nsz (by rw [s6, se]; decide)) ne8.symm (hO2.ne_sz (by rw [se]; decide)) f9
          · rw [hR]; simp [hπ.m _ _ (e2 (lo .ready none))]
        · have hw' := hw.on hd hs
          have hS4 := (hS3 (lo .ready none)).up hπ
          refine (hQ _ _ _).2 ⟨v', hw', hS4.put (nsz (by rw [s6, his]; decide)) na8.symm hva hiat0, hva, ?_, ?_, ?_⟩
          · rw [zy nLa.symm]; exact hπ.m _ _ (e1 _)
          · rw [zy nae.symm]; exact hπ.m _ _ (e2 _)
          · simp [hπ.m _ _ (e3 (lo .ready none))]
    · exact (hQ _ _ _).2 ⟨.sl 0 [] true, Way.start N a d, ⟨hEs.trans (Ext.new _ _ _ _), zat _ _ (hEτ.m _ _ m6), zat _ _ (hEτ.m _ _ m8), .inl ⟨rfl, rfl⟩⟩, by simp, hσL, zat _ _ (hEτ.m _ _ m9), zat _ _ him⟩
    · intro _ ρ h
      obtain ⟨st, pd, v, h1, h2, h3, hS, h4⟩ := (hF _).1 h
      have hfin : R1 A (ρ.del L) := hR1 _ _ ⟨a6, a8, a9, v, hS.del (nsz (by rw [s6, sL]; decide)) (nsz (by rw [s8, sL]; decide)) (hS.own.ne_sz (by rw [sL]; decide)) hL0, by rw [zL (nsz (by rw [se, sL]; decide))]; exact h4⟩
      refine ⟨st, pd, h1, h2, fun _ => hfin, fun c hc => ?_⟩
      rcases h3 with h3 | h3
      · rw [h3] at hc; cases hc
      · rw [h3] at hc
        simp only [Option.some.injEq] at hc
        subst hc
        refine zfX ?_
        simpa using hfin
  · rintro B ρ ⟨a6, a8, a9, v, ⟨hE, h6, h8, hO⟩, h9⟩
    generalize zbk N d a = R at h9 hO ⊢
    refine ze ?_
    refine zai ie ?_
    have n6e : i6 ≠ ie := nsz (by rw [s6, se]; decide)
    have n8e : i8 ≠ ie := nsz (by rw [s8, se]; decide)
    obtain ⟨C, hC⟩ : ∃ C, (fun t => zw (ρ.del ie).m ρ.m (B t)) = C := ⟨_, rfl⟩
    rw [hC]
    have c6 : C 6 = .rp i6 0 0 := by rw [← hC]; show zw _ _ (B 6) = _; rw [a6]; exact zdv n6e
    have c8 : C 8 = .rp i8 0 0 := by rw [← hC]; show zw _ _ (B 8) = _; rw [a8]; exact zdv n8e
    have c9 : C 9 = .pp (zcZ R.out R.last).cells 0 := by rw [← hC]; show zw _ _ (B 9) = _; rw [a9]; exact zcU (by simp) h9 rfl
    have hE' : Ext σ (ρ.del ie) := ⟨fun j o hj => by rw [zL (fun e => by rw [e, f9] at hj; cases hj)]; exact hE.m j o hj, hE.nx⟩
    have h6' := (zL (σ := ρ) n6e).trans h6
    have h8' := (zL (σ := ρ) n8e).trans h8
    have hO' : OwnL σ (ρ.del ie) 1 v (R.path.map iAV) := hO.del (hO.ne_sz (by rw [se]; decide))
    generalize ρ.del ie = ρ' at hE' h6' h8' hO' ⊢
    clear hC a6 a8 a9 h6 h8 h9 hO hE
    have hv1 := hO'.cells
    have hv2 := hO'.cellOK
    have hvp : ∀ x y z : Value, setPart (AV.agg [v, .raw x, .raw y, .raw z]) 2 (zag R.last).cells = .agg [v, .raw x, .raw (.int .i64 R.last.dev), .raw (.int .i64 R.last.port)] := fun _ _ _ => rfl
    refine zok [0, 1, 2, 3, 4, 6] 5 7 (lsO [41, 43]) zdw (by decide +kernel) ?_
    rw [List.map_cons, List.map_cons, List.map_cons, List.map_cons, List.map_cons, List.map_cons, List.map_nil]
    dsimp only [mkD, List.getElem?_cons_zero, List.getElem?_cons_succ, zcy, Option.map_none, Option.map_some]
    have FF := fI @c6 (fI @c8 (fI @c9 (fI @ze0 (fI @zjz (fI @zic @h8'))))); refine gxB ?_; clear FF
    have hvs : ∀ {i : Id}, i.sz = 4 → ∀ k l, v ≠ .rs i k l := fun h => hO'.ne_sz (by rw [h]; decide)
    have hd86 : i8 ≠ i6 := d68.symm
    have hv3 : ∀ w x y z : Value, [v, AV.raw x, AV.raw y, AV.raw z].length = 4 := fun _ _ _ _ => rfl
    have hcok : ∀ x y z : Int, zae [v, AV.raw (.int .i64 x), AV.raw (.int .i64 y), AV.raw (.int .i64 z)] = true := fun x y z => by simp [-cellOK, hv2]
    refine ⟨?_, ?_⟩
    · have FF := fI @c6 (fI @c8 (fI @h6' (fI @h8' (fI @hv1 (fI @hv2 (fI @z0 (fI @d68 @hd86))))))); refine gxC ?_; clear FF
      refine zi5 (v := v) (.inr rfl) (by simp [z0, h6', h8', d68, hd86, c6, c8]) (((hO'.set (hvs s8)).set (hvs s8)).set (hvs s6)) ?_
      exact Ext.setF (Ext.setF (Ext.setF hE' f8) f8) f6
    · have FF := fI @c6 (fI @c8 (fI @h6' (fI @h8' (fI @hv1 (fI @hv2 (fI @z0 (fI @d68 @hd86))))))); refine gxC ?_; clear FF
      refine zi5 (v := v) (.inr rfl) (by simp [z0, h6', h8', d68, hd86, c6, c8]) (((hO'.set (hvs s8)).set (hvs s8)).set (hvs s6)) ?_
      exact Ext.setF (Ext.setF (Ext.setF hE' f8) f8) f6
end Go.Proofs.YtpboabpapgimoaaGreat.Av
namespace Go.Proofs.YtpboabpapgimoaaGreat.Av
open Go
set_option linter.unusedSimpArgs false
set_option linter.unusedVariables false
set_option maxRecDepth 100000
set_option maxHeartbeats 4000000
set_option pp.maxSteps 600
theorem zbS (t : Tk) (f : Bool) : (zdL t f).cells = [zp t.path f, .raw (.int .i64 t.out), .raw (.int .i64 t.last.dev), .raw (.int .i64 t.last.port)] := rfl
theorem zdT (t : Tk) (f : Bool) : AV.agg [zp t.path f, .raw (.int .i64 t.out), .raw (.int .i64 t.last.dev), .raw (.int .i64 t.last.port)] = zdL t f := rfl
theorem zp7 (u : Tk) (g : Bool) : setPart (AV.agg [.sl 0 [] true, .raw (.int .i64 0), .raw (.int .i64 0), .raw (.int .i64 0)]) 0 [zp u.path g, .raw (.int .i64 u.out), .raw (.int .i64 u.last.dev), .raw (.int .i64 u.last.port)] = zdL u g := rfl
def zpr (N : Nw) (a : Int) (t : Tk) : Bool := match t.path with | [] => false | d :: _ => decide ((zQ N d a).2 = 0) && decide (t = (zQ N d a).1)
theorem zkh (n : Nw) (a : Int) : ∀ (f : Nat) (d : Int) (p : List Int), (zbi n a f d p).path.length ≤ p.length + f
  | 0, d, p => by simp [zbi]
  | f + 1, d, p => by
    have := zkh n a f (zcX n (zao n d a).2) (p ++ [d])
    simp only [zbi]
    split
    · simp
    · split
      · simp only [List.length_append, List.length_singleton] at this; omega
      · simp
theorem znz (n : Nw) (d a : Int) : (zQ n d a).1.path.length ≤ 2 + 2 * n.t.links.length := by
  unfold zQ
  split
  · simp
  · have := zkh n a (2 + 2 * n.t.links.length) d []
    simpa [zbk] using this
structure Qy where
  kind : Int
  a : Int
  b : Int
  w : Int
  r : Rg
  other : ByteArray
def qyAV (q : Qy) : AV := .agg [.raw (.int .i64 q.kind), .raw (.int .i64 q.a), .raw (.int .i64 q.b), .raw (.int .i64 q.w), .raw (.int .u32 q.r.lo), .raw (.int .u32 q.r.hi), .raw (.string q.other)]
def zjE (q : Qy) : Bool := decide (q.kind = 0) || (decide (q.kind = 3) || decide (q.kind = 4))
def zaC (n : Nw) (d : Int) : Bool := decide (d < 0) || decide ((n.t.ports.length : Int) ≤ d)
def zaY (t : Tk) (d : Int) : Bool := decide (t.out = 3) && decide (t.last.dev = d)
def zbc (t : Tk) (d : Int) : Bool := t.path.any fun x => decide (d = x)
end Go.Proofs.YtpboabpapgimoaaGreat.Av
namespace Go.Proofs.YtpboabpapgimoaaGreat.Av
open Go
set_option linter.unusedSimpArgs false
set_option linter.unusedVariables false
set_option maxRecDepth 100000
set_option maxHeartbeats 4000000
set_option pp.maxSteps 600
def zmV (q : Qy) : Bool := q.other.toList == (ByteArray.toList ⟨#[]⟩)
def zq5 (n : Nw) (q : Qy) : Bool :=
  !(decide (q.kind < 0) || (decide (5 < q.kind) || decide (q.r.hi < q.r.lo))) && (!([q.a, q.b, q.w].any (zaC n)) && ((zjE q || (decide (q.a = 0) && decide (q.b = 0))) && ((decide (q.kind = 4) || decide (q.w = 0)) && (decide (q.kind = 5) || zmV q))))
def zid (n : Nw) (q : Qy) : List Int := if zjE q = true then [q.a] else (List.range n.t.ports.length).map fun i : Nat => (i : Int)
def zmW (q : Qy) (t u : Tk) : Bool :=
  if q.kind = 0 then !zaY t q.b else if q.kind = 1 then decide (t.out = 4) else if q.kind = 2 then decide (t.out = 0) else if q.kind = 3 then zbc t q.b else if q.kind = 4 then zaY t q.b && !zbc t q.w else if q.kind = 5 then !decide (t = u) else false
end Go.Proofs.YtpboabpapgimoaaGreat.Av
namespace Go.Proofs.YtpboabpapgimoaaGreat.Av
open Go
set_option linter.unusedSimpArgs false
set_option linter.unusedVariables false
set_option maxRecDepth 100000
set_option maxHeartbeats 4000000
set_option pp.maxSteps 600
structure Vd where
  holds : Bool
  src : Int
  addr : Int
  tr : Tk
deriving DecidableEq
def vdAV (v : Vd) (f : Bool) : AV := .agg [.raw (.bool v.holds), .raw (.int .i64 v.src), .raw (.int .u32 v.addr), zp v.tr.path f, .raw (.int .i64 v.tr.out), .raw (.int .i64 v.tr.last.dev), .raw (.int .i64 v.tr.last.port)]
def zps : Tk := ⟨[], 0, ⟨0, 0⟩⟩
def zq6 (n m : Nw) (q : Qy) (d : Int) : List Rg → Option Vd
  | [] => none
  | r :: rs => if zmW q (zQ n d r.lo).1 (zQ m d r.lo).1 = true then some ⟨false, d, r.lo, (zQ n d r.lo).1⟩ else zq6 n m q d rs
def zkW (n m : Nw) (q : Qy) (P : List Rg) : List Int → Option Vd
  | [] => none
  | d :: ds => match zq6 n m q d P with
    | some v => some v
    | none => zkW n m q P ds
def runQ (n m : Nw) (q : Qy) : Vd × Int :=
  if zq5 n q = false ∨ (q.kind = 5 ∧ n.t ≠ m.t) then (⟨false, 0, 0, zps⟩, 121) else
    match zkW n (if q.kind = 5 then m else n) q (zb0 [n, if q.kind = 5 then m else n] q.r) (zid n q) with
    | some v => (v, 0)
    | none => (⟨true, 0, 0, zps⟩, 0)
def zyT : AV := .agg [.raw (.bool false), .raw (.int .i64 0), .raw (.int .u32 0), .sl 0 [] true, .raw (.int .i64 0), .raw (.int .i64 0), .raw (.int .i64 0)]
theorem zki (L : List Rg) : (zaG L).length ≤ 1 + 2 * L.length := by
  have hcc := zby L
  have := zdR (m := 0 :: zcc L) (hcc.srt.imp fun h => by omega) fun x hx => by
    rw [List.mem_cons]; simp only [zcc, List.mem_flatMap]; exact (hcc.mem x).1 hx
  have := zfc L
  simp only [List.length_cons] at *
  omega
end Go.Proofs.YtpboabpapgimoaaGreat.Av
namespace Go.Proofs.YtpboabpapgimoaaGreat.Av
open Go
set_option linter.unusedSimpArgs false
set_option linter.unusedVariables false
set_option maxRecDepth 100000
set_option maxHeartbeats 2000000
set_option pp.maxSteps 300
def zax (n : Nw) : Bool := ziZ n.t && (zh9 n.rules && zgc n.t n.rules)
end Go.Proofs.YtpboabpapgimoaaGreat.Av
namespace Go.Proofs.YtpboabpapgimoaaGreat.Av
open Go
set_option linter.unusedSimpArgs false
set_option linter.unusedVariables false
set_option maxRecDepth 100000
set_option maxHeartbeats 2000000
set_option pp.maxSteps 600
def zgi (n : Nw) (d a : Int) : Int × Pt :=
  if zns n.rules d a = true then (2, ⟨0, 0⟩) else if n.rules.any (zh8 d a false) = false then (0, ⟨0, 0⟩) else if (zck (n.rules.filter (zh8 d a false))).kind = 1 then (1, ⟨0, 0⟩)
  else if (zlz n.t.links ⟨d, (zck (n.rules.filter (zh8 d a false))).port⟩).isSome = true then (4, ⟨d, (zck (n.rules.filter (zh8 d a false))).port⟩) else (3, ⟨d, (zck (n.rules.filter (zh8 d a false))).port⟩)
end Go.Proofs.YtpboabpapgimoaaGreat.Av
namespace Go.Proofs.YtpboabpapgimoaaGreat.Av
open Go
set_option linter.unusedSimpArgs false
set_option linter.unusedVariables false
set_option maxRecDepth 100000
def zyU (m : List (Pt × Pt)) (p : Pt) : Option Pt := (m.find? fun e => decide (p = e.1)).map (·.2)
def zbm : List Lk → List Pt
  | [] => []
  | l :: ls => l.a :: l.b :: zbm ls
end Go.Proofs.YtpboabpapgimoaaGreat.Av
namespace Go.Proofs.YtpboabpapgimoaaGreat.Av
open Go
set_option linter.unusedSimpArgs false
set_option linter.unusedVariables false
set_option maxRecDepth 100000
theorem zmX (m : List (Pt × Pt)) (k v : Pt) : (upd m k v).length ≤ m.length + 1 ∧ ((upd m k v).length = m.length + 1 ↔ k ∉ m.map (·.1)) := by
  have hle : (m.filter fun e => decide (k ≠ e.1)).length ≤ m.length := List.length_filter_le _ _
  have hl : (upd m k v).length = (m.filter fun e => decide (k ≠ e.1)).length + 1 := by simp [upd]
  refine ⟨by omega, ?_⟩
  rw [hl]
  constructor
  · intro h hk
    obtain ⟨e, he, rfl⟩ := List.mem_map.1 hk
    have := List.length_filter_lt_length_iff_exists (p := fun x : Pt × Pt => decide (e.1 ≠ x.1)) (l := m) |>.2 ⟨e, he, by simp⟩
    omega
  · intro h
    have : (m.filter fun e => decide (k ≠ e.1)) = m := by
      rw [List.filter_eq_self]
      intro x hx
      simp only [decide_eq_true_eq]
      intro q
      exact h (q ▸ List.mem_map.2 ⟨x, hx, rfl⟩)
    rw [this]
theorem zpt (m : List (Pt × Pt)) (k v x : Pt) : x ∈ (upd m k v).map (·.1) ↔ x = k ∨ x ∈ m.map (·.1) := by
  simp only [upd, List.map_append, List.mem_append, List.map_cons, List.map_nil, List.mem_singleton]
  constructor
  · rintro (h | h)
    · obtain ⟨e, he, rfl⟩ := List.mem_map.1 h
      exact .inr (List.mem_map.2 ⟨e, (List.mem_filter.1 he).1, rfl⟩)
    · exact .inl h
  · rintro (h | h)
    · exact .inr h
    · by_cases q : x = k
      · exact .inr q
      · obtain ⟨e, he, rfl⟩ := List.mem_map.1 h
        exact .inl (List.mem_map.2 ⟨e, List.mem_filter.2 ⟨he, by simpa using fun r => q r.symm⟩, rfl⟩)
theorem zpu (ls : List Lk) (m : List (Pt × Pt)) :
    (ls.foldl (fun m l => upd (upd m l.a l.b) l.b l.a) m).length ≤ m.length + 2 * ls.length ∧
    ((ls.foldl (fun m l => upd (upd m l.a l.b) l.b l.a) m).length = m.length + 2 * ls.length ↔ (zbm ls).Nodup ∧ ∀ p ∈ zbm ls, p ∉ m.map (·.1)) := by
  induction ls generalizing m with
  | nil => simp [zbm]
  | cons l ls ih =>
    obtain ⟨i1, i2⟩ := ih (upd (upd m l.a l.b) l.b l.a)
    obtain ⟨a1, a2⟩ := zmX m l.a l.b
    obtain ⟨b1, b2⟩ := zmX (upd m l.a l.b) l.b l.a
    rw [List.foldl_cons, List.length_cons]
    refine ⟨by omega, ?_⟩
    simp only [zpt, not_or] at b2 i2
    simp only [zbm, List.nodup_cons, List.mem_cons, not_or]
    constructor
    · intro h
      have h1 := a2.1 (by omega)
      have h2 := b2.1 (by omega)
      have h3 := i2.1 (by omega)
      refine ⟨⟨⟨fun q => h2.1 q.symm, fun q => (h3.2 _ q).2.1 rfl⟩, fun q => (h3.2 _ q).1 rfl, h3.1⟩, ?_⟩
      rintro p (rfl | rfl | hp)
      · exact h1
      · exact h2.2
      · exact (h3.2 _ hp).2.2
    · rintro ⟨⟨⟨hab, ha⟩, hb, hn⟩, hd⟩
      have e1 := a2.2 (hd _ (.inl rfl))
      have e2 := b2.2 ⟨fun q => hab q.symm, hd _ (.inr (.inl rfl))⟩
      have e3 := i2.2 ⟨hn, fun p hp => ⟨fun q => hb (q ▸ hp), fun q => ha (q ▸ hp), hd _ (.inr (.inr hp))⟩⟩
      omega
theorem zi6 (ls : List Lk) : (zbU ls).length = 2 * ls.length ↔ (zbm ls).Nodup := by
  have := (zpu ls []).2
  simpa [zbU] using this
end Go.Proofs.YtpboabpapgimoaaGreat.Av
namespace Go.Proofs.YtpboabpapgimoaaGreat.Av
open Go
set_option linter.unusedSimpArgs false
set_option linter.unusedVariables false
set_option maxRecDepth 100000
theorem zmx {l : List Ru} {last : Int} (h : zdi last l = true) : ∀ r ∈ l, zd6 r = true := by
  induction l generalizing last with
  | nil => simp
  | cons x l ih =>
    simp only [zdi, Bool.and_eq_true] at h
    intro r hr
    rcases List.mem_cons.1 hr with rfl | hr
    · exact h.1.1
    · exact ih h.2 r hr
theorem zi7 {l : List Ru} {p q : Ru → Bool} (h : ∀ r ∈ l, p r = q r) : l.any p = l.any q := by
  induction l with
  | nil => rfl
  | cons x l ih =>
    rw [List.any_cons, List.any_cons, h x (by simp), ih fun r hr => h r (List.mem_cons_of_mem _ hr)]
end Go.Proofs.YtpboabpapgimoaaGreat.Av
namespace Go.Proofs.YtpboabpapgimoaaGreat.Av
set_option linter.unusedSimpArgs false
set_option linter.unusedVariables false
def zgj (L : List Rg) (a b : Int) : Prop := ∀ x ∈ zaG L, (x ≤ a ↔ x ≤ b)
theorem zp8 {L : List Rg} {a b : Int} (h : zgj L a b) (ha : a < 4294967296) (hb : b < 4294967296) {r : Rg} (hr : r ∈ L) : (r.lo ≤ a ∧ a ≤ r.hi) ↔ (r.lo ≤ b ∧ b ≤ r.hi) := by
  have hm := (zby L).mem
  have h1 : r.lo ∈ zaG L := (hm _).2 (.inr ⟨r, hr, by unfold zbW; split <;> simp⟩)
  have k1 := h _ h1
  by_cases q : r.hi < 4294967295
  · have h2 : r.hi + 1 ∈ zaG L := (hm _).2 (.inr ⟨r, hr, by unfold zbW; rw [if_pos q]; simp⟩)
    have k2 := h _ h2
    constructor <;> rintro ⟨x, y⟩ <;> constructor <;> omega
  · constructor <;> rintro ⟨x, y⟩ <;> constructor <;> omega
theorem zoA {n : Nw} {L : List Rg} (hL : ∀ r ∈ n.rules, r.r ∈ L) {a b : Int} (h : zgj L a b) (ha : a < 4294967296) (hb : b < 4294967296) (d : Int) : zao n d a = zao n d b := by
  have ht : ∀ r ∈ n.rules, zeW r d a = zeW r d b := fun r hr => by
    have := zp8 h ha hb (hL r hr)
    unfold zeW
    rw [Bool.eq_iff_iff]
    simp only [Bool.and_eq_true, decide_eq_true_eq]
    rw [this]
  have h1 : ∀ r ∈ n.rules, zdN d a r = zdN d b r := fun r hr => by unfold zdN; rw [ht r hr]
  have h2 : ∀ r ∈ n.rules, zdO d a r = zdO d b r := fun r hr => by unfold zdO; rw [ht r hr]
  have e1 : n.rules.any (zdN d a) = n.rules.any (zdN d b) := zi7 h1
  have e2 : n.rules.any (zdO d a) = n.rules.any (zdO d b) := zi7 h2
  have e3 : n.rules.filter (zdN d a) = n.rules.filter (zdN d b) := List.filter_congr h1
  have e4 : n.rules.filter (zdO d a) = n.rules.filter (zdO d b) := List.filter_congr h2
  unfold zao zfF zgX zej
  rw [e1, e2, e3, e4]
theorem zkj {n : Nw} {a b : Int} (h : ∀ d, zao n d a = zao n d b) : ∀ (f : Nat) (d : Int) (p : List Int), zbi n a f d p = zbi n b f d p
  | 0, d, p => rfl
  | f + 1, d, p => by
    simp only [zbi, h d]
    split
    · rfl
    · split
      · exact zkj h f _ _
      · rfl
theorem znA {n : Nw} {L : List Rg} (hL : ∀ r ∈ n.rules, r.r ∈ L) {a b : Int} (h : zgj L a b) (ha : a < 4294967296) (hb : b < 4294967296) (d : Int) : zQ n d a = zQ n d b := by
  unfold zQ zbk
  rw [zkj fun d => zoA hL h ha hb d]
theorem zoB {c : List Int} (hc : c.Pairwise (· < ·)) {a : Rg} (ha : a ∈ zaE c) {y z : Int} (hy : a.lo ≤ y ∧ y ≤ a.hi) (hz : a.lo ≤ z ∧ z ≤ a.hi) : ∀ x ∈ c, (x ≤ y ↔ x ≤ z) := by
  intro x hx
  obtain ⟨i, hi⟩ := List.mem_iff_getElem?.1 ha
  rw [zdA] at hi
  cases hci : c[i]? with
  | none => rw [hci] at hi; cases hi
  | some ci =>
    rw [hci] at hi
    simp only [Option.map_some, Option.some.injEq] at hi
    subst hi
    simp only [] at hy hz
    obtain ⟨j, hj⟩ := List.mem_iff_getElem?.1 hx
    obtain ⟨hjl, hje⟩ := List.getElem?_eq_some_iff.1 hj
    obtain ⟨hil, hie⟩ := List.getElem?_eq_some_iff.1 hci
    by_cases hji : j ≤ i
    · have : x ≤ ci := by
        rcases Nat.lt_or_eq_of_le hji with h | h
        · have := List.pairwise_iff_getElem.1 hc j i hjl hil h
          omega
        · subst h; omega
      omega
    · have h1 : i + 1 < c.length := by omega
      have hn : c[i + 1]? = some c[i + 1] := List.getElem?_eq_getElem h1
      rw [hn] at hy hz
      simp only [] at hy hz
      have : c[i + 1] ≤ x := by
        rcases Nat.lt_or_eq_of_le (show i + 1 ≤ j by omega) with h | h
        · have := List.pairwise_iff_getElem.1 hc (i + 1) j h1 hjl h
          omega
        · subst h; omega
      omega
theorem zpv {c : List Int} {L : List Rg} (h : Cuts c L) {x : Int} (h0 : 0 ≤ x) (h1 : x < 4294967296) : ∃ a ∈ zaE c, a.lo ≤ x ∧ x ≤ a.hi := by
  obtain ⟨p, hp⟩ : ∃ p, c.countP (fun y => decide (y ≤ x)) = p + 1 := ⟨_, (Nat.succ_pred_eq_of_pos (h.pos h0)).symm⟩
  have hle : c.countP (fun y => decide (y ≤ x)) ≤ c.length := List.countP_le_length
  have hpl : p < c.length := by omega
  have hci : c[p]? = some c[p] := List.getElem?_eq_getElem hpl
  have hs := zgf h.srt x
  have k1 := (hs p _ hci).2 (by omega)
  have hg := zdA c p
  rw [hci] at hg
  refine ⟨_, List.mem_of_getElem? hg, k1, ?_⟩
  simp only []
  cases hn : c[p + 1]? with
  | none => simp only []; omega
  | some y =>
    have := hs _ _ hn
    simp only []
    have : ¬ y ≤ x := fun hyx => by have := this.1 hyx; omega
    omega
theorem zlG {c : List Int} {r p : Rg} (h : p ∈ zdS c r) : ∃ a ∈ zaE c, a.lo ≤ p.lo ∧ p.hi ≤ a.hi ∧ r.lo ≤ p.lo ∧ p.hi ≤ r.hi ∧ p.lo ≤ p.hi := by
  unfold zdS at h
  obtain ⟨a, ha, hp⟩ := List.mem_filterMap.1 h
  unfold zcl at hp
  split at hp
  · rename_i hle
    simp only [Option.some.injEq] at hp
    subst hp
    refine ⟨a, ha, ?_⟩
    simp only []
    omega
  · cases hp
theorem zpw {c : List Int} {L : List Rg} (h : Cuts c L) {r : Rg} {x : Int} (h0 : 0 ≤ x) (h1 : x < 4294967296) (hx : r.lo ≤ x ∧ x ≤ r.hi) : ∃ p ∈ zdS c r, p.lo ≤ x ∧ x ≤ p.hi := by
  obtain ⟨a, ha, k1, k2⟩ := zpv h h0 h1
  refine ⟨⟨max a.lo r.lo, min a.hi r.hi⟩, ?_, by simp only []; omega⟩
  unfold zdS
  refine List.mem_filterMap.2 ⟨a, ha, ?_⟩
  unfold zcl
  rw [if_pos (by omega)]
theorem zkk : ∀ {c : List Int}, c.Pairwise (· < ·) → (zaE c).Pairwise fun a b => a.hi < b.lo
  | [], _ => by simp [zaE]
  | [x], _ => by simp [zaE]
  | x :: y :: l, h => by
    obtain ⟨h1, h2⟩ := List.pairwise_cons.1 h
    simp only [zaE]
    refine List.pairwise_cons.2 ⟨fun b hb => ?_, zkk h2⟩
    have : ∀ (l : List Int) (y : Int), (y :: l).Pairwise (· < ·) → ∀ b ∈ zaE (y :: l), y ≤ b.lo := by
      intro l
      induction l with
      | nil => intro y _ b hb; simp only [zaE, List.mem_singleton] at hb; subst hb; simp
      | cons z l ih =>
        intro y hy b hb
        obtain ⟨g1, g2⟩ := List.pairwise_cons.1 hy
        simp only [zaE, List.mem_cons] at hb
        rcases hb with rfl | hb
        · simp
        · have := ih z g2 b hb
          have := g1 z (by simp)
          omega
    have := this l y h2 b hb
    simp only []
    omega
theorem zoC {c : List Int} (h : c.Pairwise (· < ·)) (r : Rg) : (zdS c r).Pairwise fun a b => a.hi < b.lo := by
  unfold zdS
  refine List.Pairwise.filterMap (R := fun a b : Rg => a.hi < b.lo) (zcl r) ?_ (zkk h)
  intro a b hab p hp q hq
  unfold zcl at hp hq
  split at hp
  · split at hq
    · simp only [Option.some.injEq] at hp hq
      subst hp; subst hq
      simp only []
      omega
    · cases hq
  · cases hp
theorem zfp {n : Nw} (h : zax n = true) : (∀ r ∈ n.rules, zd6 r = true) ∧ n.rules.length ≤ 40 := by
  unfold zax at h
  simp only [Bool.and_eq_true] at h
  have h2 := h.2.1
  unfold zh9 at h2
  simp only [Bool.and_eq_true, decide_eq_true_eq] at h2
  exact ⟨zmx h2.1, h2.2⟩
theorem zp9 {r : Ru} (h : zd6 r = true) : r.r.lo ≤ r.r.hi := by
  unfold zd6 at h
  simp only [Bool.and_eq_true, decide_eq_true_eq] at h
  exact h.2
theorem zoD {l : List Nw} (h : ∀ n ∈ l, zax n = true) : ∀ r ∈ zaB l, r.lo ≤ r.hi := by
  intro r hr
  unfold zaB at hr
  obtain ⟨n, hn, hr⟩ := List.mem_flatMap.1 hr
  obtain ⟨x, hx, rfl⟩ := List.mem_map.1 hr
  exact zp9 ((zfp (h n hn)).1 x hx)
theorem znB {l : List Nw} (h : ∀ n ∈ l, zax n = true) (hl : l.length ≤ 12) : zdB (zaB l) = (zaB l).reverse := by
  refine zlE (zoD h) ?_
  have : ∀ l : List Nw, (∀ n ∈ l, zax n = true) → (zaB l).length ≤ 40 * l.length := by
    intro l
    induction l with
    | nil => intro _; simp [zaB]
    | cons n l ih =>
      intro h
      have h1 := (zfp (h n (by simp))).2
      have h2 := ih fun m hm => h m (by simp [hm])
      simp only [zaB, List.flatMap_cons, List.length_append, List.length_map, List.length_cons] at h2 ⊢
      omega
  have := this l h
  omega
theorem znC {l : List Nw} (h : ∀ n ∈ l, zax n = true) (hl : l.length ≤ 12) : zaG (zdB (zaB l)) = zaG (zaB l) := by
  rw [znB h hl]; exact zi3 (List.reverse_perm _)
theorem zi8 {l : List Nw} (h : ∀ n ∈ l, zax n = true) (hl : l.length ≤ 12) {r : Rg} (hr : r.lo ≤ r.hi) : zb0 l r = zdS (zaG (zaB l)) r := by
  unfold zb0
  rw [if_neg (by omega), znC h hl]
theorem zoE {l : List Nw} {n : Nw} (hn : n ∈ l) : ∀ r ∈ n.rules, r.r ∈ zaB l := fun r hr => List.mem_flatMap.2 ⟨n, hn, List.mem_map.2 ⟨r, hr, rfl⟩⟩
end Go.Proofs.YtpboabpapgimoaaGreat.Av
namespace Go.Proofs.YtpboabpapgimoaaGreat.Av
open Go
set_option linter.unusedSimpArgs false
set_option linter.unusedVariables false
set_option maxRecDepth 100000
set_option pp.maxSteps 600
def zcw : List Pt → Bool
  | [] => true
  | p :: l => !l.contains p && zcw l
theorem zez (l : List Pt) : zcw l = true ↔ l.Nodup := by
  induction l with
  | nil => simp [zcw]
  | cons p l ih => simp [zcw, ih]
def zbO (t : Tp) : Bool := !decide (t.ports.length < 1) && (!decide (8 < t.ports.length) && (!decide (16 < t.links.length) && (t.ports.all (fun n => decide (1 ≤ n) && decide (n ≤ 4)) && ((zbm t.links).all (hasB t) && zcw (zbm t.links)))))
theorem zmy {t : Tp} (ls : List Lk) (hn : (zbm ls).Nodup) : ls.any (zjA t) = !(zbm ls).all (hasB t) := by
  induction ls with
  | nil => rfl
  | cons l ls ih =>
    simp only [zbm, List.nodup_cons, List.mem_cons, not_or] at hn
    rw [List.any_cons, ih hn.2.2]
    simp only [zbm, List.all_cons, zjA]
    have hab : decide (l.a = l.b) = false := by simpa using hn.1.1
    rw [hab]
    cases hasB t l.a <;> cases hasB t l.b <;> simp
theorem zoF (t : Tp) : ziZ t = zbO t := by
  have h1 : decide (t.ports.length = 0) = decide (t.ports.length < 1) := by
    rw [Bool.eq_iff_iff]; simp
  have h2 : (!zh7 t) = t.ports.all (fun n => decide (1 ≤ n) && decide (n ≤ 4)) := by
    unfold zh7
    induction t.ports with
    | nil => rfl
    | cons n l ih =>
      rw [List.any_cons, List.all_cons, ← ih, Bool.not_or]
      congr 1
      rw [Bool.eq_iff_iff]; simp
  unfold ziZ zbO
  rw [h1, h2]
  by_cases hn : (zbm t.links).Nodup
  · rw [decide_eq_true ((zi6 _).2 hn), (zez _).2 hn, zmy _ hn, Bool.not_not]
  · have e1 : zcw (zbm t.links) = false := by
      cases h : zcw (zbm t.links) with
      | false => rfl
      | true => exact absurd ((zez _).1 h) hn
    rw [decide_eq_false (fun h => hn ((zi6 _).1 h)), e1]
    simp
end Go.Proofs.YtpboabpapgimoaaGreat.Av
namespace Go.Proofs.YtpboabpapgimoaaGreat.Av
open Go
set_option linter.unusedSimpArgs false
set_option linter.unusedVariables false
set_option maxRecDepth 100000
set_option maxHeartbeats 2000000
set_option pp.maxSteps 600
theorem zjF (t : Tp) (f : Fl) (hl : t.ports.length < 2 ^ 60) (hl2 : t.links.length < 2 ^ 42) : PCalls Tryz.prog 55 [zbZ t f] (.raw (.bool (zbO t))) := by
  refine zE Tryz.func55 rfl (N := 96) rfl rfl (by simp) (by simp [noIds]) fun σ => ?_
  repeat (refine ze ?_)
  refine zg ?_
  have ho1 : cellOK (zp t.ports f.p) = true := rfl
  have ho2 : cellOK (zF t.links f.l) = true := rfl
  simp only [cellOK] at ho1 ho2
  simp [zcL, ho1, ho2]
  refine zai ⟨1, σ.nx 1, 2⟩ ?_
  generalize hτ : St.del _ _ = τ
  generalize hA : (fun t => zw _ _ _) = A
  have a1 : A 1 = .pp [zp t.ports f.p, zF t.links f.l] 0 := by rw [← hA, ← hτ]; simp [zw, St.new, St.del, zcL]
  have hE : Ext σ τ := by
    rw [← hτ]
    refine ⟨fun i o h => ?_, fun s => ?_⟩
    · rw [zL (fun e => by rw [e, zb] at h; cases h)]
      exact zat _ _ h
    · exact St.new_le σ 1 2 (.buf [zbZ t f]) s
  clear hτ hA
  by_cases q1 : t.ports.length < 1
  · have q1' : (t.ports.length : Int) < 1 := by omega
    have FF := fI zp.eq_1 (fI zF.eq_1 (fI @a1 (fI @hE (fI @q1 @q1')))); refine zx ?_; clear FF
    all_goals simp [zbO, q1]
  have q1' : ¬ (t.ports.length : Int) < 1 := by omega
  by_cases q2 : 8 < t.ports.length
  · have q2' : (8 : Int) < (t.ports.length : Int) := by omega
    have FF := fI zp.eq_1 (fI zF.eq_1 (fI @a1 (fI @hE (fI @q1 (fI @q1' (fI @q2 @q2')))))); refine zx ?_; clear FF
    all_goals simp [zbO, q2]
  have q2' : ¬ (8 : Int) < (t.ports.length : Int) := by omega
  by_cases q3 : 16 < t.links.length
  · have q3' : (16 : Int) < (t.links.length : Int) := by omega
    have FF := fI zp.eq_1 (fI zF.eq_1 (fI @a1 (fI @hE (fI @q1 (fI @q1' (fI @q2 (fI @q2' (fI @q3 @q3')))))))); refine zx ?_; clear FF
    all_goals simp [zbO, q3]
  have q3' : ¬ (16 : Int) < (t.links.length : Int) := by omega
  have FF := fI zp.eq_1 (fI zF.eq_1 (fI @a1 (fI @hE (fI @q1 (fI @q1' (fI @q2 (fI @q2' (fI @q3 @q3')))))))); refine zx ?_; clear FF
  refine zU (fun n B ρ => Ext σ ρ ∧ B 1 = .pp [zp t.ports f.p, zF t.links f.l] 0 ∧ ∃ i : Nat, B 3 = .raw (.int .i64 i) ∧ i ≤ t.ports.length ∧ n = t.ports.length - i ∧ (t.ports.take i).all (fun n => decide (1 ≤ n) && decide (n ≤ 4)) = true) t.ports.length ?_ ?_
  · exact ⟨hE, by simp [a1], 0, by simp, by omega, by omega, by simp⟩
  clear hE a1
  rintro n B ρ ⟨hE, a1, i, a3, hi, rfl, hall⟩ I1 hI1
  by_cases hlt : i < t.ports.length
  · have hx : t.ports[i]? = some t.ports[i] := List.getElem?_eq_getElem hlt
    have w1 : IntKind.i64.wrap ((i : Int) + 1) = ((i + 1 : Nat) : Int) := by rw [zh (by omega) (by omega)]; omega
    by_cases p1 : t.ports[i] < 1
    · have hf : t.ports.all (fun n => decide (1 ≤ n) && decide (n ≤ 4)) = false := by
        rw [List.all_eq_false]
        exact ⟨_, List.getElem_mem hlt, by simp; omega⟩
      have FF := fI zp.eq_1 (fI zF.eq_1 (fI iAV.eq_1 (fI @a1 (fI @a3 (fI @hE (fI @hlt (fI @hx (fI @w1 @p1)))))))); refine zx ?_; clear FF
      all_goals simp [zbO, hf]
    · by_cases p2 : 4 < t.ports[i]
      · have hf : t.ports.all (fun n => decide (1 ≤ n) && decide (n ≤ 4)) = false := by
          rw [List.all_eq_false]
          exact ⟨_, List.getElem_mem hlt, by simp; omega⟩
        have FF := fI zp.eq_1 (fI zF.eq_1 (fI iAV.eq_1 (fI @a1 (fI @a3 (fI @hE (fI @hlt (fI @hx (fI @w1 (fI @p1 @p2))))))))); refine zx ?_; clear FF
        all_goals simp [zbO, hf]
      · have hp : (decide (1 ≤ t.ports[i]) && decide (t.ports[i] ≤ 4)) = true := by
          rw [Bool.and_eq_true, decide_eq_true_eq, decide_eq_true_eq]; exact ⟨by omega, by omega⟩
        have hall' : (t.ports.take (i + 1)).all (fun n => decide (1 ≤ n) && decide (n ≤ 4)) = true := by
          rw [List.take_add_one, hx, List.all_append, hall, Option.toList_some, List.all_cons, hp]; rfl
        (try ((first | with_reducible refine zo ?_ | with_reducible refine zt ?_ | with_reducible refine zu ?_); simp [zp, zF, iAV, a1, a3, hE, hlt, hx, w1, p1, p2])); repeat' (first | ((first | refine zf ?_ | refine zg ?_ | refine dN (by decide +kernel) ?_ | (refine za ?_ ?_ <;> (intro hg; simp only [hg])) | fail) <;> simp [zp, zF, iAV, a1, a3, hE, hlt, hx, w1, p1, p2]) | refine ze ?_ | refine zd ?_ | (refine zA ?_; simp only [zB]; try simp) | ((first | refine zm (by simp) ?_ | refine zv (by simp) (by simp) (by simp (maxDischargeDepth := 30) [zp, zF, iAV, a1, a3, hE, hlt, hx, w1, p1, p2]) ?_ | fail); simp) | (refine zc (fun hc => ?_) (fun hc => ?_) <;> try simp at hc) | fail)
        exact hI1 (t.ports.length - (i + 1)) _ _ (by omega) ⟨hE, by simp [a1, zp, zF], i + 1, by simp, by omega, rfl, hall'⟩
  · have : i = t.ports.length := by omega
    subst this
    rw [List.take_length] at hall
    have FF := fI zp.eq_1 (fI zF.eq_1 (fI iAV.eq_1 (fI @a1 (fI @a3 @hE)))); refine zx ?_; clear FF
    refine zU (fun n B ρ => Ext σ ρ ∧ B 1 = .pp [zp t.ports f.p, zF t.links f.l] 0 ∧ ∃ (k : Nat) (v : AV), B 4 = v ∧ OwnL σ ρ 2 v ((zbm (t.links.take k)).map zag) ∧ B 5 = .raw (.int .i64 k) ∧ k ≤ t.links.length ∧ n = t.links.length - k) t.links.length ?_ ?_
    · exact ⟨hE, by simp [a1, zp, zF], 0, _, rfl, .inl ⟨by simp [zbm], by simp⟩, by simp, by omega, by omega⟩
    clear hE a1 a3 hI1 I1
    rintro n B ρ ⟨hE, a1, k, v, a4, hO, a5, hk, rfl⟩ I1 hI1
    have hfl : ∀ L : List Lk, (zbm L).length = 2 * L.length := by
      intro L; induction L with
      | nil => rfl
      | cons l L ih => simp only [zbm, List.length_cons, ih]; omega
    by_cases hlt : k < t.links.length
    · have hx : t.links[k]? = some t.links[k] := List.getElem?_eq_getElem hlt
      have w1 : IntKind.i64.wrap ((k : Int) + 1) = ((k + 1 : Nat) : Int) := by rw [zh (by omega) (by omega)]; omega
      have hfp : zbm (t.links.take (k + 1)) = zbm (t.links.take k) ++ [t.links[k].a, t.links[k].b] := by
        rw [List.take_add_one, hx]
        generalize t.links.take k = L
        induction L with
        | nil => rfl
        | cons l L ih => simp only [List.cons_append, zbm, ih]
      have fa : AV.agg [.raw (.int .i64 t.links[k].a.dev), .raw (.int .i64 t.links[k].a.port)] = zag t.links[k].a := rfl
      have fb : AV.agg [.raw (.int .i64 t.links[k].b.dev), .raw (.int .i64 t.links[k].b.port)] = zag t.links[k].b := rfl
      have hpc : ∀ q : Pt, (zag q).cells = [.raw (.int .i64 q.dev), .raw (.int .i64 q.port)] := fun q => rfl
      (try ((first | with_reducible refine zo ?_ | with_reducible refine zt ?_ | with_reducible refine zu ?_); simp [zF, zp, a1, a4, a5, hlt, hx, zdf, fa, fb, hpc, w1, -zC])); repeat' (first | ((first | refine zf ?_ | refine zg ?_ | refine dN (by decide +kernel) ?_ | (refine za ?_ ?_ <;> (intro hg; simp only [hg])) | fail) <;> simp [zF, zp, a1, a4, a5, hlt, hx, zdf, fa, fb, hpc, w1, -zC]) | refine ze ?_ | refine zd ?_ | (refine zA ?_; simp only [zB]; try simp) | ((first | refine zm (by simp) ?_ | refine zv (by simp) (by simp) (by simp (maxDischargeDepth := 30) [zF, zp, a1, a4, a5, hlt, hx, zdf, fa, fb, hpc, w1, -zC]) ?_ | fail); simp) | (refine zc (fun hc => ?_) (fun hc => ?_) <;> try simp at hc) | fail)
      refine za2 zqW (hO.ext (Ext.new _ _ _ _)) (hE.trans (Ext.new _ _ _ _)) (ys := [zag t.links[k].a, zag t.links[k].b]) (by simp) (.inr rfl) (by simp [hpc]) (by simp [hfl, Nat.min_eq_left hk]; omega) ?_
      intro v' τ' hO' hE' _ _
      have FF := fI zF.eq_1 (fI zp.eq_1 (fI @a1 (fI @a4 (fI @a5 @w1)))); refine zx ?_; clear FF
      exact hI1 (t.links.length - (k + 1)) _ _ (by omega) ⟨hE', by simp [a1, zp, zF], k + 1, v', by simp, by rw [hfp]; simpa using hO', by simp, by omega, rfl⟩
    · have : k = t.links.length := by omega
      subst this
      rw [List.take_length] at hO
      have hFl := hfl t.links
      obtain ⟨F, hF⟩ : ∃ F, zbm t.links = F := ⟨_, rfl⟩
      have hres : zbO t = (F.all (hasB t) && zcw F) := by
        unfold zbO
        rw [hF, hall, decide_eq_false q1, decide_eq_false q2, decide_eq_false q3]; rfl
      rw [hres]
      rw [hF] at hO hFl
      clear hres hI1 hall hfl
      have hpc : ∀ q : Pt, (zag q).cells = [.raw (.int .i64 q.dev), .raw (.int .i64 q.port)] := fun q => rfl
      have hpf : ∀ q : Pt, AV.agg [.raw (.int .i64 q.dev), .raw (.int .i64 q.port)] = zag q := fun q => rfl
      have htf : AV.agg [AV.sl 1 (t.ports.map iAV) f.p, AV.sl 4 (t.links.map zh4) f.l] = zbZ t f := rfl
      have hbin : ∀ x y : Pt, zcE Tryz.prog .eql 52 (zag x) (zag y) = some (.raw (.bool (decide (x = y)))) := fun x y => by
        have e1 : zcE Tryz.prog .eql 52 (zag x) (zag y) = if Tryz.prog.eqGuardType Tryz.prog.depth 52 = false then (za6 Tryz.prog 4 52 (zag x) (zag y)).bind fun b => (zcu .eql b).map .raw else none := rfl
        have := zoo x y
        rw [e1, if_pos zsB]
        rw [show za6 Tryz.prog 4 52 (zag x) (zag y) = some (decide (x = y)) from this]
        rfl
      have FF := fI zF.eq_1 (fI zp.eq_1 (fI @a1 (fI @a4 @a5))); refine zx ?_; clear FF
      refine ziV 4 (by simpa [a4] using hO) hE ?_
      intro A' τ' hE' e4 hf _ _ _ _
      have b1 : A' 1 = .pp [zp t.ports f.p, zF t.links f.l] 0 := by rw [hf 1 (by simp) (by simp [a1])]; simp [a1]
      have b6 : A' 6 = .raw (.int .i64 0) := by rw [hf 6 (by simp) (by simp)]; simp
      clear hf hE a1 a4 a5 hO
      refine zU (fun n B ρ => Ext σ ρ ∧ B 1 = .pp [zp t.ports f.p, zF t.links f.l] 0 ∧ B 4 = .sl 2 (F.map zag) false ∧ ∃ i : Nat, B 6 = .raw (.int .i64 i) ∧ i ≤ F.length ∧ n = F.length - i ∧ (F.take i).all (hasB t) = true ∧ (F.take i).Nodup) F.length ?_ ?_
      · exact ⟨hE', b1, e4, 0, by simp [b6], by omega, by omega, by simp, by simp⟩
      clear hE' b1 e4 b6
      rintro n B ρ ⟨hE, a1, a4, i, a6, hi, rfl, hal, hnd⟩ I1 hI1
      by_cases hlt : i < F.length
      · have hx : F[i]? = some F[i] := List.getElem?_eq_getElem hlt
        have w1 : IntKind.i64.wrap ((i : Int) + 1) = ((i + 1 : Nat) : Int) := by rw [zh (by omega) (by omega)]; omega
        have hh := refHas_calls t f F[i] hl
        by_cases hb : hasB t F[i] = true
        · rw [hb] at hh
          (try ((first | with_reducible refine zo ?_ | with_reducible refine zt ?_ | with_reducible refine zu ?_); simp [-cellOK, zF, zp, a1, a4, a6, hlt, hx, hpc, htf])); repeat' (first | ((first | refine zf ?_ | refine zg ?_ | refine dN (by decide +kernel) ?_ | refine dC (by decide +kernel) ?_ | refine uP (hh) ?_ | refine .inl ⟨_, .inl (hh), ?_⟩ | (refine za ?_ ?_ <;> (intro hg; simp only [hg])) | fail) <;> simp [-cellOK, zF, zp, a1, a4, a6, hlt, hx, hpc, htf]) | refine ze ?_ | refine zd ?_ | (refine zA ?_; simp only [zB]; try simp) | (refine zm (by simp) ?_; simp) | (refine zan (by simp) (by simp [noIds]) (by repeat (first | assumption | exact Ext.refl _ | refine zS ?_ | refine Ext.setF ?_ (by first | assumption | (simp [zk, St.set, zb]; done) | exact zN (by assumption)))) ?_; simp [-cellOK, zF, zp, a1, a4, a6, hlt, hx, hpc, htf, nsE]) | (refine zc (fun hc => ?_) (fun hc => ?_) <;> try simp at hc) | fail)
          refine zU (fun n B ρ => Ext σ ρ ∧ B 1 = .pp [zp t.ports f.p, zF t.links f.l] 0 ∧ B 4 = .sl 2 (F.map zag) false ∧ B 6 = .raw (.int .i64 i) ∧ ∃ k : Nat, B 8 = .raw (.int .i64 k) ∧ k ≤ i ∧ n = i - k ∧ ∀ j, (hj : j < k) → (hji : j < F.length) → F[j] ≠ F[i]) i ?_ ?_
          · exact ⟨by simp [hE], by simp [a1, zF, zp], by simp [a4], by simp [a6], 0, by simp, by omega, by omega, fun j hj => by omega⟩
          rintro n C τ ⟨hE, a1, a4, a6, k, a8, hk, rfl, hne⟩ J1 hJ1
          by_cases hki : k < i
          · have hkl : k < F.length := by omega
            have hx2 : F[k]? = some F[k] := List.getElem?_eq_getElem hkl
            have w2 : IntKind.i64.wrap ((k : Int) + 1) = ((k + 1 : Nat) : Int) := by rw [zh (by omega) (by omega)]; omega
            by_cases he : F[k] = F[i]
            · have hnn : zcw F = false := by
                cases h : zcw F with
                | false => rfl
                | true =>
                  have := (zez _).1 h
                  exact absurd he (List.pairwise_iff_getElem.1 this k i hkl hlt hki)
              have hd : decide (F[k] = F[i]) = true := decide_eq_true he
              rw [show (F.all (hasB t) && zcw F) = false by rw [hnn, Bool.and_false]]
              (try ((first | with_reducible refine zo ?_ | with_reducible refine zt ?_ | with_reducible refine zu ?_); simp [-cellOK, zF, zp, hE, a1, a4, a6, a8, hlt, hx, hkl, hki, hx2, w2, hpc, hpf, -zcE, hbin, zdg, hd])); repeat' (first | ((first | refine zf ?_ | refine zg ?_ | refine dN (by decide +kernel) ?_ | refine dC (by decide +kernel) ?_ | refine uP (hh) ?_ | refine .inl ⟨_, .inl (hh), ?_⟩ | (refine za ?_ ?_ <;> (intro hg; simp only [hg])) | fail) <;> simp [-cellOK, zF, zp, hE, a1, a4, a6, a8, hlt, hx, hkl, hki, hx2, w2, hpc, hpf, -zcE, hbin, zdg, hd]) | refine ze ?_ | refine zd ?_ | (refine zA ?_; simp only [zB]; try simp) | (refine zm (by simp) ?_; simp) | (refine zan (by simp) (by simp [noIds]) (by repeat (first | assumption | exact Ext.refl _ | refine zS ?_ | refine Ext.setF ?_ (by first | assumption | (simp [zk, St.set, zb]; done) | exact zN (by assumption)))) ?_; simp [-cellOK, zF, zp, hE, a1, a4, a6, a8, hlt, hx, hkl, hki, hx2, w2, hpc, hpf, -zcE, hbin, zdg, hd, nsE]) | (refine zc (fun hc => ?_) (fun hc => ?_) <;> try simp at hc) | fail)
            · have hd : decide (F[k] = F[i]) = false := decide_eq_false he
              (try ((first | with_reducible refine zo ?_ | with_reducible refine zt ?_ | with_reducible refine zu ?_); simp [-cellOK, zF, zp, a1, a4, a6, a8, hlt, hx, hkl, hki, hx2, w2, hpc, hpf, -zcE, hbin, zdg, hd])); repeat' (first | ((first | refine zf ?_ | refine zg ?_ | refine dN (by decide +kernel) ?_ | refine dC (by decide +kernel) ?_ | refine uP (hh) ?_ | refine .inl ⟨_, .inl (hh), ?_⟩ | (refine za ?_ ?_ <;> (intro hg; simp only [hg])) | fail) <;> simp [-cellOK, zF, zp, a1, a4, a6, a8, hlt, hx, hkl, hki, hx2, w2, hpc, hpf, -zcE, hbin, zdg, hd]) | refine ze ?_ | refine zd ?_ | (refine zA ?_; simp only [zB]; try simp) | (refine zm (by simp) ?_; simp) | (refine zan (by simp) (by simp [noIds]) (by repeat (first | assumption | exact Ext.refl _ | refine zS ?_ | refine Ext.setF ?_ (by first | assumption | (simp [zk, St.set, zb]; done) | exact zN (by assumption)))) ?_; simp [-cellOK, zF, zp, a1, a4, a6, a8, hlt, hx, hkl, hki, hx2, w2, hpc, hpf, -zcE, hbin, zdg, hd, nsE]) | (refine zc (fun hc => ?_) (fun hc => ?_) <;> try simp at hc) | fail)
              exact hJ1 (i - (k + 1)) _ _ (by omega) ⟨hE, by simp [a1, zF, zp], by simp [a4], by simp [a6], k + 1, by simp, by omega, rfl, fun j hj hji => by
                by_cases e : j = k
                · subst e; exact he
                · exact hne j (by omega) hji⟩
          · have : k = i := by omega
            subst this
            have FF := fI zF.eq_1 (fI zp.eq_1 (fI @a1 (fI @a4 (fI @a6 (fI @a8 @w1))))); refine gxB ?_; clear FF
            refine hI1 (F.length - (k + 1)) _ _ (by omega) ⟨hE, by simp [a1, zF, zp], by simp [a4], k + 1, by simp, by omega, rfl, ?_, ?_⟩
            · rw [List.take_add_one, hx, List.all_append, hal, Option.toList_some, List.all_cons, hb]; rfl
            · rw [List.take_add_one, hx, List.nodup_append]
              refine ⟨hnd, by simp, fun a ha b hbm e => ?_⟩
              simp only [Option.toList_some, List.mem_singleton] at hbm
              subst hbm; subst e
              obtain ⟨j, hj, e2⟩ := List.mem_iff_getElem.1 ha
              simp only [List.length_take] at hj
              rw [List.getElem_take] at e2
              exact hne j (by omega) (by omega) e2
        · have hb' : hasB t F[i] = false := by simpa using hb
          rw [hb'] at hh
          have hF0 : F.all (hasB t) = false := by
            rw [List.all_eq_false]
            exact ⟨_, List.getElem_mem hlt, by simp [hb']⟩
          rw [show (F.all (hasB t) && zcw F) = false by rw [hF0, Bool.false_and]]
          have FF := fI zF.eq_1 (fI zp.eq_1 (fI @hE (fI @a1 (fI @a4 (fI @a6 (fI @hlt (fI @hx (fI @hpc (fI @hpf @htf))))))))); exact gxA
      · have : i = F.length := by omega
        subst this
        rw [List.take_length] at hal hnd
        have hnn := (zez F).2 hnd
        rw [hal, hnn]
        have FF := fI zF.eq_1 (fI zp.eq_1 (fI @hE (fI @a1 (fI @a4 @a6)))); exact gxA
end Go.Proofs.YtpboabpapgimoaaGreat.Av
namespace Go.Proofs.YtpboabpapgimoaaGreat.Av
open Go
set_option linter.unusedSimpArgs false
set_option linter.unusedVariables false
set_option maxRecDepth 100000
set_option maxHeartbeats 2000000
set_option pp.maxSteps 300
def zg0 (l : List Ru) (i : Nat) : Int := match i with | 0 => 0 | k + 1 => match l[k]? with | some r => r.id | none => 0
theorem zlH (l : List Ru) (f : Bool) (hl : l.length < 2932031007403) (hid : ∀ r ∈ l, -9223372036854775808 ≤ r.id ∧ r.id < 9223372036854775808) : PCalls Tryz.prog 56 [zz l f] (.raw (.bool (zh9 l))) := by
  refine zE Tryz.func56 rfl (N := 39) rfl rfl (by simp) (by simp [noIds]) fun σ => ?_
  have FF := zz.eq_1; refine zx ?_; clear FF
  refine zU (fun n A τ => τ = σ ∧ A 0 = zz l f ∧ ∃ i : Nat, A 3 = .raw (.int .i64 i) ∧ i ≤ l.length ∧ n = l.length - i ∧ zdi 0 l = zdi (zg0 l i) (l.drop i)) l.length ?_ ?_
  · exact ⟨rfl, by simp [zz], 0, by simp, by omega, by omega, by simp [zg0]⟩
  rintro n A τ ⟨rfl, a0, i, a3, hi, rfl, hall⟩ I1 hI1
  by_cases hlt : i < l.length
  · have hx : l[i]? = some l[i] := List.getElem?_eq_getElem hlt
    have w1 : IntKind.i64.wrap ((i : Int) + 1) = ((i + 1 : Nat) : Int) := by rw [zh (by omega) (by omega)]; omega
    have hd : l.drop i = l[i] :: l.drop (i + 1) := List.drop_eq_getElem_cons hlt
    rw [hd] at hall
    simp only [zdi] at hall
    obtain ⟨b, hb⟩ : ∃ b, zd6 l[i] = b := ⟨_, rfl⟩
    have hr := hb ▸ zgV l[i] (hid _ (List.getElem_mem _)).1 (hid _ (List.getElem_mem _)).2
    rw [hb] at hall
    (try ((first | with_reducible refine zo ?_ | with_reducible refine zt ?_ | with_reducible refine zu ?_); simp [zz, a0, a3, hlt, hx, zJ, zbV, zap, w1])); repeat' (first | ((first | refine zf ?_ | refine zg ?_ | refine dN (by decide +kernel) ?_ | (refine za ?_ ?_ <;> (intro hg; simp only [hg])) | fail) <;> simp [zz, a0, a3, hlt, hx, zJ, zbV, zap, w1]) | refine ze ?_ | refine zd ?_ | (refine zA ?_; simp only [zB]; try simp) | ((first | refine zm (by simp) ?_ | refine zv (by simp) (by simp) (by simp (maxDischargeDepth := 30) [zz, a0, a3, hlt, hx, zJ, zbV, zap, w1]) ?_ | fail); simp) | (refine zc (fun hc => ?_) (fun hc => ?_) <;> try simp at hc) | fail)
    refine PCalls.use hr ?_
    cases b with
    | false =>
      have FF := fI zz.eq_1 (fI @a0 (fI @a3 (fI @hlt (fI @hx (fI @zJ (fI @zbV (fI @zap @w1))))))); refine zx ?_; clear FF
      all_goals simp [zh9, hall]
    | true =>
      cases i with
      | zero =>
        have hpos : 1 ≤ l[0].id := by
          have := hb; unfold zd6 at this; simp at this; omega
        have FF := fI zz.eq_1 (fI @a0 (fI @a3 (fI @hlt (fI @hx (fI @zJ (fI @zbV (fI @zap @w1))))))); refine zx ?_; clear FF
        have w0 : IntKind.i64.wrap 1 = 1 := zh (by omega) (by omega)
        have hx0 : l[0]? = some l[0] := hx
        have h0 : (0 : Int) < l[0].id := by omega
        have h1 : zg0 l 1 = l[0].id := by simp [zg0, hx0]
        exact hI1 (l.length - 1) _ _ (by omega) ⟨rfl, by simp [a0, zz], 1, by simp [w0], by omega, rfl, by rw [hall, h1]; simp [zg0, h0]⟩
      | succ k =>
        have hk : k < l.length := by omega
        have hxk : l[k]? = some l[k] := List.getElem?_eq_getElem hk
        have w2 : IntKind.i64.wrap (k : Int) = k := zh (by omega) (by omega)
        have hp0 : (0 : Int) ≤ (k : Int) + 1 := by omega
        have htn : ((k : Int) + 1).toNat = k + 1 := by omega
        have w4 : IntKind.i64.wrap ((k : Int) + 1 + 1) = (k : Int) + 1 + 1 := zh (by omega) (by omega)
        have w3 : IntKind.i64.wrap ((k : Int) + 1 - 1) = k := by rw [zh (by omega) (by omega)]; omega
        have hidk : zg0 l (k + 1) = l[k].id := by simp [zg0, hxk]
        rw [hidk] at hall
        have hpk : (0 : Int) < (k : Int) + 1 := by omega
        by_cases hle : l[k + 1].id ≤ l[k].id
        · have hnl : ¬ l[k].id < l[k + 1].id := by omega
          have FF := fI zz.eq_1 (fI @a0 (fI @a3 (fI @hlt (fI @hx (fI @hk (fI @hxk (fI @zJ (fI @zbV (fI @zap (fI @w1 (fI @w2 (fI @w3 (fI @w4 (fI @hp0 (fI @htn (fI @hpk @hle)))))))))))))))); refine zx ?_; clear FF
          all_goals simp [zh9, hall, hnl]
        · have hg : l[k].id < l[k + 1].id := by omega
          (try ((first | with_reducible refine zo ?_ | with_reducible refine zt ?_ | with_reducible refine zu ?_); simp [zz, a0, a3, hlt, hx, hk, hxk, zJ, zbV, zap, w1, w2, w3, w4, hp0, htn, hpk, hle])); repeat' (first | ((first | refine zf ?_ | refine zg ?_ | refine dN (by decide +kernel) ?_ | (refine za ?_ ?_ <;> (intro hg; simp only [hg])) | fail) <;> simp [zz, a0, a3, hlt, hx, hk, hxk, zJ, zbV, zap, w1, w2, w3, w4, hp0, htn, hpk, hle]) | refine ze ?_ | refine zd ?_ | (refine zA ?_; simp only [zB]; try simp) | ((first | refine zm (by simp) ?_ | refine zv (by simp) (by simp) (by simp (maxDischargeDepth := 30) [zz, a0, a3, hlt, hx, hk, hxk, zJ, zbV, zap, w1, w2, w3, w4, hp0, htn, hpk, hle]) ?_ | fail); simp) | (refine zc (fun hc => ?_) (fun hc => ?_) <;> try simp at hc) | fail)
          exact hI1 (l.length - (k + 1 + 1)) _ _ (by omega) ⟨rfl, by simp [a0, zz], k + 1 + 1, by simp, by omega, rfl, by rw [hall]; simp [zg0, hx, hg]⟩
  · have : i = l.length := by omega
    subst this
    have FF := fI zz.eq_1 (fI @a0 @a3); refine zx ?_; clear FF
    rw [List.drop_length] at hall
    simp only [zdi] at hall
    simp [zh9, hall]
    omega
end Go.Proofs.YtpboabpapgimoaaGreat.Av
namespace Go.Proofs.YtpboabpapgimoaaGreat.Av
open Go
set_option linter.unusedSimpArgs false
set_option linter.unusedVariables false
set_option maxRecDepth 100000
set_option maxHeartbeats 4000000
set_option pp.maxSteps 600
theorem zie (n : Nw) (f : Fl) (hn : NwOK n) : PCalls Tryz.prog 28 [zau n f] (.raw (.bool (zax n))) := by
  have l1 := hn.ports
  have l2 := hn.links
  have l3 := hn.rules
  have h1 := zjF n.t f (by omega) l2
  have h2 := zlH n.rules f.r l3 hn.id
  have h3 := zkC n.t f n.rules f.r (by omega) (by omega)
  rw [← zoF] at h1
  unfold zax
  have htf : ∀ (N : Nw) (F : Fl), AV.agg [zp N.t.ports F.p, zF N.t.links F.l] = zbZ N.t F := fun _ _ => rfl
  generalize ziZ n.t = b1 at h1 ⊢
  generalize zh9 n.rules = b2 at h2 ⊢
  generalize zgc n.t n.rules = b3 at h3 ⊢
  refine zE Tryz.func28 rfl (N := 22) rfl rfl (by simp) (by simp [noIds]) fun σ => ?_
  cases b1 <;> cases b2 <;> (have FF := fI @zs @htf; exact gxA)
def zdC (n : Nw) : Bool := !decide (20 < n.t.ports.length) && (!decide (40 < n.t.links.length) && (!decide (60 < n.rules.length) && zax n))
structure NwW (n : Nw) : Prop where
  rg : ∀ r ∈ n.rules, RgOK r.r
  id : ∀ r ∈ n.rules, -9223372036854775808 ≤ r.id ∧ r.id < 9223372036854775808
theorem NwOK.w {n : Nw} (h : NwOK n) : NwW n := ⟨h.rg, h.id⟩
theorem NwW.small {n : Nw} (h : NwW n) (h1 : ¬ 20 < n.t.ports.length) (h2 : ¬ 40 < n.t.links.length) (h3 : ¬ 60 < n.rules.length) : NwOK n where
  rg := h.rg
  id := h.id
  ports := by omega
  links := by omega
  rules := by omega
theorem NwW.fits {n : Nw} (h : NwW n) (hf : zdC n = true) : NwOK n := by
  unfold zdC at hf
  simp only [Bool.and_eq_true, Bool.not_eq_true', decide_eq_false_iff_not] at hf
  exact h.small hf.1 hf.2.1 hf.2.2.1
theorem zlI (n : Nw) (f : Fl) (hn : NwW n) : PCalls Tryz.prog 8 [zau n f] (.raw (.bool (zdC n))) := by
  have h1 := fun a b c => zie n f (hn.small a b c)
  unfold zdC
  generalize zax n = b1 at h1 ⊢
  have hp : ∀ m, zaK Tryz.prog m 22 (zp n.t.ports f.p) = some (.raw (.int .i64 n.t.ports.length)) := fun m => by simp [zp]
  have hk : ∀ m, zaK Tryz.prog m 23 (zF n.t.links f.l) = some (.raw (.int .i64 n.t.links.length)) := fun m => by simp [zF]
  have hu : ∀ m, zaK Tryz.prog m 26 (zz n.rules f.r) = some (.raw (.int .i64 n.rules.length)) := fun m => by simp [zz]
  generalize n.t.ports.length = x at hp h1 ⊢
  generalize n.t.links.length = y at hk h1 ⊢
  generalize n.rules.length = z at hu h1 ⊢
  refine zE Tryz.func8 rfl (N := 25) rfl rfl (by simp) (by simp [noIds]) fun σ => ?_
  by_cases q1 : 20 < x
  · have q1' : (20 : Int) < (x : Int) := by omega
    (try ((first | with_reducible refine zo ?_ | with_reducible refine zt ?_ | with_reducible refine zu ?_); simp [-cellOK, zs, z9, -zaK, hp, hk, hu, q1, q1'])); repeat' (first | ((first | refine zf ?_ | refine zg ?_ | refine dN (by decide +kernel) ?_ | refine dC (by decide +kernel) ?_ | (refine za ?_ ?_ <;> (intro hg; simp only [hg])) | fail) <;> simp [-cellOK, zs, z9, -zaK, hp, hk, hu, q1, q1']) | refine ze ?_ | refine zd ?_ | (refine zA ?_; simp only [zB]; try simp) | (refine zm (by simp) ?_; simp) | (refine zan (by simp) (by simp [noIds]) (by repeat (first | assumption | exact Ext.refl _ | refine zS ?_ | refine Ext.setF ?_ (by first | assumption | (simp [zk, St.set, zb]; done) | exact zN (by assumption)))) ?_; simp [-cellOK, zs, z9, -zaK, hp, hk, hu, q1, q1', nsE]) | (refine zc (fun hc => ?_) (fun hc => ?_) <;> try simp at hc) | fail)
  have q1' : ¬ (20 : Int) < (x : Int) := by omega
  by_cases q2 : 40 < y
  · have q2' : (40 : Int) < (y : Int) := by omega
    (try ((first | with_reducible refine zo ?_ | with_reducible refine zt ?_ | with_reducible refine zu ?_); simp [-cellOK, zs, z9, -zaK, hp, hk, hu, q1, q1', q2, q2'])); repeat' (first | ((first | refine zf ?_ | refine zg ?_ | refine dN (by decide +kernel) ?_ | refine dC (by decide +kernel) ?_ | (refine za ?_ ?_ <;> (intro hg; simp only [hg])) | fail) <;> simp [-cellOK, zs, z9, -zaK, hp, hk, hu, q1, q1', q2, q2']) | refine ze ?_ | refine zd ?_ | (refine zA ?_; simp only [zB]; try simp) | (refine zm (by simp) ?_; simp) | (refine zan (by simp) (by simp [noIds]) (by repeat (first | assumption | exact Ext.refl _ | refine zS ?_ | refine Ext.setF ?_ (by first | assumption | (simp [zk, St.set, zb]; done) | exact zN (by assumption)))) ?_; simp [-cellOK, zs, z9, -zaK, hp, hk, hu, q1, q1', q2, q2', nsE]) | (refine zc (fun hc => ?_) (fun hc => ?_) <;> try simp at hc) | fail)
  have q2' : ¬ (40 : Int) < (y : Int) := by omega
  by_cases q3 : 60 < z
  · have q3' : (60 : Int) < (z : Int) := by omega
    (try ((first | with_reducible refine zo ?_ | with_reducible refine zt ?_ | with_reducible refine zu ?_); simp [-cellOK, zs, z9, -zaK, hp, hk, hu, q1, q1', q2, q2', q3, q3'])); repeat' (first | ((first | refine zf ?_ | refine zg ?_ | refine dN (by decide +kernel) ?_ | refine dC (by decide +kernel) ?_ | (refine za ?_ ?_ <;> (intro hg; simp only [hg])) | fail) <;> simp [-cellOK, zs, z9, -zaK, hp, hk, hu, q1, q1', q2, q2', q3, q3']) | refine ze ?_ | refine zd ?_ | (refine zA ?_; simp only [zB]; try simp) | (refine zm (by simp) ?_; simp) | (refine zan (by simp) (by simp [noIds]) (by repeat (first | assumption | exact Ext.refl _ | refine zS ?_ | refine Ext.setF ?_ (by first | assumption | (simp [zk, St.set, zb]; done) | exact zN (by assumption)))) ?_; simp [-cellOK, zs, z9, -zaK, hp, hk, hu, q1, q1', q2, q2', q3, q3', nsE]) | (refine zc (fun hc => ?_) (fun hc => ?_) <;> try simp at hc) | fail)
  have q3' : ¬ (60 : Int) < (z : Int) := by omega
  have h1 := h1 q1 q2 q3
  (try ((first | with_reducible refine zo ?_ | with_reducible refine zt ?_ | with_reducible refine zu ?_); simp [-cellOK, zs, z9, -zaK, hp, hk, hu, q1, q1', q2, q2', q3, q3'])); repeat' (first | ((first | refine zf ?_ | refine zg ?_ | refine dN (by decide +kernel) ?_ | refine dC (by decide +kernel) ?_ | refine uP (h1) ?_ | refine .inl ⟨_, .inl (h1), ?_⟩ | (refine za ?_ ?_ <;> (intro hg; simp only [hg])) | fail) <;> simp [-cellOK, zs, z9, -zaK, hp, hk, hu, q1, q1', q2, q2', q3, q3']) | refine ze ?_ | refine zd ?_ | (refine zA ?_; simp only [zB]; try simp) | (refine zm (by simp) ?_; simp) | (refine zan (by simp) (by simp [noIds]) (by repeat (first | assumption | exact Ext.refl _ | refine zS ?_ | refine Ext.setF ?_ (by first | assumption | (simp [zk, St.set, zb]; done) | exact zN (by assumption)))) ?_; simp [-cellOK, zs, z9, -zaK, hp, hk, hu, q1, q1', q2, q2', q3, q3', nsE]) | (refine zc (fun hc => ?_) (fun hc => ?_) <;> try simp at hc) | fail)
def zpV (n m : Nw) (f g : Fl) : AV := .agg ((zau n f).cells ++ (zau m g).cells)
def zwC (n m : Nw) (q : Qy) : Bool := zdC n && (zdC m && decide (q.other.size ≤ 60))
def zct : Nw := ⟨⟨[2, 3, 2], [⟨⟨0, 1⟩, ⟨1, 0⟩⟩, ⟨⟨1, 1⟩, ⟨2, 0⟩⟩]⟩, [⟨1, 0, 0, 0, ⟨0, 99⟩, 1⟩, ⟨2, 1, 0, 0, ⟨0, 49⟩, 1⟩, ⟨3, 1, 0, 0, ⟨50, 59⟩, 0⟩, ⟨4, 2, 0, 0, ⟨0, 29⟩, 1⟩, ⟨5, 2, 0, 3, ⟨20, 24⟩, 0⟩]⟩
def flN : Fl := ⟨false, false, false⟩
theorem zjG : NwOK zct where
  rg := by
    intro r hr
    simp only [zct, List.mem_cons, List.not_mem_nil, or_false] at hr
    rcases hr with rfl | rfl | rfl | rfl | rfl <;> exact ⟨by decide, by decide, by decide, by decide⟩
  ports := by decide
  links := by decide
  rules := by decide
  id := by
    intro r hr
    simp only [zct, List.mem_cons, List.not_mem_nil, or_false] at hr
    rcases hr with rfl | rfl | rfl | rfl | rfl <;> exact ⟨by decide, by decide⟩
theorem zoG : PCalls Tryz.prog 29 [] (zau zct flN) := by
  refine zE Tryz.func29 rfl (N := 26) rfl rfl (by simp) (by simp [noIds]) fun σ => ?_
  have FF := fI @zR (fI @z0 @zk); refine gxC ?_; clear FF
  refine zbg (x := .agg [.rs ⟨3, σ.nx 3, 1⟩ 0 3, .rs ⟨10, σ.nx 10, 4⟩ 0 2, .rs ⟨22, σ.nx 22, 7⟩ 0 5]) (.inr rfl) exA ?_ ?_
  · simp [zR, z0, zk]
  · simp [zZ, zw, zb, zR, z0, zk, zau, zp, zF, zz, zct, flN, iAV, zh4, zah]
def aq1 : Qy := ⟨0, 0, 2, 0, ⟨5, 30⟩, ⟨#[]⟩⟩
def aq2 : Qy := ⟨4, 0, 2, 1, ⟨0, 4294967295⟩, ⟨#[]⟩⟩
def aq3 : Qy := ⟨1, 0, 0, 0, ⟨0, 59⟩, ⟨#[]⟩⟩
end Go.Proofs.YtpboabpapgimoaaGreat.Av
namespace Go.Proofs.YtpboabpapgimoaaGreat.Av
set_option linter.unusedSimpArgs false
set_option linter.unusedVariables false
structure RightQ (n : Nw) (q : Qy) : Prop where
  k0 : 0 ≤ q.kind
  k5 : q.kind ≤ 5
  le : q.r.lo ≤ q.r.hi
  a : 0 ≤ q.a ∧ q.a < n.t.ports.length
  b : 0 ≤ q.b ∧ q.b < n.t.ports.length
  w : 0 ≤ q.w ∧ q.w < n.t.ports.length
  one : zjE q = true ∨ (q.a = 0 ∧ q.b = 0)
  way : q.kind = 4 ∨ q.w = 0
  oth : q.kind = 5 ∨ zmV q = true
theorem zlJ {n : Nw} {d : Int} (h : 0 ≤ d ∧ d < n.t.ports.length) (a : Int) : zQ n d a = (zbk n d a, 0) := by
  unfold zQ
  rw [if_neg (by omega)]
structure RunOK (n m : Nw) (q : Qy) (v : Vd) (M : Nw) : Prop where
  right : RightQ n q
  top : q.kind = 5 → n.t = m.t
  other : M = if q.kind = 5 then m else n
  res : (v = ⟨true, 0, 0, zps⟩ ∧ zkW n M q (zb0 [n, M] q.r) (zid n q) = none) ∨ zkW n M q (zb0 [n, M] q.r) (zid n q) = some v
theorem znD {n : Nw} {d a : Int} (h : (zao n d a).1 = 3) : (zao n d a).2.dev = d := by
  unfold zao at *
  repeat' split at h
  all_goals first | (simp at h; done) | skip
  rename_i h1 h2 h3 h4
  simp [h1, h2, h3, h4]
theorem zlK {n : Nw} {a : Int} : ∀ (f : Nat) (d : Int) (p : List Int), (zbi n a f d p).out = 3 → (zbi n a f d p).last.dev ∈ (zbi n a f d p).path
  | 0, d, p, h => by simp [zbi] at h
  | f + 1, d, p, h => by
    simp only [zbi] at h ⊢
    split
    · rename_i hd; rw [if_pos hd] at h; simp at h
    · rename_i hd
      rw [if_neg hd] at h
      split
      · rename_i hs; rw [if_pos hs] at h; exact zlK f _ _ h
      · rename_i hs
        rw [if_neg hs] at h
        simp only [] at h ⊢
        rw [znD h]; simp
theorem zlL {n : Nw} {d a b : Int} (h : zaY (zbk n d a) b = true) : zbc (zbk n d a) b = true := by
  unfold zaY at h
  simp only [Bool.and_eq_true, decide_eq_true_eq] at h
  have := zlK _ _ _ h.1
  unfold zbc
  rw [List.any_eq_true]
  exact ⟨b, by rw [← h.2]; exact this, by simp⟩
theorem zkl {n : Nw} {a : Int} : ∀ (f : Nat) (d : Int) (p : List Int), ∃ l, (zbi n a (f + 1) d p).path = p ++ d :: l
  | f, d, p => by
    simp only [zbi]
    split
    · exact ⟨[], rfl⟩
    · split
      · cases f with
        | zero => exact ⟨[], by simp [zbi]⟩
        | succ f =>
          obtain ⟨l, hl⟩ := zkl f (zcX n (zao n d a).2) (p ++ [d])
          exact ⟨_, by rw [hl, List.append_assoc]; rfl⟩
      · exact ⟨[], rfl⟩
theorem znE (n : Nw) (d a : Int) : ∃ l, (zbk n d a).path = d :: l := by
  have := zkl (n := n) (a := a) (1 + 2 * n.t.links.length) d []
  unfold zbk
  rw [show 2 + 2 * n.t.links.length = 1 + 2 * n.t.links.length + 1 by omega]
  simpa using this
theorem zdU {l : List Nw} {r p : Rg} (h : p ∈ zb0 l r) : r.lo ≤ p.lo ∧ p.lo ≤ p.hi ∧ p.hi ≤ r.hi := by
  unfold zb0 at h
  split at h
  · simp at h
  · obtain ⟨a, _, b1, b2, b3, b4, b5⟩ := zlG h
    omega
structure Broken (n m : Nw) (q : Qy) (v : Vd) : Prop where
  lo : q.r.lo ≤ v.addr
  hi : v.addr ≤ q.r.hi
  dev : q.kind = 5 → (zQ m v.src v.addr).2 = 0
  gen : zpr n v.addr v.tr = true
  head : ∃ l, v.tr.path = v.src :: l
  brk : zmW q v.tr (zQ m v.src v.addr).1 = true
end Go.Proofs.YtpboabpapgimoaaGreat.Av
namespace Go.Proofs.YtpboabpapgimoaaGreat.Av
open Go
set_option linter.unusedSimpArgs false
set_option linter.unusedVariables false
set_option maxRecDepth 100000
set_option maxHeartbeats 4000000
set_option pp.maxSteps 600
def atI (n : Nw) (d a : Int) : Int := if (zao n d a).1 = 2 then -3 else if (zao n d a).1 = 1 then -2 else if (zao n d a).1 = 0 then -1 else (zao n d a).2.port
def zq7 (n : Nw) (T : Option Tab) (d : Int) : List Int := (List.range (T.getD zP).b.sz.toNat).map fun i : Nat => atI n d ((zge T i).getD ⟨0, 0⟩).lo
end Go.Proofs.YtpboabpapgimoaaGreat.Av
namespace Go.Proofs.YtpboabpapgimoaaGreat.Av
open Go
set_option linter.unusedSimpArgs false
set_option linter.unusedVariables false
set_option maxRecDepth 100000
set_option maxHeartbeats 4000000
set_option pp.maxSteps 600
structure Lab where
  n : Nw
  t : Option Tab
  rows : List (List Int)
def inAV (l : List Int) : AV := zp l false
def zt2 (L : Lab) : List AV := [zp L.n.t.ports false, zF L.n.t.links false, zz L.n.rules false, zaN L.t, .sl 1 (L.rows.map inAV) false]
def labO : Option Lab → AV
  | none => .raw (.pointer none)
  | some L => .pp (zt2 L) 0
def zq8 (l : List Ru) : Option Tab := l.foldl (fun T x => (zfo T x.r).1) (some zP)
def zsL (n : Nw) : Lab := ⟨n, zq8 n.rules, (List.range n.t.ports.length).map fun d : Nat => zq7 n (zq8 n.rules) d⟩
def ofL (n : Nw) : Option Lab × Int := if zax n then (some (zsL n), 0) else (none, 71)
end Go.Proofs.YtpboabpapgimoaaGreat.Av
namespace Go.Proofs.YtpboabpapgimoaaGreat.Av
open Go
set_option linter.unusedSimpArgs false
set_option linter.unusedVariables false
set_option maxRecDepth 100000
set_option maxHeartbeats 4000000
set_option pp.maxSteps 600
def zyV (L : Lab) (d a : Int) : Option Int := if 0 ≤ d ∧ 0 ≤ a then (L.rows[d.toNat]?).bind fun r => r[a.toNat]? else none
end Go.Proofs.YtpboabpapgimoaaGreat.Av
namespace Go.Proofs.YtpboabpapgimoaaGreat.Av
open Go
set_option linter.unusedSimpArgs false
set_option linter.unusedVariables false
set_option maxRecDepth 100000
set_option maxHeartbeats 4000000
set_option pp.maxSteps 600
def zwD (n : Nw) (d a : Int) : Int := if (zgi n d a).1 = 2 then -3 else if (zgi n d a).1 = 1 then -2 else if (zgi n d a).1 = 0 then -1 else (zgi n d a).2.port
end Go.Proofs.YtpboabpapgimoaaGreat.Av
namespace Go.Proofs.YtpboabpapgimoaaGreat.Av
open Go
set_option linter.unusedSimpArgs false
set_option linter.unusedVariables false
set_option maxRecDepth 100000
set_option maxHeartbeats 4000000
set_option pp.maxSteps 600
theorem znF (l : List (Nw × Fl)) (f : Bool) (r : Rg) (hr : RgOK r) (hn : ∀ p ∈ l, NwOK p.1) (hl : l.length < 2 ^ 40) {σ : St} {K : AV → St → Prop}
    (hK : ∀ v τ, OwnL σ τ 2 v ((zb0 (l.map (·.1)) r).map zl) → Ext σ τ → K (.tup [v, .raw (.int .i64 (if r.hi < r.lo then 31 else 0))]) τ) :
    ACalls Tryz.prog 21 [zbt l f, zl r] σ K := by
  refine zaL Tryz.func21 rfl (N := 76) rfl rfl (by simp) ?_
  have hrf : ∀ x y : Int, AV.agg [.raw (.int .u32 x), .raw (.int .u32 y)] = zl ⟨x, y⟩ := fun _ _ => rfl
  have f3 : σ.m ⟨3, σ.nx 3, 2⟩ = none := zb _ _ _
  by_cases q0 : r.hi < r.lo
  · unfold zb0 at hK
    rw [if_pos q0, if_pos q0] at hK
    have FF := fI @rg_cells (fI @hrf @q0); refine gxC ?_; clear FF
    exact zT (x := .tup [.sl 0 [] true, .raw (.int .i64 31)]) (.inr rfl) (by simp) (hK _ _ (.inl ⟨rfl, rfl⟩) exA)
  rw [if_neg q0] at hK
  refine ze ?_
  have C0 := zdy; have FF := fI @rg_cells (fI @hrf @q0); refine gxC ?_; clear FF
  refine zai ⟨3, σ.nx 3, 2⟩ ?_
  generalize hτ : St.del _ _ = τ
  generalize hA : (fun t => zw _ _ _) = A
  have a3 : A 3 = .pp [.raw (.int .u32 r.lo), .raw (.int .u32 r.hi)] 0 := by rw [← hA, ← hτ]; simp [zw, St.new, St.del, rg_cells]
  have a6 : A 6 = zaN (some zP) := by rw [← hA]; simp [zaN, zcM]
  have a21 : A 21 = zbt l f := by rw [← hA]; simp [zbt]
  have a22 : A 22 = .raw (.int .i64 l.length) := by rw [← hA]; simp [zbt]
  have a23 : A 23 = .raw (.int .i64 0) := by rw [← hA]; simp
  have hE : Ext σ τ := by
    rw [← hτ]
    refine ⟨fun i o h => ?_, fun s => ?_⟩
    · rw [zL (fun e => by rw [e, zb] at h; cases h)]
      exact zat _ _ h
    · exact St.new_le σ 3 2 (.buf [zl r]) s
  clear hτ hA
  refine zU (fun n B ρ => Ext σ ρ ∧ B 3 = .pp [.raw (.int .u32 r.lo), .raw (.int .u32 r.hi)] 0 ∧ B 21 = zbt l f ∧ B 22 = .raw (.int .i64 l.length) ∧ ∃ (i : Nat) (T : Option Tab) (s : Option (List Rg)), B 23 = .raw (.int .i64 i) ∧ i ≤ l.length ∧ n = l.length - i ∧ B 6 = zaN T ∧ RepO T s ∧ s = (zaB ((l.take i).map (·.1))).foldl zbX (some [])) l.length ?_ ?_
  · exact ⟨hE, a3, a21, a22, 0, some zP, some [], a23, by omega, by omega, a6, ⟨zjD, by simp⟩, by simp [zaB]⟩
  clear hE a3 a6 a21 a22 a23
  rintro n B ρ ⟨hE, a3, a21, a22, i, T, s, a23, hi, rfl, a6, hrep, hs⟩ I1 hI1
  by_cases hlt : i < l.length
  · have hx : l[i]? = some l[i] := List.getElem?_eq_getElem hlt
    have w1 : IntKind.i64.wrap ((i : Int) + 1) = ((i + 1 : Nat) : Int) := by rw [zh (by omega) (by omega)]; omega
    obtain ⟨nf, hnf⟩ : ∃ nf, l[i] = nf := ⟨_, rfl⟩
    have hok : NwOK nf.1 := hn nf (by rw [← hnf]; exact List.getElem_mem hlt)
    have hsum : zaB ((l.take (i + 1)).map (·.1)) = zaB ((l.take i).map (·.1)) ++ nf.1.rules.map (·.r) := by
      rw [List.take_add_one, hx, hnf]; simp [zaB]
    obtain ⟨N, fl⟩ := nf
    have hrl : N.rules.length < 2932031007403 := hok.rules
    have hnn : zau N fl = .agg [zp N.t.ports fl.p, zF N.t.links fl.l, zz N.rules fl.r] := rfl
    have hnp : ∀ z : AV, z.cells.length = 3 → setPart (AV.agg [.sl 0 [] true, .sl 0 [] true, .sl 0 [] true]) 0 z.cells = .agg z.cells := fun z hz => by
      obtain ⟨a, b, c, h⟩ : ∃ a b c, z.cells = [a, b, c] := by
        match hh : z.cells with
        | [a, b, c] => exact ⟨a, b, c, rfl⟩
        | [] => rw [hh] at hz; cases hz
        | [_] => rw [hh] at hz; cases hz
        | [_, _] => rw [hh] at hz; cases hz
        | _ :: _ :: _ :: _ :: _ => rw [hh] at hz; simp at hz
      rw [h]; rfl
    have FF := fI @a3 (fI @a6 (fI @a21 (fI @a22 (fI @a23 (fI zbt.eq_1 (fI @hlt (fI @hx (fI @hnf (fI @hnn @zs))))))))); refine gxB ?_; clear FF
    refine zU (fun n C τ => Ext σ τ ∧ C 3 = .pp [.raw (.int .u32 r.lo), .raw (.int .u32 r.hi)] 0 ∧ C 21 = zbt l f ∧ C 22 = .raw (.int .i64 l.length) ∧ C 23 = .raw (.int .i64 i) ∧ C 28 = zz N.rules fl.r ∧ C 29 = .raw (.int .i64 N.rules.length) ∧ ∃ (j : Nat) (T : Option Tab) (s' : Option (List Rg)), C 30 = .raw (.int .i64 j) ∧ j ≤ N.rules.length ∧ n = N.rules.length - j ∧ C 6 = zaN T ∧ RepO T s' ∧ s' = ((N.rules.take j).map (·.r)).foldl zbX s) N.rules.length ?_ ?_
    · exact ⟨exA, by simp [a3], by simp [a21, zbt], by simp [a22], by simp [a23], by simp [zz], by simp [zz], 0, T, s, by simp, by omega, by omega, by simp [a6], hrep, by simp⟩
    clear hE a3 a6 a21 a22 a23 hrep
    rintro n C τ ⟨hE, a3, a21, a22, a23, a28, a29, j, T, s', a30, hj, rfl, a6, hrep, hs'⟩ J1 hJ1
    by_cases hjl : j < N.rules.length
    · have hxj : N.rules[j]? = some N.rules[j] := List.getElem?_eq_getElem hjl
      have w2 : IntKind.i64.wrap ((j : Int) + 1) = ((j + 1 : Nat) : Int) := by rw [zh (by omega) (by omega)]; omega
      have hrk := hok.rg _ (List.getElem_mem hjl)
      have hst : ((N.rules.take (j + 1)).map (·.r)).foldl zbX s = zbX s' N.rules[j].r := by
        rw [List.take_add_one, hxj, List.map_append, List.foldl_append, ← hs']; rfl
      obtain ⟨x, hxe⟩ : ∃ x, N.rules[j] = x := ⟨_, rfl⟩
      rw [hxe] at hrk hst
      obtain ⟨g1, g2⟩ := hrep.step hrk
      have hadd := zke T x.r g1
      have hxr : AV.agg [.raw (.int .u32 x.r.lo), .raw (.int .u32 x.r.hi)] = zl x.r := rfl
      generalize (zfo T x.r).1 = T' at hadd g2
      generalize (zfo T x.r).2 = e' at hadd
      have FF := fI @a3 (fI @a6 (fI @a21 (fI @a22 (fI @a23 (fI @a28 (fI @a29 (fI @a30 (fI zz.eq_1 (fI @hjl (fI @hxj (fI @hxe (fI @zJ (fI @hxr @w2))))))))))))); refine gxB ?_; clear FF
      refine hJ1 (N.rules.length - (j + 1)) _ _ (by omega) ⟨exA, by simp [a3], by simp [a21], by simp [a22], by simp [a23], by simp [a28], by simp [a29], j + 1, T', zbX s' x.r, by simp, by omega, rfl, by simp, g2, hst.symm⟩
    · have : j = N.rules.length := by omega
      subst this
      rw [List.take_length] at hs'
      have FF := fI @a3 (fI @a6 (fI @a21 (fI @a22 (fI @a23 (fI @a28 (fI @a29 (fI @a30 @w1))))))); refine gxB ?_; clear FF
      refine hI1 (l.length - (i + 1)) _ _ (by omega) ⟨hE, by simp [a3], by simp [a21], by simp [a22], i + 1, T, s', by simp, by omega, rfl, by simp [a6], hrep, ?_⟩
      rw [hsum, List.foldl_append, ← hs, hs']
  · have : i = l.length := by omega
    subst this
    rw [List.take_length] at hs
    have hL : zdB (zaB (l.map (·.1))) = s.getD [] := by rw [hs]; rfl
    obtain ⟨hrp, hsl⟩ := hrep.get
    unfold zb0 at hK
    rw [if_neg q0, hL] at hK
    clear hs hL hI1 hrep
    generalize s.getD [] = L at hrp hsl hK
    obtain ⟨r0, r1, r2, r3⟩ := hr
    have hcc := zby L
    have hcl : (zaG L).length ≤ 1 + 2 * L.length := by
      have := zdR (m := 0 :: zcc L) (hcc.srt.imp fun h => by omega) fun x hx => by
        rw [List.mem_cons]; simp only [zcc, List.mem_flatMap]; exact (hcc.mem x).1 hx
      have := zfc L
      simp only [List.length_cons] at *
      omega
    have hbz : (T.getD zP).b.sz < 2 ^ 40 := by rw [zmS hrp]; omega
    have k1 := hcc.pos (a := r.lo) r0
    have k2 := hcc.pos (a := r.hi) r2
    obtain ⟨p, hp⟩ : ∃ p, (zaG L).countP (fun y => decide (y ≤ r.lo)) = p + 1 := ⟨_, (Nat.succ_pred_eq_of_pos k1).symm⟩
    obtain ⟨q, hq⟩ : ∃ p, (zaG L).countP (fun y => decide (y ≤ r.hi)) = p + 1 := ⟨_, (Nat.succ_pred_eq_of_pos k2).symm⟩
    obtain ⟨hpq, hqA, hcut⟩ := zgZ hcc ⟨r0, r1, r2, r3⟩ (by omega) hp hq
    have ho1 := zd7 T r.lo r0 r1 hbz
    have ho2 := zd7 T r.hi r2 r3 hbz
    rw [zi4 hrp, hp, show (((p + 1 : Nat) : Int) - 1) = (p : Int) by omega] at ho1
    rw [zi4 hrp, hq, show (((q + 1 : Nat) : Int) - 1) = (q : Int) by omega] at ho2
    rw [hcut] at hK
    have hA := zcW (zaG L)
    have hat := fun i => zlF hrp i
    generalize zaE (zaG L) = Al at *
    generalize zaG L = c at *
    obtain ⟨G, hG⟩ : ∃ G : Nat → Rg, G = fun k => ⟨max (Al.getD (p + k) ⟨0, 0⟩).lo r.lo, min (Al.getD (p + k) ⟨0, 0⟩).hi r.hi⟩ := ⟨_, rfl⟩
    rw [← hG] at hK
    have FF := fI @a3 (fI @a6 (fI @a21 (fI @a22 @a23))); refine gxB ?_; clear FF
    refine zU (fun n B ρ => Ext σ ρ ∧ B 3 = .pp [.raw (.int .u32 r.lo), .raw (.int .u32 r.hi)] 0 ∧ B 6 = zaN T ∧ ∃ (j : Nat) (k : Int) (v : AV), B 12 = .raw (.int .i64 k) ∧ k = (p + j : Nat) ∧ j ≤ q + 1 - p ∧ n = q + 1 - p - j ∧ B 11 = v ∧ OwnL σ ρ 2 v (((List.range j).map G).map zl)) (q + 1 - p) ?_ ?_
    · exact ⟨hE, by simp [a3], by simp [a6], 0, p, .sl 0 [] true, by simp, by omega, by omega, by omega, by simp, .inl ⟨by simp, rfl⟩⟩
    clear hE a3 a6 a21 a22 a23
    rintro n B ρ ⟨hE, a3, a6, j, k, v, a12, hk, hj, rfl, a11, hO⟩ I1 hI1
    by_cases hjl : j < q + 1 - p
    · have hxa : Al[p + j]? = some Al[p + j] := List.getElem?_eq_getElem (by omega)
      have w1 : IntKind.i64.wrap (k + 1) = k + 1 := zh (by omega) (by omega)
      have hac := zi2 T k hbz
      rw [hat, if_pos (by omega), show k.toNat = p + j by omega, hxa] at hac
      have hGj : G j = ⟨max Al[p + j].lo r.lo, min Al[p + j].hi r.hi⟩ := by
        rw [hG]; simp only [List.getD_eq_getElem?_getD, hxa, Option.getD_some]
      simp only [Option.getD_some, Option.isSome_some] at hac
      generalize Al[p + j] = a at hac hGj
      have m1 : (if a.lo < r.lo then r.lo else a.lo) = (G j).lo := by rw [hGj]; simp only []; rw [Int.max_def]; split <;> split <;> omega
      have m2 : (if r.hi < a.hi then r.hi else a.hi) = (G j).hi := by rw [hGj]; simp only []; rw [Int.min_def]; split <;> split <;> omega
      have hle : k ≤ (q : Int) := by omega
      have hrq : ∀ x y : Int, setPart (zl ⟨0, 0⟩) 0 [.raw (.int .u32 x), .raw (.int .u32 y)] = zl ⟨x, y⟩ := fun _ _ => rfl
      (try ((first | with_reducible refine zo ?_ | with_reducible refine zt ?_ | with_reducible refine zu ?_); simp [-cellOK, a3, a6, a11, a12, hle, rg_cells, m1, m2, hrf, hrq, w1, -zC])); repeat' (first | ((first | refine zf ?_ | refine zg ?_ | refine dN (by decide +kernel) ?_ | refine dC (by decide +kernel) ?_ | refine uP (ho2) ?_ | refine .inl ⟨_, .inl (ho2), ?_⟩ | refine uP (hac) ?_ | refine .inl ⟨_, .inl (hac), ?_⟩ | (refine za ?_ ?_ <;> (intro hg; simp only [hg])) | fail) <;> simp [-cellOK, a3, a6, a11, a12, hle, rg_cells, m1, m2, hrf, hrq, w1, -zC]) | refine ze ?_ | refine zd ?_ | (refine zA ?_; simp only [zB]; try simp) | (refine zm (by simp) ?_; simp) | (refine zan (by simp) (by simp [noIds]) (by repeat (first | assumption | exact Ext.refl _ | refine zS ?_ | refine Ext.setF ?_ (by first | assumption | (simp [zk, St.set, zb]; done) | exact zN (by assumption)))) ?_; simp [-cellOK, a3, a6, a11, a12, hle, rg_cells, m1, m2, hrf, hrq, w1, -zC, nsE]) | (refine zc (fun hc => ?_) (fun hc => ?_) <;> try simp at hc) | fail)
      refine za2 zf9 (σ0 := σ) (hO.ext exA) exA (ys := [zl ⟨(G j).lo, (G j).hi⟩]) (by simp [zR, zk]) (.inr rfl) (by simp [rg_cells]) (by simp; omega) ?_
      intro v' τ' hO' hE' _ _
      have FF := fI @a3 (fI @a6 (fI @a12 @w1)); refine gxB ?_; clear FF
      refine hI1 (q + 1 - p - (j + 1)) _ _ (by omega) ⟨hE', by simp [a3], by simp [a6], j + 1, k + 1, v', by simp, by omega, by omega, rfl, by simp, ?_⟩
      rw [List.range_succ, List.map_append, List.map_append]
      exact hO'
    · have hje : j = q + 1 - p := by omega
      subst hje
      have hle : ¬ k ≤ (q : Int) := by omega
      have FF := fI @a3 (fI @a6 (fI @a11 (fI @a12 @hle))); refine gxC ?_; clear FF
      exact zT (x := .tup [v, .raw (.int .i64 0)]) (.inr rfl) (by simp) (hK v _ hO hE)
theorem zhK : PCalls Tryz.prog 31 [] (zl ⟨0, 4294967295⟩) := by
  refine zE Tryz.func31 rfl (N := 2) rfl rfl (by simp) (by simp [noIds]) fun σ => ?_
  have FF := fI @zR (fI @z0 @zk); refine gxB ?_; clear FF
  rfl
theorem zlM (n : Nw) (f : Fl) (d : Int) : PCalls Tryz.prog 59 [.raw (.int .i64 d), .pp (zau n f).cells 0] (.raw (.bool (zaC n d))) := by
  refine zE Tryz.func59 rfl (N := 14) rfl rfl (by simp) (by simp [noIds]) fun σ => ?_
  unfold zaC
  by_cases h1 : d < 0
  · have h1' := eq_true h1
    (try ((first | with_reducible refine zo ?_ | with_reducible refine zt ?_ | with_reducible refine zu ?_); simp [-cellOK, zs, zp, h1'])); repeat' (first | ((first | refine zf ?_ | refine zg ?_ | refine dN (by decide +kernel) ?_ | refine dC (by decide +kernel) ?_ | (refine za ?_ ?_ <;> (intro hg; simp only [hg])) | fail) <;> simp [-cellOK, zs, zp, h1']) | refine ze ?_ | refine zd ?_ | (refine zA ?_; simp only [zB]; try simp) | (refine zm (by simp) ?_; simp) | (refine zan (by simp) (by simp [noIds]) (by repeat (first | assumption | exact Ext.refl _ | refine zS ?_ | refine Ext.setF ?_ (by first | assumption | (simp [zk, St.set, zb]; done) | exact zN (by assumption)))) ?_; simp [-cellOK, zs, zp, h1', nsE]) | (refine zc (fun hc => ?_) (fun hc => ?_) <;> try simp at hc) | fail)
  · have h1' := eq_false h1
    (try ((first | with_reducible refine zo ?_ | with_reducible refine zt ?_ | with_reducible refine zu ?_); simp [-cellOK, zs, zp, h1'])); repeat' (first | ((first | refine zf ?_ | refine zg ?_ | refine dN (by decide +kernel) ?_ | refine dC (by decide +kernel) ?_ | (refine za ?_ ?_ <;> (intro hg; simp only [hg])) | fail) <;> simp [-cellOK, zs, zp, h1']) | refine ze ?_ | refine zd ?_ | (refine zA ?_; simp only [zB]; try simp) | (refine zm (by simp) ?_; simp) | (refine zan (by simp) (by simp [noIds]) (by repeat (first | assumption | exact Ext.refl _ | refine zS ?_ | refine Ext.setF ?_ (by first | assumption | (simp [zk, St.set, zb]; done) | exact zN (by assumption)))) ?_; simp [-cellOK, zs, zp, h1', nsE]) | (refine zc (fun hc => ?_) (fun hc => ?_) <;> try simp at hc) | fail)
end Go.Proofs.YtpboabpapgimoaaGreat.Av
namespace Go.Proofs.YtpboabpapgimoaaGreat.Av.Zn
open Go
set_option linter.unusedSimpArgs false
set_option linter.unusedVariables false
set_option maxRecDepth 100000
attribute [ext] Rg
def zAV (z : List Rg) (full : Bool) : AV := .sl 2 (z.map zl) full
theorem same_calls (x y : List Rg) (fx fy : Bool) (hlx : x.length < 2 ^ 60) : PCalls Tryz.prog 12 [zAV x fx, zAV y fy] (.raw (.bool (decide (x = y)))) := by
  refine zE Tryz.func12 rfl (N := 26) rfl rfl (by simp) (by simp [noIds, AV.ids]) fun σ => ?_
  refine ze ?_
  refine zg ?_
  simp
  refine ze ?_
  refine ze ?_
  refine zg ?_
  simp [zAV]
  refine zcq ?_
  simp
  constructor
  · intro hne
    refine ze ?_
    refine zg ?_
    simp
    refine zeC ?_
    simp
    refine zm (.inr rfl) ?_
    simp
    rintro rfl; exact hne rfl
  intro hlen
  have hlen : x.length = y.length := by omega
  refine zdK ?_
  simp
  refine ze ?_
  refine ze ?_
  refine zg ?_
  simp
  refine zd ?_
  refine zav (fun n A σ' => σ' = σ ∧ A 0 = zAV x fx ∧ A 1 = zAV y fy ∧ ∃ i : Nat, A 5 = .raw (.int .i64 i) ∧ i ≤ x.length ∧ n = x.length - i ∧ x.take i = y.take i) x.length ?_ ?_
  · simp [zAV]; exact ⟨0, by simp⟩
  rintro n A σ' ⟨rfl, h0, h1, i, h5, hi, rfl, htk⟩
  refine ze ?_
  refine ze ?_
  refine zg ?_
  simp [h0, h1, h5, zAV]
  refine zcq ?_
  simp
  constructor
  · intro hlt
    refine zdK ?_
    simp
    refine ze ?_
    refine zd ?_
    refine ze ?_
    have hx : x[i]? = some x[i] := List.getElem?_eq_getElem (by omega)
    have hy : y[i]? = some (y[i]'(by omega)) := List.getElem?_eq_getElem (by omega)
    refine zbL (fun _ => false) zdw (by decide +kernel) ?_
    simp [h0, h1, h5, zAV, hx, hy, zl]
    refine zcq ?_
    simp
    constructor
    · intro hne
      refine ze ?_
      refine zg ?_
      simp
      refine zeC ?_
      simp
      refine zm (.inr rfl) ?_
      simp
      rintro rfl
      simp at hne
    · intro h6 h7
      refine zdK ?_
      simp
      refine zg ?_
      simp [h5, h0, h1]
      refine ⟨x.length - (i + 1), by omega, i + 1, ?_, by omega, rfl, ?_⟩
      · rw [zh (by omega) (by omega)]; simp
      · rw [List.take_add_one, List.take_add_one, htk, hx, hy, Rg.ext h6 h7]
  · intro hge
    refine zfX ?_
    simp
    refine ze ?_
    refine zg ?_
    simp
    refine zeC ?_
    refine zm (.inr rfl) ?_
    simp
    have : i = x.length := by omega
    subst this
    rw [List.take_length, hlen, List.take_length] at htk
    exact htk
end Go.Proofs.YtpboabpapgimoaaGreat.Av.Zn
namespace Go.Proofs.YtpboabpapgimoaaGreat.Av.Zn
open Go
set_option linter.unusedSimpArgs false
set_option linter.unusedVariables false
set_option maxRecDepth 100000
set_option pp.maxSteps 300
def _root_.Go.Proofs.YtpboabpapgimoaaGreat.Av.Rg.In (r : Rg) : Prop := 0 ≤ r.lo ∧ r.lo < 4294967296 ∧ 0 ≤ r.hi ∧ r.hi < 4294967296
def InZ (z : List Rg) : Prop := ∀ r ∈ z, r.In
def zgk (z : List Rg) (i : Nat) : Bool :=
  match z[i]? with
  | some r => decide (r.lo ≤ r.hi) && (i == 0 || match z[i - 1]? with | some p => decide (p.hi + 1 < r.lo) | none => true)
  | none => true
def zfG (z : List Rg) : Bool := (List.range z.length).all (zgk z)
theorem zg1 {z : List Rg} {i : Nat} (h : i < z.length) (h2 : zgk z i = false) : zfG z = false := by
  unfold zfG
  rw [List.all_eq_false]
  exact ⟨i, by simpa using h, by simp [h2]⟩
theorem zhL {z : List Rg} (h : ∀ i, i < z.length → zgk z i = true) : zfG z = true := by
  unfold zfG
  rw [List.all_eq_true]
  intro i hi
  exact h i (by simpa using hi)
end Go.Proofs.YtpboabpapgimoaaGreat.Av.Zn
namespace Go.Proofs.YtpboabpapgimoaaGreat.Av.Zn
open Go
set_option linter.unusedSimpArgs false
set_option linter.unusedVariables false
set_option maxRecDepth 100000
set_option pp.maxSteps 300
def zcm (z : List Rg) (i : Nat) : Int := match i with | 0 => -2 | k + 1 => match z[k]? with | some r => r.hi | none => -2
theorem zlN {z : List Rg} {i : Nat} {r : Rg} (hx : z[i]? = some r) (hz : InZ z) (h : r.hi < r.lo ∨ r.lo ≤ zcm z i + 1) : zgk z i = false := by
  simp only [zgk, hx]
  rcases h with h | h
  · have : ¬ r.lo ≤ r.hi := by omega
    simp [this]
  · cases i with
    | zero => simp only [zcm] at h; have := (hz r (List.mem_of_getElem? hx)).1; omega
    | succ k =>
      simp only [zcm] at h
      cases hk : z[k]? with
      | none =>
        have h1 := List.getElem?_eq_none_iff.1 hk
        have h2 := (List.getElem?_eq_some_iff.1 hx).1
        omega
      | some p =>
        rw [hk] at h
        simp only [] at h
        have : ¬ p.hi + 1 < r.lo := by omega
        simp [hk, this]
theorem zoH {z : List Rg} {i : Nat} {r : Rg} (hx : z[i]? = some r) (h1 : r.lo ≤ r.hi) (h2 : zcm z i + 1 < r.lo) : zgk z i = true := by
  simp only [zgk, hx]
  cases i with
  | zero => simp [h1]
  | succ k =>
    simp only [zcm] at h2
    cases hk : z[k]? with
    | none => simp [h1, hk]
    | some p => rw [hk] at h2; simp [h1, hk, h2]
theorem right_calls (z : List Rg) (fz : Bool) (hz : InZ z) (hl : z.length < 2 ^ 60) : PCalls Tryz.prog 17 [zAV z fz] (.raw (.bool (zfG z))) := by
  refine zE Tryz.func17 rfl (N := 29) rfl rfl (by simp) (by simp [noIds]) fun σ => ?_
  have FF := zAV.eq_1; refine zx ?_; clear FF
  refine zav (fun n A τ => Ext σ τ ∧ A 6 = zAV z fz ∧ A 7 = .raw (.int .i64 z.length) ∧ ∃ i : Nat, A 8 = .raw (.int .i64 i) ∧ A 3 = .raw (.int .i64 (zcm z i)) ∧ i ≤ z.length ∧ n = z.length - i ∧ ∀ j, j < i → zgk z j = true) z.length ?_ ?_
  · simp [zAV]
    exact ⟨0, by simp [zcm]⟩
  rintro n A τ ⟨hE, a6, a7, i, a8, a3, hi, rfl, hok⟩
  by_cases hlt : i < z.length
  · have hx : z[i]? = some z[i] := List.getElem?_eq_getElem (by omega)
    obtain ⟨i1, i2, i3, i4⟩ := hz z[i] (List.getElem_mem _)
    have w1 : IntKind.i64.wrap z[i].lo = z[i].lo := zh (by omega) (by omega)
    have w6 : IntKind.i64.wrap z[i].hi = z[i].hi := zh (by omega) (by omega)
    have hb : -2 ≤ zcm z i ∧ zcm z i < 4294967296 := by
      unfold zcm
      split
      · omega
      · rename_i k
        have hk : k < z.length := by omega
        rw [List.getElem?_eq_getElem hk]
        obtain ⟨_, _, q1, q2⟩ := hz z[k] (List.getElem_mem _)
        simp only []
        omega
    have w2 : IntKind.i64.wrap (zcm z i + 1) = zcm z i + 1 := zh (by omega) (by omega)
    have w3 : IntKind.i64.wrap ((i : Int) + 1) = (i : Int) + 1 := zh (by omega) (by omega)
    (try ((first | with_reducible refine zo ?_ | with_reducible refine zt ?_ | with_reducible refine zu ?_); simp [a6, a7, a8, a3, zAV, hlt, hx, zl, w1, w2, w6, hE])); repeat' (first | ((first | refine zf ?_ | refine zg ?_ | refine dN (by decide +kernel) ?_ | (refine za ?_ ?_ <;> (intro hg; simp only [hg])) | fail) <;> simp [a6, a7, a8, a3, zAV, hlt, hx, zl, w1, w2, w6, hE]) | refine ze ?_ | refine zd ?_ | (refine zA ?_; simp only [zB]; try simp) | ((first | refine zm (by simp) ?_ | refine zv (by simp) (by simp) (by simp (maxDischargeDepth := 30) [a6, a7, a8, a3, zAV, hlt, hx, zl, w1, w2, w6, hE]) ?_ | fail); simp) | (refine zc (fun hc => ?_) (fun hc => ?_) <;> try simp at hc) | fail)
    · exact zg1 hlt (zlN hx hz (.inr hc))
    · rw [w3]
      refine ⟨z.length - (i + 1), by omega, i + 1, by simp, by simp [zcm, hx], by omega, rfl, fun j hj => ?_⟩
      by_cases e : j = i
      · rw [e]; exact zoH hx (by simpa using hg) hc
      · exact hok j (by omega)
    · exact zg1 hlt (zlN hx hz (.inl (by simpa using hg)))
  · have FF := fI @a6 (fI @a7 (fI @a8 (fI @a3 (fI zAV.eq_1 (fI @hlt @hE))))); refine zx ?_; clear FF
    exact zhL fun j hj => hok j (by omega)
def zwE (z : List Rg) : AV := match z with | [] => .tup [.raw (.int .u32 0), .raw (.bool false)] | r :: _ => .tup [.raw (.int .u32 r.lo), .raw (.bool true)]
def hasB (z : List Rg) (a : Int) : Bool := z.any fun r => decide (r.lo ≤ a) && decide (a ≤ r.hi)
theorem zoI {z : List Rg} {a : Int} {i : Nat} {r : Rg} (hx : z[i]? = some r) (h1 : r.lo ≤ a) (h2 : a ≤ r.hi) : hasB z a = true := by
  unfold hasB
  rw [List.any_eq_true]
  exact ⟨r, List.mem_of_getElem? hx, by simp [h1, h2]⟩
theorem zkm {z : List Rg} {a : Int} {i : Nat} {r : Rg} (hx : z[i]? = some r) : hasB (z.take (i + 1)) a = (hasB (z.take i) a || (decide (r.lo ≤ a) && decide (a ≤ r.hi))) := by
  rw [List.take_add_one, hx]; simp [hasB]
theorem refHas_calls (z : List Rg) (fz : Bool) (a : Int) (hl : z.length < 2 ^ 60) : PCalls Tryz.prog 27 [zAV z fz, .raw (.int .u32 a)] (.raw (.bool (hasB z a))) := by
  refine zE Tryz.func27 rfl (N := 28) rfl rfl (by simp) (by simp [noIds]) fun σ => ?_
  have FF := zAV.eq_1; refine zx ?_; clear FF
  refine zav (fun n A τ => τ = σ ∧ A 0 = zAV z fz ∧ A 1 = .raw (.int .u32 a) ∧ ∃ i : Nat, A 5 = .raw (.int .i64 i) ∧ i ≤ z.length ∧ n = z.length - i ∧ hasB (z.take i) a = false) z.length ?_ ?_
  · simp [zAV]
    exact ⟨0, by simp [hasB]⟩
  rintro n A τ ⟨rfl, a0, a1, i, a3, hi, rfl, hno⟩
  by_cases hlt : i < z.length
  · have hx : z[i]? = some z[i] := List.getElem?_eq_getElem (by omega)
    have w3 : IntKind.i64.wrap ((i : Int) + 1) = (i : Int) + 1 := zh (by omega) (by omega)
    (try ((first | with_reducible refine zo ?_ | with_reducible refine zt ?_ | with_reducible refine zu ?_); simp [a0, a1, a3, zAV, hlt, hx, zl])); repeat' (first | ((first | refine zf ?_ | refine zg ?_ | refine dN (by decide +kernel) ?_ | (refine za ?_ ?_ <;> (intro hg; simp only [hg])) | fail) <;> simp [a0, a1, a3, zAV, hlt, hx, zl]) | refine ze ?_ | refine zd ?_ | (refine zA ?_; simp only [zB]; try simp) | ((first | refine zm (by simp) ?_ | refine zv (by simp) (by simp) (by simp (maxDischargeDepth := 30) [a0, a1, a3, zAV, hlt, hx, zl]) ?_ | fail); simp) | (refine zc (fun hc => ?_) (fun hc => ?_) <;> try simp at hc) | fail)
    · exact zoI hx (by simpa using hg) hc
    · rw [w3]
      refine ⟨z.length - (i + 1), by omega, i + 1, by simp, by omega, rfl, ?_⟩
      rw [zkm hx, hno]
      have : ¬ a ≤ z[i].hi := by omega
      simp [this]
    · rw [w3]
      refine ⟨z.length - (i + 1), by omega, i + 1, by simp, by omega, rfl, ?_⟩
      rw [zkm hx, hno]
      have : ¬ z[i].lo ≤ a := by simpa using hg
      simp [this]
  · have FF := fI @a0 (fI @a1 (fI @a3 (fI zAV.eq_1 @hlt))); refine zx ?_; clear FF
    have : i = z.length := by omega
    rw [this, List.take_length] at hno
    exact hno
def countZ (z : List Rg) : Int := (z.map fun r => r.hi - r.lo + 1).sum
theorem countZ_step {z : List Rg} {i : Nat} {r : Rg} (hx : z[i]? = some r) : countZ (z.take (i + 1)) = countZ (z.take i) + (r.hi - r.lo + 1) := by
  rw [List.take_add_one, hx]; simp [countZ]
theorem countZ_bound {z : List Rg} (hz : InZ z) (ho : ∀ r ∈ z, r.lo ≤ r.hi) : 0 ≤ countZ z ∧ countZ z ≤ 4294967296 * z.length := by
  induction z with
  | nil => simp [countZ]
  | cons r z ih =>
    obtain ⟨h1, h2⟩ := ih (fun x hx => hz x (by simp [hx])) (fun x hx => ho x (by simp [hx]))
    obtain ⟨a, b, c, d⟩ := hz r (by simp)
    have e := ho r (by simp)
    have : countZ (r :: z) = (r.hi - r.lo + 1) + countZ z := by simp [countZ]
    rw [this]
    simp only [List.length_cons]
    omega
theorem zht {z : List Rg} (hz : InZ z) (ho : ∀ r ∈ z, r.lo ≤ r.hi) (i : Nat) (hl : z.length ≤ 2 ^ 20) : 0 ≤ countZ (z.take i) ∧ countZ (z.take i) ≤ 4294967296 * 2 ^ 20 := by
  have := countZ_bound (z := z.take i) (fun r h => hz r (List.mem_of_mem_take h)) (fun r h => ho r (List.mem_of_mem_take h))
  have h2 : (z.take i).length ≤ 2 ^ 20 := by simp; omega
  omega
theorem refCount_calls (z : List Rg) (fz : Bool) (hz : InZ z) (ho : ∀ r ∈ z, r.lo ≤ r.hi) (hl : z.length ≤ 2 ^ 20) : PCalls Tryz.prog 18 [zAV z fz] (.raw (.int .u64 (countZ z))) := by
  refine zE Tryz.func18 rfl (N := 28) rfl rfl (by simp) (by simp [noIds]) fun σ => ?_
  have FF := zAV.eq_1; refine zx ?_; clear FF
  refine zav (fun n A τ => τ = σ ∧ A 0 = zAV z fz ∧ ∃ i : Nat, A 4 = .raw (.int .i64 i) ∧ A 3 = .raw (.int .u64 (countZ (z.take i))) ∧ i ≤ z.length ∧ n = z.length - i) z.length ?_ ?_
  · simp [zAV]
    exact ⟨0, by simp [countZ]⟩
  rintro n A τ ⟨rfl, a0, i, a4, a3, hi, rfl⟩
  by_cases hlt : i < z.length
  · have hx : z[i]? = some z[i] := List.getElem?_eq_getElem (by omega)
    obtain ⟨i1, i2, i3, i4⟩ := hz z[i] (List.getElem_mem _)
    have i5 := ho z[i] (List.getElem_mem _)
    have hb := zht hz ho i hl
    have w3 : IntKind.i64.wrap ((i : Int) + 1) = (i : Int) + 1 := zh (by omega) (by omega)
    have w1 : IntKind.u64.wrap z[i].lo = z[i].lo := zas (by omega) (by omega)
    have w2 : IntKind.u64.wrap z[i].hi = z[i].hi := zas (by omega) (by omega)
    have w4 : IntKind.u64.wrap (countZ (z.take i) + z[i].hi) = countZ (z.take i) + z[i].hi := zas (by omega) (by omega)
    have w5 : IntKind.u64.wrap (countZ (z.take i) + z[i].hi - z[i].lo) = countZ (z.take i) + z[i].hi - z[i].lo := zas (by omega) (by omega)
    have w6 : IntKind.u64.wrap (countZ (z.take i) + z[i].hi - z[i].lo + 1) = countZ (z.take i) + z[i].hi - z[i].lo + 1 := zas (by omega) (by omega)
    have FF := fI @a0 (fI @a4 (fI @a3 (fI zAV.eq_1 (fI @hlt (fI @hx (fI zl.eq_1 (fI @w1 (fI @w2 (fI @w4 (fI @w5 (fI @w6 @w3))))))))))); refine zx ?_; clear FF
    refine ⟨z.length - (i + 1), by omega, i + 1, by simp, ?_, by omega, rfl⟩
    rw [countZ_step hx]; omega
  · have FF := fI @a0 (fI @a4 (fI @a3 (fI zAV.eq_1 @hlt))); refine zx ?_; clear FF
    have : i = z.length := by omega
    rw [this, List.take_length]
end Go.Proofs.YtpboabpapgimoaaGreat.Av.Zn
namespace Go.Proofs.YtpboabpapgimoaaGreat.Av.Zn
open Go
set_option linter.unusedSimpArgs false
set_option linter.unusedVariables false
set_option maxRecDepth 100000
set_option pp.maxSteps 300
theorem isNaN_calls (k : IntKind) (a : Int) : PCalls Tryz.prog 91 [.raw (.int k a)] (.raw (.bool false)) := by
  refine zE Tryz.func91 rfl (N := 6) rfl rfl (by simp) (by simp [noIds]) fun σ => ?_
  exact zga
def cmpI (a b : Int) : Int := if a < b then -1 else if b < a then 1 else 0
theorem compare_calls (k : IntKind) (a b : Int) : PCalls Tryz.prog 65 [.raw (.int k a), .raw (.int k b)] (.raw (.int .i64 (cmpI a b))) := by
  refine zE Tryz.func65 rfl (N := 20) rfl rfl (by simp) (by simp [noIds]) fun σ => ?_
  refine zaR ?_
  refine PCalls.use (isNaN_calls k a) ?_
  refine zaR ?_
  refine PCalls.use (isNaN_calls k b) ?_
  (try ((first | with_reducible refine zo ?_ | with_reducible refine zt ?_ | with_reducible refine zu ?_); simp [cmpI])); repeat' (first | ((first | refine zf ?_ | refine zg ?_ | refine dN (by decide +kernel) ?_ | (refine za ?_ ?_ <;> (intro hg; simp only [hg])) | fail) <;> simp [cmpI]) | refine ze ?_ | refine zd ?_ | (refine zA ?_; simp only [zB]; try simp) | ((first | refine zm (by simp) ?_ | refine zv (by simp) (by simp) (by simp (maxDischargeDepth := 30) [cmpI]) ?_ | fail); simp) | (refine zc (fun hc => ?_) (fun hc => ?_) <;> try simp at hc) | fail)
  all_goals (unfold cmpI; (repeat' split) <;> omega)
def firstGe (c : Rg → Int) (z : List Rg) : Nat := z.findIdx fun r => decide (0 ≤ c r)
theorem cmpI_neg {a b : Int} : cmpI a b < 0 ↔ a < b := by unfold cmpI; (repeat' split) <;> omega
end Go.Proofs.YtpboabpapgimoaaGreat.Av.Zn
namespace Go.Proofs.YtpboabpapgimoaaGreat.Av.Zn
open Go
set_option linter.unusedSimpArgs false
set_option linter.unusedVariables false
set_option maxRecDepth 100000
set_option pp.maxSteps 300
structure But (i : Id) (σ τ : St) : Prop where
  m : ∀ l o, l ≠ i → σ.m l = some o → τ.m l = some o
  nx : ∀ s, σ.nx s ≤ τ.nx s
theorem zi9 {f : FuncId} {caps : List AV} {i : Id} {c0 : Ob} {z : List Rg} (hit : zju Tryz.prog f caps i c0 (z.map zl)) (hl : z.length < 2 ^ 40) {σ : St} (hi : σ.m i = some c0) :
    ACalls Tryz.prog 108 [.sl 0 [] true, .fn (.func f) [] caps] σ fun r τ => But i σ τ ∧ ((z = [] ∧ r = .sl 0 [] true) ∨ (z ≠ [] ∧ ∃ j, r = .rs j 0 z.length ∧ j.sz = 2 ∧ τ.m j = some (.buf (z.map zl)) ∧ σ.m j = none)) := by
  refine zaL Tryz.func108 rfl (N := 13) rfl rfl (by simp) ?_
  refine zaR ?_
  refine zfk (f := f) (caps := caps) (by simp) fun b lo L hlo hL => ?_
  have hLn : L.nonce = (σ.new 2 1 (.buf [.sl 0 [] true])).nx 0 := by rw [hL]
  generalize hv : (⟨2, σ.nx 2, 1⟩ : Id) = v at *
  have hσv : (σ.new 2 1 (.buf [.sl 0 [] true])).m v = some (.buf [.sl 0 [] true]) := by rw [← hv]; simp
  have hvn : σ.m v = none := by rw [← hv]; exact zb _ _ _
  generalize hσ1 : σ.new 2 1 (.buf [.sl 0 [] true]) = σ1 at *
  have hE1 : Ext σ σ1 := by rw [← hσ1]; exact Ext.new _ _ _ _
  have hLm : σ1.m L = none := by rw [hL]; exact zb _ _ _
  have hσL : (σ1.new 0 0 (lo .ready none)).m L = some (lo .ready none) := by rw [hL]; simp
  have hE2 : Ext σ1 (σ1.new 0 0 (lo .ready none)) := Ext.new _ _ _ _
  generalize hσ2 : σ1.new 0 0 (lo .ready none) = σ2 at *
  have hvL : v ≠ L := fun e => by rw [e, hLm] at hσv; cases hσv
  have hiv : i ≠ v := fun e => by rw [e, hvn] at hi; cases hi
  have hiL : i ≠ L := fun e => by have := hE1.m i c0 hi; rw [e, hLm] at this; cases this
  let I : Nat → St → Prop := fun k τ => But i σ τ ∧ τ.m L = some (lo .ready none) ∧ ((k = 0 ∧ τ.m v = some (.buf [.sl 0 [] true])) ∨ (0 < k ∧ ∃ j, τ.m v = some (.buf [.rs j 0 k]) ∧ τ.m j = some (.buf ((z.take k).map zl)) ∧ j.sz = 2 ∧ σ.m j = none ∧ j ≠ v ∧ j ≠ L ∧ j ≠ i))
  have h0 : I 0 σ2 := ⟨⟨fun l o _ h => hE2.m l o (hE1.m l o h), fun s => Nat.le_trans (hE1.nx s) (hE2.nx s)⟩, hσL, .inl ⟨rfl, hE2.m _ _ hσv⟩⟩
  refine (hit b I (fun _ => False) ?_ ?_ ?_ σ2 (hE2.m _ _ (hE1.m _ _ hi)) h0).mono ?_
  · rintro k τ τ' ⟨h1, h2, h3⟩ hE
    refine ⟨⟨fun l o hl h => hE.m l o (h1.m l o hl h), fun s => Nat.le_trans (h1.nx s) (hE.nx s)⟩, hE.m _ _ h2, ?_⟩
    rcases h3 with ⟨h3, h4⟩ | ⟨h3, j, h4, h5, h6⟩
    · exact .inl ⟨h3, hE.m _ _ h4⟩
    · exact .inr ⟨h3, j, hE.m _ _ h4, hE.m _ _ h5, h6⟩
  · rintro k τ c ⟨h1, h2, h3⟩ hne
    refine ⟨⟨fun l o hl h => by rw [zy hl]; exact h1.m l o hl h, h1.nx⟩, by rw [zy (Ne.symm hiL)]; exact h2, ?_⟩
    rcases h3 with ⟨h3, h4⟩ | ⟨h3, j, h4, h5, h6, h7, h8, h9, h10⟩
    · exact .inl ⟨h3, by rw [zy (Ne.symm hiv)]; exact h4⟩
    · exact .inr ⟨h3, j, by rw [zy (Ne.symm hiv)]; exact h4, by rw [zy h10]; exact h5, h6, h7, h8, h9, h10⟩
  · rintro k x τ c hx ⟨h1, h2, h3⟩ hc
    obtain ⟨r, hr, rfl⟩ : ∃ r, z[k]? = some r ∧ x = zl r := by
      rw [List.getElem?_map] at hx
      cases hz : z[k]? with
      | none => rw [hz] at hx; cases hx
      | some r => rw [hz] at hx; injection hx with hx; exact ⟨r, rfl, hx.symm⟩
    have hkz := (List.getElem?_eq_some_iff.1 hr).1
    refine YK.of h2 hlo rfl ?_
    clear hlo hit
    have FF := fI zl.eq_1 @h2; refine zx ?_; clear FF
    have f1 : τ.m ⟨5, τ.nx 5, 2⟩ = none := zb _ _ _
    have hrL : (⟨5, τ.nx 5, 2⟩ : Id) ≠ L := fun e => by rw [e, h2] at f1; cases f1
    generalize hs3 : ((τ.new 5 2 (.buf [.agg [.raw (.int .u32 r.lo), .raw (.int .u32 r.hi)]])).set L (lo .busy none)) = s3
    have hr3 : s3.m ⟨5, τ.nx 5, 2⟩ = some (.buf [zl r]) := by rw [← hs3, zy hrL]; simp [zl]
    have hL3 : s3.m L = some (lo .busy none) := by rw [← hs3]; simp [h2]
    have hold3 : ∀ l o, l ≠ L → τ.m l = some o → s3.m l = some o := fun l o hl h => by rw [← hs3, zy hl]; exact zat _ _ h
    have hnx3 : ∀ s, τ.nx s ≤ s3.nx s := fun s => by rw [← hs3]; exact St.new_le τ 5 2 (.buf [.agg [.raw (.int .u32 r.lo), .raw (.int .u32 r.hi)]]) s
    generalize (⟨5, τ.nx 5, 2⟩ : Id) = r5 at *
    have hc3 : s3.m i = some c := hold3 _ _ hiL hc
    have fin : ∀ (k : Nat) (s5 : St) (j : Id), s5.m v ≠ none → s5.m L = some (lo .busy none) → s5.m i = some c → But i σ s5 → s5.m j = some (.buf ((z.take (k + 1)).map zl)) → j.sz = 2 → σ.m j = none → j ≠ v → j ≠ L → j ≠ i →
        (s5.set v (.buf [.rs j 0 (k + 1)])).m L = some (lo .busy none) ∧ I (k + 1) ((s5.set v (.buf [.rs j 0 (k + 1)])).set L (lo .ready none)) ∧ ((s5.set v (.buf [.rs j 0 (k + 1)])).set L (lo .ready none)).m i = some c := by
      intro k s5 j g1 g2 g3 g4 g5 g6 g7 g8 g9 g10
      obtain ⟨ov, hov⟩ := Option.ne_none_iff_exists'.1 g1
      have e1 : (s5.set v (.buf [.rs j 0 (k + 1)])).m L = some (lo .busy none) := by rw [zy (Ne.symm hvL)]; exact g2
      refine ⟨e1, ⟨⟨fun l o hl ho => ?_, g4.nx⟩, ?_, .inr ⟨by omega, j, ?_, ?_, g6, g7, g8, g9, g10⟩⟩, ?_⟩
      · have h2 : l ≠ L := fun e => by rw [e] at ho; rw [hE1.m _ _ ho] at hLm; cases hLm
        have h3 : l ≠ v := fun e => by rw [e, hvn] at ho; cases ho
        rw [zy h2, zy h3]; exact g4.m l o hl ho
      · simp [e1]
      · rw [zy hvL]; simp [hov]
      · rw [zy g9, zy g8]; exact g5
      · rw [zy hiL, zy hiv]; exact g3
    have hB3 : But i σ s3 := ⟨fun l o hl ho => hold3 l o (fun e => by rw [e] at ho; rw [hE1.m _ _ ho] at hLm; cases hLm) (h1.m l o hl ho), fun s => Nat.le_trans (h1.nx s) (hnx3 s)⟩
    have htake : (z.take (k + 1)).map zl = (z.take k).map zl ++ [zl r] := by rw [List.take_add_one, hr]; simp
    rcases h3 with ⟨rfl, hv3⟩ | ⟨hk0, j, hv3, hj3, hjs, hjn, hjv, hjL, hji⟩
    · have hv3 := hold3 _ _ hvL hv3
      have FF := fI zl.eq_1 (fI @hr3 @hv3); refine zx ?_; clear FF
      generalize hs4 : s3.new 10 2 (.buf [.agg [.raw (.int .u32 r.lo), .raw (.int .u32 r.hi)]]) = s4
      have hE4 : Ext s3 s4 := by rw [← hs4]; exact Ext.new _ _ _ _
      have hf := zb s4 11 2
      have hE5 := Ext.new s4 11 2 (.buf [.agg [.raw (.int .u32 r.lo), .raw (.int .u32 r.hi)]])
      have ne : ∀ l o, s3.m l = some o → (⟨11, s4.nx 11, 2⟩ : Id) ≠ l := fun l o h e => by rw [e, hE4.m _ _ h] at hf; cases hf
      refine fin 0 _ _ ?_ (hE5.m _ _ (hE4.m _ _ hL3)) (hE5.m _ _ (hE4.m _ _ hc3)) ⟨fun l o hl ho => hE5.m _ _ (hE4.m _ _ (hB3.m l o hl ho)), fun s => Nat.le_trans (hB3.nx s) (Nat.le_trans (hE4.nx s) (hE5.nx s))⟩ ?_ rfl ?_ (ne _ _ hv3) (ne _ _ hL3) (ne _ _ hc3)
      · rw [hE5.m _ _ (hE4.m _ _ hv3)]; simp
      · rw [htake]; simp [zl]
      · cases h : σ.m ⟨11, s4.nx 11, 2⟩ with
        | none => rfl
        | some o => exact absurd rfl (ne _ o (hB3.m _ _ (fun e => ne _ _ hc3 e) h))
    · have hv3 := hold3 _ _ hvL hv3
      have hj3 := hold3 _ _ hjL hj3
      have hmin : min k z.length = k := by omega
      have hby : (k + 1) * 8 ≤ 140737488355328 := by omega
      have FF := fI zl.eq_1 (fI @hr3 (fI @hv3 (fI @hj3 (fI @hjs (fI @hmin (fI @hby (fI @hjv ((Ne.symm hjv))))))))); refine zx ?_; clear FF
      generalize hs4 : s3.new 10 2 (.buf [.agg [.raw (.int .u32 r.lo), .raw (.int .u32 r.hi)]]) = s4
      have hE4 : Ext s3 s4 := by rw [← hs4]; exact Ext.new _ _ _ _
      have hf := zb (s4.del j) 11 2
      generalize hes : (List.take k (List.map zl z) ++ [.agg [.raw (.int .u32 r.lo), .raw (.int .u32 r.hi)]]) = es
      have hE5 := Ext.new (s4.del j) 11 2 (.buf es)
      have old : ∀ l o, l ≠ j → s3.m l = some o → (s4.del j).m l = some o := fun l o hl h => by rw [zL hl]; exact hE4.m _ _ h
      have ne : ∀ l o, l ≠ j → s3.m l = some o → (⟨11, s4.nx 11, 2⟩ : Id) ≠ l := fun l o hl h e => by
        have := old l o hl h
        rw [← e] at this
        rw [show (⟨11, s4.nx 11, 2⟩ : Id) = ⟨11, (s4.del j).nx 11, 2⟩ from rfl, hf] at this
        cases this
      refine fin k _ _ ?_ (hE5.m _ _ (old _ _ (Ne.symm hjL) hL3)) (hE5.m _ _ (old _ _ (Ne.symm hji) hc3)) ⟨fun l o hl ho => hE5.m _ _ (old _ _ (fun e => by rw [e, hjn] at ho; cases ho) (hB3.m l o hl ho)), fun s => Nat.le_trans (hB3.nx s) (Nat.le_trans (hE4.nx s) (hE5.nx s))⟩ ?_ rfl ?_ (ne _ _ (Ne.symm hjv) hv3) (ne _ _ (Ne.symm hjL) hL3) (ne _ _ (Ne.symm hji) hc3)
      · rw [hE5.m _ _ (old _ _ (Ne.symm hjv) hv3)]; simp
      · rw [htake, List.map_take]; simp only [zl]; rw [← hes]
        exact zc7
      · cases h : σ.m ⟨11, s4.nx 11, 2⟩ with
        | none => rfl
        | some o => exact absurd rfl (ne _ o (fun e => by rw [e, hjn] at h; cases h) (hB3.m _ _ (fun e => ne _ _ (Ne.symm hji) hc3 e) h))
  · rintro _ τ (⟨h1, h2, h3⟩ | h)
    · refine ⟨_, _, h2, by simp, fun _ => ?_, fun c h => by cases h⟩
      have hvd : ∀ x, τ.m v = some x → (τ.del L).m v = some x := fun x h => by rw [zL hvL]; exact h
      have hB : But i σ (τ.del L) := ⟨fun l o hl ho => by
        rw [zL fun e => by rw [e] at ho; rw [hE1.m _ _ ho] at hLm; cases hLm]
        exact h1.m l o hl ho, h1.nx⟩
      rw [List.length_map] at h3
      rcases h3 with ⟨hk0, hv3⟩ | ⟨hk0, j, hv3, hj3, hjs, hjn, hjv, hjL, hji⟩
      · have hv3 := hvd _ hv3
        have FF := @hv3; refine zx ?_; clear FF
        refine zT (x := .sl 0 [] true) (.inr rfl) (by simp) ⟨hB, .inl ⟨List.length_eq_zero_iff.1 hk0, rfl⟩⟩
      · have hv3 := hvd _ hv3
        have FF := @hv3; refine zx ?_; clear FF
        refine zT (x := .rs j 0 z.length) (.inr rfl) (by simp) ⟨hB, .inr ⟨fun e => by simp [e] at hk0, j, rfl, hjs, ?_, hjn⟩⟩
        rw [zL hjL, hj3, List.take_length]
    · exact h.elim
end Go.Proofs.YtpboabpapgimoaaGreat.Av.Zn
namespace Go.Proofs.YtpboabpapgimoaaGreat.Av.Zn
open Go
set_option linter.unusedSimpArgs false
set_option linter.unusedVariables false
set_option maxRecDepth 100000
theorem zlO {z : List Rg} {full : Bool} {b : Nat} {i : Id} {I : Nat → St → Prop} {J : St → Prop} (hz : z.length < 2 ^ 60)
    (hI : ∀ k σ τ, I k σ → Ext σ τ → I k τ)
    (hY : ∀ k σ (h : k < z.length), I k σ → YK Tryz.prog b [zl z[k]] σ fun r τ => (r = .raw (.bool true) ∧ I (k + 1) τ) ∨ (r = .raw (.bool false) ∧ J τ))
    {σ : St} (hi : σ.m i = some (.buf [zAV z full])) (h0 : I 0 σ) :
    ACalls Tryz.prog 90 [.fn (.yield b) [] [], .rp i 0 0] σ fun _ τ => I z.length τ ∨ J τ := by
  refine zaL Tryz.func90 rfl (N := 16) rfl rfl (by simp) ?_
  refine ze ?_
  refine zg ?_
  simp [hi, zAV]
  refine zd ?_
  refine zav (fun n A τ => ∃ k : Nat, A 0 = .fn (.yield b) [] [] ∧ A 5 = zAV z full ∧ A 6 = .raw (.int .i64 z.length) ∧ A 7 = .raw (.int .i64 k) ∧ k ≤ z.length ∧ n = z.length - k ∧ I k τ) z.length ?_ ?_
  · exact ⟨0, by simp [zAV], by simp [zAV], by simp, by simp, by omega, by omega, h0⟩
  rintro n A τ ⟨k, a0, a5, a6, a7, hk, rfl, hIk⟩
  refine ze ?_
  refine zg ?_
  simp [a0, a5, a6, a7]
  refine ze ?_
  refine zcq ?_
  simp
  constructor
  · intro hlt
    refine zdK ?_
    simp
    refine ze ?_
    refine zd ?_
    refine ze ?_
    have hx : z[k]? = some z[k] := List.getElem?_eq_getElem (by omega)
    refine zg ?_
    simp [a0, a5, a6, a7, zAV, hx, zl]
    refine ze ?_
    refine zg ?_
    simp [a0, a5, a6, a7, zAV, hx, zl]
    refine YK.mono ?_ (hY k _ hlt (hI _ _ _ hIk (by rw [zde]; exact Ext.new _ _ _ _)))
    rintro r τ' (⟨rfl, h⟩ | ⟨rfl, h⟩)
    · simp [a0]
      refine zcq ?_
      simp
      refine zdK ?_
      simp
      refine zg ?_
      simp [a0, a5, a6, a7]
      refine ⟨z.length - (k + 1), by omega, k + 1, ?_, by omega, rfl, h⟩
      rw [zh (by omega) (by omega)]; simp
    · simp [a0]
      refine zcq ?_
      simp
      refine zeC ?_
      simp
      exact zT (x := .tup []) (.inr rfl) (by simp) (.inr h)
  · intro hge
    refine zfX ?_
    simp
    have : k = z.length := by omega
    subst this
    exact zT (x := .tup []) (.inl rfl) (by simp) (.inl hIk)
end Go.Proofs.YtpboabpapgimoaaGreat.Av.Zn
namespace Go.Proofs.YtpboabpapgimoaaGreat.Av.Zn
set_option linter.unusedSimpArgs false
set_option linter.unusedVariables false
def MZ (z : List Rg) (a : Int) : Prop := ∃ r ∈ z, r.lo ≤ a ∧ a ≤ r.hi
theorem mz_nil {a : Int} : ¬ MZ [] a := fun ⟨_, h, _⟩ => by cases h
theorem mz_cons {r : Rg} {z : List Rg} {a : Int} : MZ (r :: z) a ↔ (r.lo ≤ a ∧ a ≤ r.hi) ∨ MZ z a := by
  constructor
  · rintro ⟨s, h, k⟩
    rcases List.mem_cons.1 h with rfl | h
    · exact .inl k
    · exact .inr ⟨s, h, k⟩
  · rintro (h | ⟨s, h, k⟩)
    · exact ⟨r, by simp, h⟩
    · exact ⟨s, by simp [h], k⟩
theorem mz_append {x y : List Rg} {a : Int} : MZ (x ++ y) a ↔ MZ x a ∨ MZ y a := by
  induction x with
  | nil => simp [mz_nil]
  | cons r x ih => rw [List.cons_append, mz_cons, mz_cons, ih, or_assoc]
theorem hasB_iff {z : List Rg} {a : Int} : hasB z a = true ↔ MZ z a := by
  unfold hasB MZ
  rw [List.any_eq_true]
  simp
def RZ : Int → List Rg → Prop
  | _, [] => True
  | b, r :: z => b < r.lo ∧ r.lo ≤ r.hi ∧ RZ (r.hi + 1) z
theorem RZ.weaken {b c : Int} (h : c ≤ b) : ∀ {z : List Rg}, RZ b z → RZ c z
  | [], _ => trivial
  | r :: z, k => ⟨by have := k.1; omega, k.2.1, k.2.2⟩
theorem RZ.gt : ∀ {z : List Rg} {b a : Int}, RZ b z → MZ z a → b < a
  | [], _, _, _, h => absurd h mz_nil
  | r :: z, b, a, k, h => by
    rcases mz_cons.1 h with h | h
    · have := k.1; omega
    · have := RZ.gt k.2.2 h; have := k.1; have := k.2.1; omega
theorem RZ.ext : ∀ {x y : List Rg} {b c : Int}, RZ b x → RZ c y → (∀ a, MZ x a ↔ MZ y a) → x = y
  | [], [], _, _, _, _, _ => rfl
  | [], s :: y, _, _, _, k, h => absurd ((h s.lo).2 (mz_cons.2 (.inl ⟨Int.le_refl _, k.2.1⟩))) mz_nil
  | r :: x, [], _, _, k, _, h => absurd ((h r.lo).1 (mz_cons.2 (.inl ⟨Int.le_refl _, k.2.1⟩))) mz_nil
  | r :: x, s :: y, b, c, k, l, h => by
    obtain ⟨k1, k2, k3⟩ := k
    obtain ⟨l1, l2, l3⟩ := l
    have gx : ∀ {a}, MZ x a → r.hi + 1 < a := fun h => RZ.gt k3 h
    have gy : ∀ {a}, MZ y a → s.hi + 1 < a := fun h => RZ.gt l3 h
    have hlo : r.lo = s.lo := by
      have h1 := (h r.lo).1 (mz_cons.2 (.inl ⟨Int.le_refl _, k2⟩))
      have h2 := (h s.lo).2 (mz_cons.2 (.inl ⟨Int.le_refl _, l2⟩))
      rcases mz_cons.1 h1 with h1 | h1 <;> rcases mz_cons.1 h2 with h2 | h2
      · omega
      · have := gx h2; omega
      · have := gy h1; omega
      · have := gx h2; have := gy h1; omega
    have hhi : r.hi = s.hi := by
      rcases Int.lt_trichotomy r.hi s.hi with hl | hl | hl
      · have h1 := (h (r.hi + 1)).2 (mz_cons.2 (.inl ⟨by omega, by omega⟩))
        rcases mz_cons.1 h1 with h1 | h1
        · omega
        · have := gx h1; omega
      · exact hl
      · have h1 := (h (s.hi + 1)).1 (mz_cons.2 (.inl ⟨by omega, by omega⟩))
        rcases mz_cons.1 h1 with h1 | h1
        · omega
        · have := gy h1; omega
    have he : r = s := Rg.ext hlo hhi
    subst he
    congr 1
    refine RZ.ext k3 l3 fun a => ⟨fun ha => ?_, fun ha => ?_⟩
    · rcases mz_cons.1 ((h a).1 (mz_cons.2 (.inr ha))) with h1 | h1
      · have := gx ha; omega
      · exact h1
    · rcases mz_cons.1 ((h a).2 (mz_cons.2 (.inr ha))) with h1 | h1
      · have := gy ha; omega
      · exact h1
theorem RZ.at : ∀ {z : List Rg} {b : Int}, RZ b z → ∀ i r, z[i]? = some r → b < r.lo ∧ r.lo ≤ r.hi ∧ ∀ s, z[i + 1]? = some s → r.hi + 1 < s.lo
  | [], _, _, _, _, h => by simp at h
  | r :: z, b, k, 0, s, h => by
    simp at h; subst h
    refine ⟨k.1, k.2.1, fun s hs => ?_⟩
    cases z with
    | nil => simp at hs
    | cons t z => simp at hs; subst hs; exact k.2.2.1
  | r :: z, b, k, i + 1, s, h => by
    have := RZ.at k.2.2 i s (by simpa using h)
    refine ⟨by have := k.1; have := k.2.1; omega, this.2.1, fun t ht => this.2.2 t (by simpa using ht)⟩
theorem right_rz {z : List Rg} {b : Int} (h : RZ b z) : zfG z = true := zhL fun i hi => by
  have hx : z[i]? = some z[i] := List.getElem?_eq_getElem hi
  obtain ⟨_, h1, _⟩ := h.at i _ hx
  simp only [zgk, hx]
  cases i with
  | zero => simp [h1]
  | succ k =>
    have hy : z[k]? = some z[k] := List.getElem?_eq_getElem (by omega)
    have := (h.at k _ hy).2.2 _ hx
    simp [h1, hy, this]
def mg : Rg → List Rg → List Rg
  | r, [] => [r]
  | r, x :: l => if x.lo ≤ r.hi + 1 then mg ⟨r.lo, max r.hi x.hi⟩ l else r :: mg x l
def zbh : List Rg → List Rg
  | [] => []
  | r :: l => mg r l
theorem zjH : ∀ (l : List Rg) (r : Rg) (b : Int), b < r.lo → r.lo ≤ r.hi → (∀ x ∈ l, r.lo ≤ x.lo) → (∀ x ∈ l, x.lo ≤ x.hi) → l.Pairwise (fun x y => x.lo ≤ y.lo) →
    RZ b (mg r l) ∧ ∀ a, MZ (mg r l) a ↔ (r.lo ≤ a ∧ a ≤ r.hi) ∨ MZ l a
  | [], r, b, h1, h2, _, _, _ => ⟨⟨h1, h2, trivial⟩, fun a => mz_cons⟩
  | x :: l, r, b, h1, h2, h3, h4, h5 => by
    have hx := h3 x (by simp)
    have hxo := h4 x (by simp)
    rw [List.pairwise_cons] at h5
    unfold mg
    split
    · rename_i hle
      obtain ⟨q1, q2⟩ := zjH l ⟨r.lo, max r.hi x.hi⟩ b h1 (by simp only []; omega) (fun y hy => h3 y (by simp [hy])) (fun y hy => h4 y (by simp [hy])) h5.2
      refine ⟨q1, fun a => ?_⟩
      rw [q2, mz_cons]
      simp only []
      constructor
      · rintro (h | h)
        · by_cases a ≤ r.hi
          · exact .inl ⟨h.1, by assumption⟩
          · exact .inr (.inl ⟨by omega, by omega⟩)
        · exact .inr (.inr h)
      · rintro (h | h | h)
        · exact .inl ⟨h.1, by omega⟩
        · exact .inl ⟨by omega, by omega⟩
        · exact .inr h
    · rename_i hle
      obtain ⟨q1, q2⟩ := zjH l x (r.hi + 1) (by omega) hxo (fun y hy => h5.1 y hy) (fun y hy => h4 y (by simp [hy])) h5.2
      refine ⟨⟨h1, h2, q1⟩, fun a => ?_⟩
      rw [mz_cons, q2, mz_cons]
theorem znG : ∀ (l : List Rg) (r : Rg), r.In → InZ l → InZ (mg r l)
  | [], r, h, _ => by intro s hs; simp [mg] at hs; subst hs; exact h
  | x :: l, r, h, k => by
    have hx := k x (by simp)
    unfold mg
    split
    · refine znG l _ ⟨h.1, h.2.1, ?_, ?_⟩ fun y hy => k y (by simp [hy])
      · have := h.2.2.1; simp only []; omega
      · have := h.2.2.2; have := hx.2.2.2; simp only []; omega
    · intro s hs
      rcases List.mem_cons.1 hs with rfl | hs
      · exact h
      · exact znG l x hx (fun y hy => k y (by simp [hy])) s hs
theorem zja : ∀ (l : List Rg) (r : Rg), (mg r l).length ≤ l.length + 1
  | [], r => by simp [mg]
  | x :: l, r => by
    unfold mg
    split
    · have := zja l ⟨r.lo, max r.hi x.hi⟩; simp; omega
    · have := zja l x; simp; omega
theorem zhM {l : List Rg} (hl : InZ l) (ho : ∀ x ∈ l, x.lo ≤ x.hi) (hs : l.Pairwise fun x y => x.lo ≤ y.lo) : RZ (-1) (zbh l) ∧ (∀ a, MZ (zbh l) a ↔ MZ l a) ∧ InZ (zbh l) ∧ (zbh l).length ≤ l.length := by
  cases l with
  | nil => exact ⟨trivial, fun a => Iff.rfl, (fun r h => by cases h), Nat.le_refl _⟩
  | cons r l =>
    rw [List.pairwise_cons] at hs
    obtain ⟨q1, q2⟩ := zjH l r (-1) (by have := (hl r (by simp)).1; omega) (ho r (by simp)) hs.1 (fun x hx => ho x (by simp [hx])) hs.2
    exact ⟨q1, fun a => by rw [mz_cons]; exact q2 a, znG l r (hl r (by simp)) fun x hx => hl x (by simp [hx]), by simpa [zbh] using zja l r⟩
def andZ : List Rg → List Rg → List Rg
  | r :: x, s :: y => (if max r.lo s.lo ≤ min r.hi s.hi then [⟨max r.lo s.lo, min r.hi s.hi⟩] else []) ++ if r.hi < s.hi then andZ x (s :: y) else andZ (r :: x) y
  | _, _ => []
termination_by x y => x.length + y.length
theorem andZ_spec : ∀ (n : Nat) (x y : List Rg) (b c : Int), x.length + y.length ≤ n → RZ b x → RZ c y → RZ (max b c) (andZ x y) ∧ (∀ a, MZ (andZ x y) a ↔ MZ x a ∧ MZ y a) ∧ (InZ x → InZ y → InZ (andZ x y)) ∧ (andZ x y).length ≤ x.length + y.length
  | _, [], y, _, _, _, _, _ => by rw [andZ.eq_def]; exact ⟨trivial, fun a => ⟨fun h => absurd h mz_nil, fun h => absurd h.1 mz_nil⟩, (fun _ _ _ h => by cases h), by simp⟩
  | _, r :: x, [], _, _, _, _, _ => by rw [andZ.eq_def]; exact ⟨trivial, fun a => ⟨fun h => absurd h mz_nil, fun h => absurd h.2 mz_nil⟩, (fun _ _ _ h => by cases h), by simp⟩
  | 0, r :: x, s :: y, _, _, h, _, _ => by simp at h
  | n + 1, r :: x, s :: y, b, c, hn, hx, hy => by
    rw [andZ]
    obtain ⟨x1, x2, x3⟩ := id hx
    obtain ⟨y1, y2, y3⟩ := id hy
    simp only [List.length_cons] at hn
    have hrec : ∃ z, (if r.hi < s.hi then andZ x (s :: y) else andZ (r :: x) y) = z ∧ RZ (max b c) z ∧ RZ (min r.hi s.hi + 1) z ∧ (∀ a, MZ z a ↔ (MZ (r :: x) a ∧ MZ (s :: y) a) ∧ min r.hi s.hi < a) ∧ (InZ (r :: x) → InZ (s :: y) → InZ z) ∧ z.length ≤ x.length + y.length + 1 := by
      refine ⟨_, rfl, ?_⟩
      split
      · rename_i hlt
        obtain ⟨q1, q2, q3, q4⟩ := andZ_spec n x (s :: y) (r.hi + 1) c (by simp; omega) x3 hy
        refine ⟨q1.weaken (by omega), q1.weaken (by omega), fun a => ?_, fun h1 h2 => q3 (fun t ht => h1 t (by simp [ht])) h2, by simp at q4; omega⟩
        rw [q2, mz_cons (r := r)]
        constructor
        · rintro ⟨h1, h2⟩; have := RZ.gt x3 h1; exact ⟨⟨.inr h1, h2⟩, by omega⟩
        · rintro ⟨⟨h1 | h1, h2⟩, h3⟩
          · omega
          · exact ⟨h1, h2⟩
      · rename_i hlt
        obtain ⟨q1, q2, q3, q4⟩ := andZ_spec n (r :: x) y b (s.hi + 1) (by simp; omega) hx y3
        refine ⟨q1.weaken (by omega), q1.weaken (by omega), fun a => ?_, fun h1 h2 => q3 h1 (fun t ht => h2 t (by simp [ht])), by simp at q4; omega⟩
        rw [q2, mz_cons (r := s)]
        constructor
        · rintro ⟨h1, h2⟩; have := RZ.gt y3 h2; exact ⟨⟨h1, .inr h2⟩, by omega⟩
        · rintro ⟨⟨h1, h2 | h2⟩, h3⟩
          · omega
          · exact ⟨h1, h2⟩
    obtain ⟨z, hz, p1, p2, p3, p4, p5⟩ := hrec
    rw [hz]
    split
    · rename_i hq
      refine ⟨⟨by simp only []; omega, hq, p2⟩, fun a => ?_, fun h1 h2 => ?_, by simp; omega⟩
      · rw [List.singleton_append, mz_cons, p3]
        simp only []
        constructor
        · rintro (h | h)
          · exact ⟨mz_cons.2 (.inl (by omega)), mz_cons.2 (.inl (by omega))⟩
          · exact h.1
        · rintro ⟨h1, h2⟩
          by_cases hlt : min r.hi s.hi < a
          · exact .inr ⟨⟨h1, h2⟩, hlt⟩
          · refine .inl ⟨?_, by omega⟩
            rcases mz_cons.1 h1 with k1 | k1
            · rcases mz_cons.1 h2 with k2 | k2
              · omega
              · have := RZ.gt y3 k2; omega
            · have := RZ.gt x3 k1; omega
      · intro t ht
        simp only [List.singleton_append, List.mem_cons] at ht
        rcases ht with rfl | ht
        · have a1 := h1 r (by simp); have a2 := h2 s (by simp)
          unfold Rg.In at a1 a2 ⊢; simp only []; omega
        · exact p4 h1 h2 t ht
    · rename_i hq
      refine ⟨p1, fun a => ?_, p4, by simp; omega⟩
      rw [List.nil_append, p3]
      constructor
      · exact fun h => h.1
      · rintro ⟨h1, h2⟩
        refine ⟨⟨h1, h2⟩, ?_⟩
        rcases mz_cons.1 h1 with k1 | k1
        · rcases mz_cons.1 h2 with k2 | k2
          · omega
          · have := RZ.gt y3 k2; omega
        · have := RZ.gt x3 k1; omega
def notZ : Int → List Rg → List Rg
  | b, [] => if b ≤ 4294967295 then [⟨b, 4294967295⟩] else []
  | b, r :: z => (if b < r.lo then [⟨b, r.lo - 1⟩] else []) ++ notZ (r.hi + 1) z
theorem notZ_spec : ∀ (z : List Rg) (b : Int), RZ (b - 1) z → InZ z → 0 ≤ b → RZ (b - 1) (notZ b z) ∧ (∀ a, MZ (notZ b z) a ↔ (b ≤ a ∧ a < 4294967296) ∧ ¬ MZ z a) ∧ InZ (notZ b z) ∧ (notZ b z).length ≤ z.length + 1
  | [], b, _, _, h0 => by
    unfold notZ
    split
    · rename_i h
      refine ⟨⟨by simp only []; omega, h, trivial⟩, fun a => ?_, fun r hr => ?_, by simp⟩
      · rw [mz_cons]; simp only []
        constructor
        · rintro (h | h)
          · exact ⟨by omega, mz_nil⟩
          · exact absurd h mz_nil
        · exact fun h => .inl (by omega)
      · simp at hr; subst hr; unfold Rg.In; simp only []; omega
    · exact ⟨trivial, fun a => ⟨fun h => absurd h mz_nil, fun h => by omega⟩, (fun r hr => by cases hr), by simp⟩
  | r :: z, b, hz, hi, h0 => by
    obtain ⟨z1, z2, z3⟩ := hz
    have hr := hi r (by simp)
    obtain ⟨q1, q2, q3, q4⟩ := notZ_spec z (r.hi + 1) (z3.weaken (by omega)) (fun s hs => hi s (by simp [hs])) (by unfold Rg.In at hr; omega)
    unfold notZ
    have key : ∀ a, (b ≤ a ∧ a < 4294967296) ∧ ¬ MZ (r :: z) a ↔ (b ≤ a ∧ a < r.lo) ∨ ((r.hi + 1 ≤ a ∧ a < 4294967296) ∧ ¬ MZ z a) := fun a => by
      rw [mz_cons]
      constructor
      · rintro ⟨h1, h2⟩
        by_cases h : a < r.lo
        · exact .inl ⟨h1.1, h⟩
        · exact .inr ⟨⟨by omega, h1.2⟩, fun k => h2 (.inr k)⟩
      · rintro (h | h)
        · refine ⟨⟨h.1, by unfold Rg.In at hr; omega⟩, ?_⟩
          rintro (k | k)
          · omega
          · have := RZ.gt z3 k; omega
        · refine ⟨⟨by omega, h.1.2⟩, ?_⟩
          rintro (k | k)
          · omega
          · exact h.2 k
    split
    · rename_i h
      refine ⟨⟨by simp only []; omega, by simp only []; omega, q1.weaken (by simp only []; omega)⟩, fun a => ?_, fun s hs => ?_, by simp; omega⟩
      · rw [List.singleton_append, mz_cons, q2, key]; simp only []
        constructor
        · rintro (h | h)
          · exact .inl (by omega)
          · exact .inr h
        · rintro (h | h)
          · exact .inl (by omega)
          · exact .inr h
      · simp only [List.singleton_append, List.mem_cons] at hs
        rcases hs with rfl | hs
        · unfold Rg.In at hr ⊢; simp only []; omega
        · exact q3 s hs
    · rename_i h
      refine ⟨q1.weaken (by omega), fun a => ?_, q3, by simp; omega⟩
      rw [List.nil_append, q2, key]
      constructor
      · exact .inr
      · rintro (h | h)
        · omega
        · exact h
end Go.Proofs.YtpboabpapgimoaaGreat.Av.Zn
namespace Go.Proofs.YtpboabpapgimoaaGreat.Av
open Go
set_option linter.unusedSimpArgs false
set_option linter.unusedVariables false
set_option maxRecDepth 100000
set_option maxHeartbeats 4000000
set_option pp.maxSteps 600
def firstGe (c : Ru → Int) (z : List Ru) : Nat := z.findIdx fun r => decide (0 ≤ c r)
theorem cmpI_neg {a b : Int} : cmpI a b < 0 ↔ a < b := by unfold cmpI; (repeat' split) <;> omega
def zlP (z : List Ru) (id : Int) : Nat := firstGe (fun r => cmpI r.id id) z
def zyW (z : List Ru) (id : Int) : Bool := match z[zlP z id]? with | some r => decide (r.id = id) | none => false
def ru0 : Ru := ⟨0, 0, 0, 0, ⟨0, 0⟩, 0⟩
end Go.Proofs.YtpboabpapgimoaaGreat.Av
namespace Go.Proofs.YtpboabpapgimoaaGreat.Av
open Go
set_option linter.unusedSimpArgs false
set_option linter.unusedVariables false
set_option maxRecDepth 100000
set_option maxHeartbeats 4000000
set_option pp.maxSteps 600
def zq9 (L : Lab) (T : Option Tab) (d : Nat) : List Int := (List.range (T.getD zP).b.sz.toNat).map fun i : Nat => ((L.rows[d]?).bind fun r => r[(ofT L.t ((zge T i).getD ⟨0, 0⟩).lo).toNat]?).getD 0
end Go.Proofs.YtpboabpapgimoaaGreat.Av
namespace Go.Proofs.YtpboabpapgimoaaGreat.Av
open Go
set_option linter.unusedSimpArgs false
set_option linter.unusedVariables false
set_option maxRecDepth 100000
set_option maxHeartbeats 4000000
set_option pp.maxSteps 600
def zqa (L : Lab) (n : Nw) (T : Option Tab) (dev : Int) (d : Nat) : List Int := if (d : Int) = dev then zq7 n T d else zq9 L T d
def zqb (L : Lab) (n : Nw) (T : Option Tab) (dev : Int) : Lab := ⟨n, T, (List.range n.t.ports.length).map (zqa L n T dev)⟩
end Go.Proofs.YtpboabpapgimoaaGreat.Av
namespace Go.Proofs.YtpboabpapgimoaaGreat.Av
open Go
set_option linter.unusedSimpArgs false
set_option linter.unusedVariables false
end Go.Proofs.YtpboabpapgimoaaGreat.Av
namespace Go.Proofs.YtpboabpapgimoaaGreat.Av
open Go
set_option linter.unusedSimpArgs false
set_option linter.unusedVariables false
def zra (n : Nw) : List Rg := n.rules.map (·.r)
def zt3 (n : Nw) (d : Nat) : List Int := (zaE (zaG (zra n))).map fun r => atI n d r.lo
structure LabRep (L : Lab) (n : Nw) : Prop where
  net : L.n = n
  ok : NwOK n
  right : zax n = true
  rep : TabRep (L.t.getD zP) (zra n)
  rows : L.rows = (List.range n.t.ports.length).map (zt3 n)
end Go.Proofs.YtpboabpapgimoaaGreat.Av
namespace Go.Proofs.YtpboabpapgimoaaGreat.Av
open Go
set_option linter.unusedSimpArgs false
set_option linter.unusedVariables false
set_option maxRecDepth 100000
set_option maxHeartbeats 4000000
set_option pp.maxSteps 600
def zt4 (n : Nw) (id : Int) : Nw := ⟨n.t, n.rules.eraseIdx (zlP n.rules id)⟩
def zrb (n : Nw) (id : Int) : Ru := (n.rules[zlP n.rules id]?).getD ru0
def zwF (L : Lab) (n : Nw) (id : Int) : Lab := zqb L (zt4 n id) (zsK L.t (zrb n id).r).1 (zrb n id).dev
end Go.Proofs.YtpboabpapgimoaaGreat.Av
namespace Go.Proofs.YtpboabpapgimoaaGreat.Av
open Go
set_option linter.unusedSimpArgs false
set_option linter.unusedVariables false
set_option maxRecDepth 100000
set_option maxHeartbeats 4000000
set_option pp.maxSteps 600
theorem znH : zax zct = true := by decide +kernel
end Go.Proofs.YtpboabpapgimoaaGreat.Av
namespace Go.Proofs.YtpboabpapgimoaaGreat.Av
open Go
set_option linter.unusedSimpArgs false
set_option linter.unusedVariables false
set_option maxRecDepth 100000
set_option maxHeartbeats 4000000
set_option pp.maxSteps 600
def zyX : AV := .agg [.sl 0 [] true, .sl 0 [] true, .sl 0 [] true]
end Go.Proofs.YtpboabpapgimoaaGreat.Av
