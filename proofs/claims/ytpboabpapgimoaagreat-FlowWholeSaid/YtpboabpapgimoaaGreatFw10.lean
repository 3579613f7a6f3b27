/- Flows: FlowWhole. Part 10 of 14: AvF3, AvF4, AvF5, AvL20, AvL21, AvL22, AvQ1, AvQ4, AvF6, AvF7, AvQ0, AvF8, AvF9, AvFA, AvFB, AvFC, AvFD, AvFE, AvFF, AvFG, AvFI, AvZW, AvFJ. -/
import Derived.Test.YtpboabpapgimoaaGreatFw7
import Derived.Test.YtpboabpapgimoaaGreatFw8
import Derived.Test.YtpboabpapgimoaaGreatFw9
namespace Go.Proofs.YtpboabpapgimoaaGreat.Av
open Go
set_option linter.unusedSimpArgs false
set_option linter.unusedVariables false
set_option maxRecDepth 100000
set_option maxHeartbeats 4000000
set_option pp.maxSteps 600
theorem PCalls.useOwnP {P : Program} {f : FuncId} {σ0 σ : St} {n : Nat} {v r : AV} {es : List AV} {K : AV → St → Prop} (h : PCalls P f [.sl n es false] r) (hO : OwnP σ0 σ n v es) (hE : Ext σ0 σ) (k : ∀ τ', Ext σ0 τ' → K r τ') : ACalls P f [v] σ K := by
  rcases hO with ⟨rfl, rfl⟩ | ⟨j, rest, rfl, hj, hm, hn⟩
  · refine ACalls.args (bs := [.sl n [] false]) (fun S vs hl => ?_) (h.use (k _ hE))
    simp only [LRel] at hl ⊢
    obtain ⟨w, ws, e2, h2, e3⟩ := hl
    exact ⟨w, ws, e2, za7 _ _ h2, e3⟩
  · refine ACalls.freeze j ?_
    have e1 : zw (σ.del j).m σ.m (.rs j 0 es.length) = .sl n es false := by
      rw [zcj (by simp [St.del]) hm (by simp), hj]; simp
    rw [List.map_cons, List.map_nil, e1]
    exact h.use (k _ ⟨fun i o hi => by rw [zL (fun e => by rw [e, hn] at hi; cases hi)]; exact hE.m i o hi, hE.nx⟩)
theorem zjS {g : FuncId} {caps : List AV} {w : Int → Bool} (r : Rg) (hg : PCalls Tryz.prog g (.raw (.int .u32 r.lo) :: caps) (.raw (.bool (w r.lo)))) :
    PCalls Tryz.prog 82 [zl r, .pp [.fn (.func g) [] caps] 0] (.raw (.bool (!w r.lo))) := by
  refine zE Tryz.func82 rfl (N := 9) rfl rfl (by simp) (by simp [noIds]) fun σ => ?_
  have FF := fI @rg_cells (fI @zR @zk); exact gxA
theorem zmE {σ0 σ : St} {v : AV} {P : List Rg} (hO : OwnL σ0 σ 2 v (P.map zl)) (hE : Ext σ0 σ) (hlen : P.length < 2 ^ 38) (hz : Zn.InZ P) (ho : ∀ r ∈ P, r.lo ≤ r.hi) {g : FuncId} {caps : List AV} {w : Int → Bool}
    (hg : ∀ r ∈ P, PCalls Tryz.prog g (.raw (.int .u32 r.lo) :: caps) (.raw (.bool (w r.lo)))) {K : AV → St → Prop} (hK : ∀ τ, Ext σ0 τ → K (Zn.zAV (Zn.refOfZ (P.filter fun r => w r.lo)) false) τ) :
    ACalls Tryz.prog 49 [v, .fn (.func g) [] caps] σ K := by
  refine zaL Tryz.func49 rfl (N := 15) rfl rfl (by simp) ?_
  have hv3 : ∀ a k, v ≠ .rs ⟨3, σ.nx 3, 1⟩ a k := fun a k e => by
    rcases hO with ⟨_, rfl⟩ | ⟨j, rfl, h2, _⟩
    · cases e
    · injection e with e; rw [e] at h2; cases h2
  repeat (refine ze ?_)
  refine zg ?_
  simp [-cellOK]
  generalize hA0 : put 15 _ _ _ = A0
  have d0 : A0 0 = v := by rw [← hA0]; simp
  have d3 : A0 3 = .rp ⟨3, σ.nx 3, 1⟩ 0 0 := by rw [← hA0]; simp
  clear hA0
  refine zai ⟨3, σ.nx 3, 1⟩ ?_
  generalize hτ : St.del _ _ = τ
  generalize hA : (fun t => zw _ _ _) = A
  have a3 : A 3 = .pp [.fn (.func g) [] caps] 0 := by rw [← hA, ← hτ]; simp [zw, St.new, St.del, d3]
  have hE2 : Ext σ0 τ := hE.trans (by
    rw [← hτ]
    exact ⟨fun i o h => by rw [zL (fun e => by rw [e, zb] at h; cases h)]; exact zat _ _ h, fun s => St.new_le σ 3 1 (.buf [.fn (.func g) [] caps]) s⟩)
  have a0 : A 0 = v := by
    rw [← hA]
    show zw _ _ (A0 0) = _
    rw [d0]
    rcases hO with ⟨_, rfl⟩ | ⟨j, rfl, h2, _⟩
    · rfl
    · rw [← hτ]; exact zeV (fun e => hv3 0 _ (by rw [e]))
  have hO2 : OwnL σ0 τ 2 v (P.map zl) := by
    rcases hO with h | ⟨j, h1, h2, h3, h4⟩
    · exact .inl h
    · refine .inr ⟨j, h1, h2, ?_, h4⟩
      rw [← hτ, zL (fun e => hv3 0 _ (by rw [h1, e]))]; exact zat _ _ h3
  clear hτ hA d0 d3 hO hE
  have FF := fI @a0 @a3; refine gxC ?_; clear FF
  refine zjR (p := fun r => !w r.lo) P hO2 hE2 (by omega) (fun r hr => zjS r (hg r hr)) fun v' τ' hP hE' => ?_
  have hfl : (P.filter fun r => !!w r.lo) = P.filter fun r => w r.lo := by simp
  rw [hfl] at hP
  have hsub : ∀ r ∈ P.filter (fun r => w r.lo), r ∈ P := fun r hr => (List.mem_filter.1 hr).1
  have hz' : Zn.InZ (P.filter fun r => w r.lo) := fun r hr => hz r (hsub r hr)
  have hof := Zn.zoneOf_calls (P.filter fun r => w r.lo) false hz' (Nat.lt_of_le_of_lt (List.length_filter_le _ _) hlen)
  rw [Zn.ofAV_ok fun r hr => ho r (hsub r hr)] at hof
  generalize P.filter (fun r => w r.lo) = Q at *
  have FF := fI @a0 @a3; refine gxC ?_; clear FF
  refine hof.useOwnP hP hE' fun τ2 hE2 => ?_
  (try ((first | with_reducible refine zo ?_ | with_reducible refine zt ?_ | with_reducible refine zu ?_); simp [-cellOK, Zn.zAV])); repeat' (first | ((first | refine zf ?_ | refine zg ?_ | refine dN (by decide +kernel) ?_ | refine dC (by decide +kernel) ?_ | (refine za ?_ ?_ <;> (intro hg; simp only [hg])) | fail) <;> simp [-cellOK, Zn.zAV]) | refine ze ?_ | refine zd ?_ | (refine zA ?_; simp only [zB]; try simp) | (refine zc (fun hc => ?_) (fun hc => ?_) <;> try simp at hc) | fail)
  exact zT (x := Zn.zAV (Zn.refOfZ Q) false) (.inr rfl) (by simp [Zn.zAV]) (hK _ hE2)
end Go.Proofs.YtpboabpapgimoaaGreat.Av
namespace Go.Proofs.YtpboabpapgimoaaGreat.Av
open Go
set_option linter.unusedSimpArgs false
set_option linter.unusedVariables false
set_option maxRecDepth 100000
set_option maxHeartbeats 4000000
set_option pp.maxSteps 600
theorem zm0 {σ τ : St} (h : Ext σ τ) {i : Id} (k : τ.m i = none) : σ.m i = none := by
  cases hi : σ.m i with
  | none => rfl
  | some o => rw [h.m i o hi] at k; cases k
theorem Ext.delZ {σ τ : St} {i : Id} (h : Ext σ τ) (hi : σ.m i = none) : Ext σ (τ.del i) :=
  ⟨fun j o hj => by rw [zL (fun e => by rw [e, hi] at hj; cases hj)]; exact h.m j o hj, h.nx⟩
@[simp] theorem zuM (K : Id → Prop) (z : List Rg) (f : Bool) : (Zn.zAV z f).ids K := zmT K z f
def zbq : Rg := ⟨0, 4294967295⟩
def zH (l : List Nw) : List Rg := zb0 l zbq
theorem zkQ {n : Nw} {f : Fl} {a x : Int} {g : FuncId} {caps : List AV} {b : Bool} (hn : NwOK n) (hg : PCalls Tryz.prog g (zdL (zQ n a x).1 false :: caps) (.raw (.bool b))) :
    PCalls Tryz.prog 70 [.raw (.int .u32 x), .pp (zau n f).cells 0, .pp [.raw (.int .i64 a)] 0, .pp [.fn (.func g) [] caps] 0] (.raw (.bool b)) := by
  have ht := zhJ n f a x hn
  generalize (zQ n a x).1 = T at *
  refine zE Tryz.func70 rfl (N := 18) rfl rfl (by simp) (by simp [noIds]) fun σ => ?_
  have FF := fI @zs (fI @z9 (fI @zbS (fI @zdT (fI @zp7 (fI @zR (fI @z0 @zk)))))); exact gxA
theorem zkR (t : Tk) (f : Bool) (b : Int) (hl : t.path.length < 2 ^ 60) : PCalls Tryz.prog 38 [zdL t f, .pp [.raw (.int .i64 b)] 0] (.raw (.bool (zbc t b))) := by
  have hc := zfE t.path f b hl
  unfold zbc
  generalize t.path.any _ = bb at *
  refine zE Tryz.func38 rfl (N := 8) rfl rfl (by simp) (by simp [noIds]) fun σ => ?_
  have FF := fI @zbS (fI @zdT (fI @zR (fI @z0 @zk))); exact gxA
theorem zji (t : Tk) (f : Bool) (b : Int) : PCalls Tryz.prog 41 [zdL t f, .pp [.raw (.int .i64 b)] 0] (.raw (.bool (zaY t b))) := by
  unfold zaY
  refine zE Tryz.func41 rfl (N := 14) rfl rfl (by simp) (by simp [noIds]) fun σ => ?_
  by_cases h3 : t.out = 3
  · have h3' := eq_true h3
    have FF := fI @zbS (fI @zdT (fI @h3' (fI @zR (fI @z0 @zk)))); exact gxA
  · have h3' := eq_false h3
    have FF := fI @zbS (fI @zdT (fI @h3' (fI @zR (fI @z0 @zk)))); exact gxA
structure PartsOK (P : List Rg) : Prop where
  len : P.length < 256
  inz : Zn.InZ P
  ord : ∀ r ∈ P, r.lo ≤ r.hi
structure PartsW (P : List Rg) : Prop where
  len : P.length < 2 ^ 38
  inz : Zn.InZ P
  ord : ∀ r ∈ P, r.lo ≤ r.hi
theorem PartsOK.w {P : List Rg} (h : PartsOK P) : PartsW P := ⟨by have := h.len; omega, h.inz, h.ord⟩
def zaI (P : List Rg) (w : Int → Bool) : List Rg := Zn.refOfZ (P.filter fun r => w r.lo)
def zce (n : Nw) (ds : List Int) (z : List Rg) : AV := if ds.any (zaC n) = true then .tup [.sl 0 [] true, .raw (.int .i64 91)] else .tup [Zn.zAV z false, .raw (.int .i64 0)]
theorem zg6 (n : Nw) (ds : List Int) (z : List Rg) : noIds (zce n ds z) := by
  unfold zce
  split
  · simp [noIds]
  · have := zmT (fun _ => False) z false
    simpa [noIds, Zn.zAV, zbl] using this
theorem zg7 {n : Nw} {f : Fl} {a b : Int} {g : FuncId} {caps : List AV} {w : Int → Bool} (hn : NwOK n) (hP : PartsW (zH [n])) (hids : zV (fun _ => False) caps)
    (hg : ∀ x, PCalls Tryz.prog g (zdL (zQ n a x).1 false :: caps) (.raw (.bool (w x)))) :
    PCalls Tryz.prog 37 [zau n f, .raw (.int .i64 a), .raw (.int .i64 b), .fn (.func g) [] caps] (zce n [a, b] (zaI (zH [n]) w)) := by
  have hhas := zjh n f [a, b] false (by simp)
  have hz := zg6 n [a, b] (zaI (zH [n]) w)
  refine zE Tryz.func37 rfl (N := 28) rfl rfl (by simp) hz fun σ => ?_
  repeat (refine ze ?_)
  refine zg ?_
  simp [-cellOK, zs]
  generalize hA0 : put 28 _ _ _ = A0
  have d2 : A0 2 = .raw (.int .i64 b) := by rw [← hA0]; simp [zk]
  have d4 : A0 4 = .rp ⟨4, σ.nx 4, 3⟩ 0 0 := by rw [← hA0]; simp [zk]
  have d5 : A0 5 = .rp ⟨5, σ.nx 5, 1⟩ 0 0 := by rw [← hA0]; simp [zk]
  have d7 : A0 7 = .rp ⟨7, σ.nx 7, 1⟩ 0 0 := by rw [← hA0]; simp [zk]
  clear hA0
  refine zai ⟨4, σ.nx 4, 3⟩ ?_
  refine zai ⟨5, σ.nx 5, 1⟩ ?_
  refine zai ⟨7, σ.nx 7, 1⟩ ?_
  generalize hτ : St.del _ _ = τ
  generalize hA : (fun t => zw _ _ _) = A
  have a2 : A 2 = .raw (.int .i64 b) := by rw [← hA, ← hτ]; simp [zw, d2]
  have a4 : A 4 = .pp (zau n f).cells 0 := by rw [← hA, ← hτ]; simp [zw, St.new, St.del, zs, d4]
  have a5 : A 5 = .pp [.raw (.int .i64 a)] 0 := by rw [← hA, ← hτ]; simp [zw, St.new, St.del, zs, d5]
  have a7 : A 7 = .pp [.fn (.func g) [] caps] 0 := by rw [← hA, ← hτ]; simp [zw, St.new, St.del, zs, d7]
  have hE : Ext σ τ := by
    rw [← hτ]
    refine ⟨fun i o h => ?_, fun s => ?_⟩
    · have q1 : i ≠ ⟨4, σ.nx 4, 3⟩ := fun e => by rw [e, zb] at h; cases h
      have q2 : i ≠ ⟨5, σ.nx 5, 1⟩ := fun e => by rw [e, zb] at h; cases h
      have q3 : i ≠ ⟨7, σ.nx 7, 1⟩ := fun e => by rw [e, zb] at h; cases h
      simp [St.del, St.new, q1, q2, q3, h]
    · simp only [St.del, St.new]
      repeat' split
      all_goals omega
  clear hτ hA d2 d4 d5 d7
  have hll : ∀ x y : Int, AV.sl 1 [.raw (.int .i64 x), .raw (.int .i64 y)] false = zp [x, y] false := fun _ _ => rfl
  have FF := fI @a2 (fI @a4 (fI @a5 (fI @a7 (fI @zs (fI @z9 (fI @zR @zk)))))); refine gxC ?_; clear FF
  refine PCalls.useLent (n := 1) (es := [.raw (.int .i64 a), .raw (.int .i64 b)]) (σ0 := σ) hhas rfl (OwnL.of rfl (by simp) (zN hE) (by simp)) ?_
  cases hb : [a, b].any (zaC n) with
  | true =>
    have hz : zce n [a, b] (zaI (zH [n]) w) = .tup [.sl 0 [] true, .raw (.int .i64 91)] := if_pos hb
    rw [hz]
    have FF := fI @a2 (fI @a4 (fI @a5 @a7)); exact gxA
  | false =>
    have hz : zce n [a, b] (zaI (zH [n]) w) = .tup [Zn.zAV (zaI (zH [n]) w) false, .raw (.int .i64 0)] := if_neg (by simp [hb])
    rw [hz]
    refine goD ?_
    iterate 2 (first | ((first | refine zf ?_ | refine zg ?_ | refine dN (by decide +kernel) ?_ | refine dC (by decide +kernel) ?_ | (refine za ?_ ?_ <;> (intro hg; simp only [hg])) | fail) <;> simp [-cellOK, a2, a4, a5, a7]) | refine ze ?_ | refine zd ?_ | (refine zA ?_; simp only [zB]; try simp) | (refine zc (fun hc => ?_) (fun hc => ?_) <;> try simp at hc) | fail)
    refine ze ?_
    refine zbL (fun o => o.dst == some 21) zdw (by decide +kernel) ?_
    simp [a2, a4, a5, a7, zs, z9, zR, zk]
    refine .inl ⟨_, .inl zhK, ?_⟩
    simp [a2, a4, a5, a7, zs, z9, zR, zk]
    refine ACalls.freeze ⟨20, τ.nx 20, 3⟩ ?_
    have f20 : σ.m ⟨20, τ.nx 20, 3⟩ = none := zN hE
    have hmap : List.map (zw (St.del ((τ.new 15 1 (.buf [.raw (.int .i64 a), .raw (.int .i64 b)])).new 20 3 (.buf [zau n f])) ⟨20, τ.nx 20, 3⟩).m ((τ.new 15 1 (.buf [.raw (.int .i64 a), .raw (.int .i64 b)])).new 20 3 (.buf [zau n f])).m) [.rs ⟨20, τ.nx 20, 3⟩ 0 1, zl ⟨0, 4294967295⟩] = [zbt [(n, f)] false, zl zbq] := by
      rw [List.map_cons, List.map_cons, List.map_nil, zcj (es := [zau n f]) (by simp [St.del]) (by simp [zR, zk]) (by simp)]
      rfl
    rw [hmap]
    have hE2 : Ext σ (St.del ((τ.new 15 1 (.buf [.raw (.int .i64 a), .raw (.int .i64 b)])).new 20 3 (.buf [zau n f])) ⟨20, τ.nx 20, 3⟩) := Ext.delZ (zS (zS hE)) f20
    generalize St.del _ _ = ρ at *
    clear hmap f20 hE
    refine znF [(n, f)] false zbq ⟨by decide, by decide, by decide, by decide⟩ (by simp [hn]) (by simp) fun v τ2 hO hE3 => ?_
    have hO2 : OwnL σ τ2 2 v ((zH [n]).map zl) := by
      rcases hO with h | ⟨j, h1, h2, h3, h4⟩
      · exact .inl h
      · exact .inr ⟨j, h1, h2, h3, zm0 hE2 h4⟩
    have hE4 := hE2.trans hE3
    have hce : (if zbq.hi < zbq.lo then (31 : Int) else 0) = 0 := by decide
    rw [hce]
    clear hO hE2 hE3
    have FF := fI @a2 (fI @a4 (fI @a5 @a7)); refine gxC ?_; clear FF
    refine zmE (w := w) hO2 hE4 hP.len hP.inz hP.ord (fun r hr => zkQ hn (hg r.lo)) fun τ3 hE5 => ?_
    (try ((first | with_reducible refine zo ?_ | with_reducible refine zt ?_ | with_reducible refine zu ?_); simp [-cellOK, Zn.zAV])); repeat' (first | ((first | refine zf ?_ | refine zg ?_ | refine dN (by decide +kernel) ?_ | refine dC (by decide +kernel) ?_ | (refine za ?_ ?_ <;> (intro hg; simp only [hg])) | fail) <;> simp [-cellOK, Zn.zAV]) | refine ze ?_ | refine zd ?_ | (refine zA ?_; simp only [zB]; try simp) | (refine zm (by simp) ?_; simp) | (refine zan (by simp) (by simp [noIds]) (by repeat (first | assumption | exact Ext.refl _ | refine zS ?_ | refine Ext.setF ?_ (by first | assumption | (simp [zk, St.set, zb]; done) | exact zN (by assumption)))) ?_; simp [-cellOK, Zn.zAV, nsE]) | (refine zc (fun hc => ?_) (fun hc => ?_) <;> try simp at hc) | fail)
    rfl
theorem ze6 {n : Nw} (f : Fl) {a b : Int} (hn : NwOK n) (hP : PartsW (zH [n])) :
    PCalls Tryz.prog 13 [zau n f, .raw (.int .i64 a), .raw (.int .i64 b)] (zce n [a, b] (zaI (zH [n]) fun x => zbc (zQ n a x).1 b)) := by
  have hw := zg7 (f := f) (a := a) (b := b) (g := 38) (caps := [.pp [.raw (.int .i64 b)] 0]) (w := fun x => zbc (zQ n a x).1 b) hn hP (by simp) fun x => zkR _ _ _ (by have := znz n a x; have := hn.links; omega)
  have hz := zg6 n [a, b] (zaI (zH [n]) fun x => zbc (zQ n a x).1 b)
  have hcase : (∃ e, zce n [a, b] (zaI (zH [n]) fun x => zbc (zQ n a x).1 b) = .tup [.sl 0 [] true, .raw (.int .i64 e)]) ∨ ∃ z e, zce n [a, b] (zaI (zH [n]) fun x => zbc (zQ n a x).1 b) = .tup [Zn.zAV z false, .raw (.int .i64 e)] := by
    unfold zce
    split
    · exact .inl ⟨_, rfl⟩
    · exact .inr ⟨_, _, rfl⟩
  generalize zce n [a, b] _ = Z at *
  refine zE Tryz.func13 rfl (N := 15) rfl rfl (by simp) hz fun σ => ?_
  repeat (refine ze ?_)
  refine zg ?_
  simp [-cellOK, zs]
  generalize hA0 : put 15 _ _ _ = A0
  have d1 : A0 1 = .raw (.int .i64 a) := by rw [← hA0]; simp [zk]
  have d3 : A0 3 = .rp ⟨3, σ.nx 3, 3⟩ 0 0 := by rw [← hA0]; simp [zk]
  have d5 : A0 5 = .rp ⟨5, σ.nx 5, 1⟩ 0 0 := by rw [← hA0]; simp [zk]
  clear hA0
  refine zai ⟨3, σ.nx 3, 3⟩ ?_
  refine zai ⟨5, σ.nx 5, 1⟩ ?_
  generalize hτ : St.del _ _ = τ
  generalize hA : (fun t => zw _ _ _) = A
  have a1 : A 1 = .raw (.int .i64 a) := by rw [← hA, ← hτ]; simp [zw, d1]
  have a3 : A 3 = .pp (zau n f).cells 0 := by rw [← hA, ← hτ]; simp [zw, St.new, St.del, zs, d3]
  have a5 : A 5 = .pp [.raw (.int .i64 b)] 0 := by rw [← hA, ← hτ]; simp [zw, St.new, St.del, zs, d5]
  have hE : Ext σ τ := by
    rw [← hτ]
    refine ⟨fun i o h => ?_, fun s => ?_⟩
    · have q1 : i ≠ ⟨3, σ.nx 3, 3⟩ := fun e => by rw [e, zb] at h; cases h
      have q2 : i ≠ ⟨5, σ.nx 5, 1⟩ := fun e => by rw [e, zb] at h; cases h
      simp [St.del, St.new, q1, q2, h]
    · simp only [St.del, St.new]
      repeat' split
      all_goals omega
  clear hτ hA d1 d3 d5
  rcases hcase with ⟨e, rfl⟩ | ⟨z, e, rfl⟩
  · have FF := fI @a1 (fI @a3 (fI @a5 (fI @zs @z9))); exact gxA
  · have FF := fI @a1 (fI @a3 (fI @a5 (fI @zs @z9))); exact gxA
end Go.Proofs.YtpboabpapgimoaaGreat.Av
namespace Go.Proofs.YtpboabpapgimoaaGreat.Av
open Go
set_option linter.unusedSimpArgs false
set_option linter.unusedVariables false
set_option maxRecDepth 100000
set_option maxHeartbeats 4000000
set_option pp.maxSteps 600
theorem zfI {n : Nw} (f : Fl) {a b : Int} (hn : NwOK n) (hP : PartsW (zH [n])) :
    PCalls Tryz.prog 15 [zau n f, .raw (.int .i64 a), .raw (.int .i64 b)] (zce n [a, b] (zaI (zH [n]) fun x => zaY (zQ n a x).1 b)) := by
  have hw := zg7 (f := f) (a := a) (b := b) (g := 41) (caps := [.pp [.raw (.int .i64 b)] 0]) (w := fun x => zaY (zQ n a x).1 b) hn hP (by simp) fun x => zji _ _ _
  have hz := zg6 n [a, b] (zaI (zH [n]) fun x => zaY (zQ n a x).1 b)
  have hcase : (∃ e, zce n [a, b] (zaI (zH [n]) fun x => zaY (zQ n a x).1 b) = .tup [.sl 0 [] true, .raw (.int .i64 e)]) ∨ ∃ z e, zce n [a, b] (zaI (zH [n]) fun x => zaY (zQ n a x).1 b) = .tup [Zn.zAV z false, .raw (.int .i64 e)] := by
    unfold zce
    split
    · exact .inl ⟨_, rfl⟩
    · exact .inr ⟨_, _, rfl⟩
  generalize zce n [a, b] _ = Z at *
  refine zE Tryz.func15 rfl (N := 15) rfl rfl (by simp) hz fun σ => ?_
  repeat (refine ze ?_)
  refine zg ?_
  simp [-cellOK, zs]
  generalize hA0 : put 15 _ _ _ = A0
  have d1 : A0 1 = .raw (.int .i64 a) := by rw [← hA0]; simp [zk]
  have d3 : A0 3 = .rp ⟨3, σ.nx 3, 3⟩ 0 0 := by rw [← hA0]; simp [zk]
  have d5 : A0 5 = .rp ⟨5, σ.nx 5, 1⟩ 0 0 := by rw [← hA0]; simp [zk]
  clear hA0
  refine zai ⟨3, σ.nx 3, 3⟩ ?_
  refine zai ⟨5, σ.nx 5, 1⟩ ?_
  generalize hτ : St.del _ _ = τ
  generalize hA : (fun t => zw _ _ _) = A
  have a1 : A 1 = .raw (.int .i64 a) := by rw [← hA, ← hτ]; simp [zw, d1]
  have a3 : A 3 = .pp (zau n f).cells 0 := by rw [← hA, ← hτ]; simp [zw, St.new, St.del, zs, d3]
  have a5 : A 5 = .pp [.raw (.int .i64 b)] 0 := by rw [← hA, ← hτ]; simp [zw, St.new, St.del, zs, d5]
  have hE : Ext σ τ := by
    rw [← hτ]
    refine ⟨fun i o h => ?_, fun s => ?_⟩
    · have q1 : i ≠ ⟨3, σ.nx 3, 3⟩ := fun e => by rw [e, zb] at h; cases h
      have q2 : i ≠ ⟨5, σ.nx 5, 1⟩ := fun e => by rw [e, zb] at h; cases h
      simp [St.del, St.new, q1, q2, h]
    · simp only [St.del, St.new]
      repeat' split
      all_goals omega
  clear hτ hA d1 d3 d5
  rcases hcase with ⟨e, rfl⟩ | ⟨z, e, rfl⟩
  · have FF := fI @a1 (fI @a3 (fI @a5 (fI @zs @z9))); exact gxA
  · have FF := fI @a1 (fI @a3 (fI @a5 (fI @zs @z9))); exact gxA
def zre (b : Bool) (z : List Rg) : AV := if b then .tup [.sl 0 [] true, .raw (.int .i64 91)] else .tup [Zn.zAV z false, .raw (.int .i64 0)]
end Go.Proofs.YtpboabpapgimoaaGreat.Av
namespace Go.Proofs.YtpboabpapgimoaaGreat.Av
open Go
set_option linter.unusedSimpArgs false
set_option linter.unusedVariables false
set_option maxRecDepth 100000
set_option maxHeartbeats 4000000
set_option pp.maxSteps 600
end Go.Proofs.YtpboabpapgimoaaGreat.Av
namespace Go.Proofs.YtpboabpapgimoaaGreat.Av
open Go
set_option linter.unusedSimpArgs false
set_option linter.unusedVariables false
set_option maxRecDepth 100000
set_option maxHeartbeats 4000000
set_option pp.maxSteps 600
def endC (c : List Int) (i : Nat) : Int := match c[i + 1]? with | some y => y - 1 | none => 4294967295
end Go.Proofs.YtpboabpapgimoaaGreat.Av
namespace Go.Proofs.YtpboabpapgimoaaGreat.Av
open Go
set_option linter.unusedSimpArgs false
set_option linter.unusedVariables false
set_option maxRecDepth 100000
set_option maxHeartbeats 4000000
set_option pp.maxSteps 600
end Go.Proofs.YtpboabpapgimoaaGreat.Av
namespace Go.Proofs.YtpboabpapgimoaaGreat.Av
open Go
set_option linter.unusedSimpArgs false
set_option linter.unusedVariables false
set_option maxRecDepth 100000
set_option maxHeartbeats 4000000
set_option pp.maxSteps 600
@[simp] theorem zwG (ops : List Oper) (rcs : Oper → Bool) (o : Oper) : (zch ops rcs o).o = o := rfl
end Go.Proofs.YtpboabpapgimoaaGreat.Av
namespace Go.Proofs.YtpboabpapgimoaaGreat.Av
open Go
set_option linter.unusedSimpArgs false
set_option linter.unusedVariables false
set_option maxRecDepth 100000
set_option maxHeartbeats 4000000
set_option pp.maxSteps 600
theorem zkq {l : List Nw} (h : ∀ n ∈ l, zax n = true) : (zaB l).length ≤ 40 * l.length := by
  induction l with
  | nil => simp [zaB]
  | cons n l ih =>
    have h1 := (zfp (h n (by simp))).2
    have h2 := ih fun m hm => h m (by simp [hm])
    unfold zaB at h2 ⊢
    rw [List.flatMap_cons, List.length_append, List.length_map, List.length_cons]
    omega
theorem zmF {l : List Nw} (h : ∀ n ∈ l, zax n = true) (hl : l.length ≤ 12) (r : Rg) : zb0 l r = if r.hi < r.lo then [] else zdS (zaG (zaB l)) r := by
  unfold zb0
  have := zkq h
  rw [zlE (zoD h) (by omega), zi3 (List.reverse_perm _)]
end Go.Proofs.YtpboabpapgimoaaGreat.Av
namespace Go.Proofs.YtpboabpapgimoaaGreat.Av
open Go
set_option linter.unusedSimpArgs false
set_option linter.unusedVariables false
set_option maxRecDepth 100000
set_option maxHeartbeats 4000000
set_option pp.maxSteps 600
theorem zl0 {l : List Nw} (r : Rg) : (zb0 l r).Pairwise fun a b => a.hi < b.lo := by
  unfold zb0
  split
  · simp
  · exact zoC (zby _).srt r
theorem zhp {l : List Nw} (h : ∀ n ∈ l, zax n = true) (hl : l.length ≤ 2) : PartsOK (zH l) where
  len := by
    have h1 := zkq h
    have h2 := zki (zaB l)
    unfold zH
    rw [zmF h (by omega), if_neg (by decide)]
    have h3 : (zdS (zaG (zaB l)) zbq).length ≤ (zaE (zaG (zaB l))).length := List.length_filterMap_le _ _
    rw [zcW] at h3
    omega
  inz := fun r hr => by
    obtain ⟨h1, h2, h3⟩ := zdU hr
    have e1 : zbq.lo = 0 := rfl
    have e2 : zbq.hi = 4294967295 := rfl
    exact ⟨by omega, by omega, by omega, by omega⟩
  ord := fun r hr => (zdU hr).2.1
def zbv (z Q : List Rg) : List Rg := Q.foldl (fun z r => Zn.joinZ z r.lo r.hi) z
theorem zg8 : ∀ (Q z : List Rg), Zn.RZ (-1) z → (∀ q ∈ Q, ∀ r ∈ z, r.hi < q.lo) → (∀ q ∈ Q, 0 ≤ q.lo ∧ q.lo ≤ q.hi) → (Q.Pairwise fun a b => a.hi < b.lo) →
    Zn.RZ (-1) (zbv z Q) ∧ ∀ a, Zn.MZ (zbv z Q) a ↔ Zn.MZ z a ∨ Zn.MZ Q a
  | [], z, h1, _, _, _ => ⟨h1, fun a => by
      have : ¬ Zn.MZ [] a := Zn.mz_nil
      simp [zbv, this]⟩
  | q :: Q, z, h1, h2, h3, h4 => by
    obtain ⟨p1, p2⟩ := List.pairwise_cons.1 h4
    obtain ⟨k1, k2⟩ := h3 q (by simp)
    obtain ⟨j1, j2, j3⟩ := Zn.joinZ_spec z (-1) q.lo q.hi h1 (h2 q (by simp)) (by omega) k2
    obtain ⟨i1, i2⟩ := zg8 Q (Zn.joinZ z q.lo q.hi) j1 (fun s hs r hr => by have := j3 r hr; have := p1 s hs; omega) (fun s hs => h3 s (by simp [hs])) p2
    refine ⟨i1, fun a => ?_⟩
    have : zbv z (q :: Q) = zbv (Zn.joinZ z q.lo q.hi) Q := rfl
    rw [this, i2, j2, Zn.mz_cons, or_assoc]
theorem znS {Q : List Rg} (hi : Zn.InZ Q) (ho : ∀ r ∈ Q, r.lo ≤ r.hi) (hs : Q.Pairwise fun a b => a.hi < b.lo) : zbv [] Q = Zn.refOfZ Q := by
  obtain ⟨h1, h2⟩ := zg8 Q [] trivial (by simp) (fun q hq => ⟨(hi q hq).1, ho q hq⟩) hs
  obtain ⟨k1, k2, _⟩ := Zn.refOfZ_spec hi
  refine Zn.zone_eq h1 k1 fun a => ?_
  rw [h2, k2]
  exact ⟨fun h => h.resolve_left Zn.mz_nil, .inr⟩
theorem zgA {l : List Nw} (h : PartsOK (zH l)) (w : Int → Bool) : zbv [] ((zH l).filter fun r => w r.lo) = zaI (zH l) w :=
  znS (fun r hr => h.inz r (List.mem_filter.1 hr).1) (fun r hr => h.ord r (List.mem_filter.1 hr).1) ((zl0 zbq).filter _)
theorem zhN : ∀ (Q z : List Rg), (zbv z Q).length ≤ z.length + Q.length
  | [], z => by simp [zbv]
  | q :: Q, z => by
    have h1 := zhN Q (Zn.joinZ z q.lo q.hi)
    have h2 := Zn.joinZ_len z q.lo q.hi
    have : zbv z (q :: Q) = zbv (Zn.joinZ z q.lo q.hi) Q := rfl
    rw [this, List.length_cons]
    omega
end Go.Proofs.YtpboabpapgimoaaGreat.Av
namespace Go.Proofs.YtpboabpapgimoaaGreat.Av
open Go
set_option linter.unusedSimpArgs false
set_option linter.unusedVariables false
set_option maxRecDepth 100000
set_option maxHeartbeats 4000000
set_option pp.maxSteps 600
def zyY (how : Int) (t : Tk) (b : Int) : Bool := (decide (how = 1) && zbc t b) || (decide (how = 2) && zaY t b)
end Go.Proofs.YtpboabpapgimoaaGreat.Av
namespace Go.Proofs.YtpboabpapgimoaaGreat.Av
open Go
set_option linter.unusedSimpArgs false
set_option linter.unusedVariables false
set_option maxRecDepth 100000
set_option maxHeartbeats 4000000
set_option pp.maxSteps 600
end Go.Proofs.YtpboabpapgimoaaGreat.Av
namespace Go.Proofs.YtpboabpapgimoaaGreat.Av
open Go
set_option linter.unusedSimpArgs false
set_option linter.unusedVariables false
set_option maxRecDepth 100000
set_option maxHeartbeats 4000000
set_option pp.maxSteps 600
end Go.Proofs.YtpboabpapgimoaaGreat.Av
namespace Go.Proofs.YtpboabpapgimoaaGreat.Av
open Go
set_option linter.unusedSimpArgs false
set_option linter.unusedVariables false
set_option maxRecDepth 100000
set_option maxHeartbeats 4000000
set_option pp.maxSteps 600
def zg9 (j : Id) : AV → Prop
  | .rp i _ _ => i ≠ j
  | .rs i _ _ => i ≠ j
  | _ => True
theorem znT {σ : St} {j : Id} : ∀ {v : AV}, zg9 j v → zw (σ.del j).m σ.m v = v
  | .rp _ _ _, h => zdv h
  | .rs _ _ _, h => zeV h
  | .raw _, _ | .agg _, _ | .tup _, _ | .pp _ _, _ | .sl _ _ _, _ | .fn _ _ _, _ | .mp _, _ | .ifc _ _, _ | .any, _ => rfl
theorem zmG {P : Program} {N : Nat} {A : zD} {σ : St} {r : Option Nat} {K : Exit → zD → St → Prop} {c : Code} (j : Id) {a : AV} (hj : σ.m j = some (.buf [a]))
    (h : ∀ B : zD, (∀ t v, A t = v → zg9 j v → B t = v) → (∀ t off, A t = .rp j 0 off → B t = .pp a.cells off) → AWP P r N c K B (σ.del j)) : AWP P r N c K A σ := by
  refine zai j (h _ (fun t v e hv => ?_) fun t off e => ?_)
  · show zw _ _ (A t) = _
    rw [e, znT hv]
  · show zw _ _ (A t) = _
    rw [e, zcU (by simp [St.del]) hj rfl]
def zea (v : AV) (j : Id) : Prop := ∃ l, v = .rs j 0 l
def upC (c : Nat → AV) (k : Nat) (x : AV) : Nat → AV := fun j => if j = k then x else c j
def za1 (c : Nat → AV) : List AV := [c 0, c 1, c 2, c 3, c 4]
structure OwnC (σ0 τ : St) (lo : Nat) (c : Nat → AV) (es : Nat → List AV) : Prop where
  own : ∀ k, lo ≤ k → k < 5 → OwnL σ0 τ 2 (c k) (es k)
  ap : ∀ a b i, lo ≤ a → a < 5 → lo ≤ b → b < 5 → zea (c a) i → zea (c b) i → a = b
theorem zfJ {σ0 τ : St} {n : Nat} {v : AV} {es : List AV} (h : OwnL σ0 τ n v es) {i : Id} (hi : zea v i) : i.sz = n ∧ τ.m i = some (.buf es) ∧ σ0.m i = none := by
  obtain ⟨l, e⟩ := hi
  rcases h with ⟨_, rfl⟩ | ⟨j, rfl, h1, h2, h3⟩
  · cases e
  · injection e with e; subst e; exact ⟨h1, h2, h3⟩
theorem zjT {σ0 τ ρ : St} {n : Nat} {v : AV} {es : List AV} (h : OwnL σ0 τ n v es) (hm : ∀ i o, zea v i → τ.m i = some o → ρ.m i = some o) : OwnL σ0 ρ n v es := by
  rcases h with h | ⟨j, rfl, h1, h2, h3⟩
  · exact .inl h
  · exact .inr ⟨j, rfl, h1, hm _ _ ⟨_, rfl⟩ h2, h3⟩
theorem zff {σ0 τ : St} {n : Nat} {v : AV} {es : List AV} (h : OwnL σ0 τ n v es) : v.cells = [v] ∧ cellOK v = true := by
  rcases h with ⟨_, rfl⟩ | ⟨j, rfl, h1, h2, h3⟩
  · exact ⟨rfl, rfl⟩
  · exact ⟨rfl, rfl⟩
theorem OwnC.one {σ0 τ : St} {lo : Nat} {c : Nat → AV} {es : Nat → List AV} (h : OwnC σ0 τ lo c es) (hE : Ext σ0 τ) {k : Nat} (hk : lo ≤ k) (hk5 : k < 5) :
    ∃ σ1, OwnL σ1 τ 2 (c k) (es k) ∧ Ext σ1 τ ∧ Ext σ0 σ1 ∧ ∀ i o, τ.m i = some o → ¬ zea (c k) i → σ1.m i = some o := by
  rcases h.own k hk hk5 with ⟨h1, h2⟩ | ⟨j, h1, h2, h3, h4⟩
  · exact ⟨τ, .inl ⟨h1, h2⟩, Ext.refl _, hE, fun i o h _ => h⟩
  · refine ⟨τ.del j, .inr ⟨j, h1, h2, h3, by simp [St.del]⟩, ⟨fun i o h => ?_, fun s => Nat.le_refl _⟩, ⟨fun i o h => ?_, hE.nx⟩, fun i o h hn => ?_⟩
    · by_cases e : i = j
      · subst e; simp [St.del] at h
      · rwa [zL e] at h
    · rw [zL (fun e => by rw [e, h4] at h; cases h)]; exact hE.m i o h
    · rw [zL (fun e => hn ⟨_, by rw [h1, e]⟩)]; exact h
theorem OwnC.rest {σ0 σ1 τ τ' : St} {lo : Nat} {c : Nat → AV} {es : Nat → List AV} (h : OwnC σ0 τ lo c es) {k : Nat} (hk : lo ≤ k) (hk5 : k < 5) (hE' : Ext σ1 τ') (hs : ∀ i o, τ.m i = some o → ¬ zea (c k) i → σ1.m i = some o)
    {a : Nat} (ha : lo ≤ a) (ha5 : a < 5) (hne : a ≠ k) : OwnL σ0 τ' 2 (c a) (es a) :=
  zjT (h.own a ha ha5) fun i o hi hm => hE'.m i o (hs i o hm fun e => hne (h.ap a k i ha ha5 hk hk5 hi e))
theorem OwnC.upd {σ0 σ1 τ τ' : St} {lo : Nat} {c : Nat → AV} {es : Nat → List AV} (h : OwnC σ0 τ lo c es) {k : Nat} (hk : lo ≤ k) (hk5 : k < 5) {v' : AV} {es' : List AV} (h1 : OwnL σ1 τ' 2 v' es') (hE' : Ext σ1 τ') (h0 : Ext σ0 σ1)
    (hs : ∀ i o, τ.m i = some o → ¬ zea (c k) i → σ1.m i = some o) : OwnC σ0 τ' lo (upC c k v') (fun j => if j = k then es' else es j) where
  own := fun j hj hj5 => by
    by_cases e : j = k
    · subst e
      simp only [upC, if_true]
      rcases h1 with h1 | ⟨i, a, b, c, d⟩
      · exact .inl h1
      · exact .inr ⟨i, a, b, c, zm0 h0 d⟩
    · simp only [upC, e, if_false]
      exact h.rest hk hk5 hE' hs hj hj5 e
  ap := fun a b i ha ha5 hb hb5 ia ib => by
    have key : ∀ b, lo ≤ b → b < 5 → b ≠ k → zea v' i → zea (c b) i → False := fun b hb hb5 hbk h2 h3 => by
      obtain ⟨_, q1, _⟩ := zfJ (h.own b hb hb5) h3
      have q2 := hs i _ q1 fun e => hbk (h.ap b k i hb hb5 hk hk5 h3 e)
      rw [(zfJ h1 h2).2.2] at q2
      cases q2
    by_cases e : a = k
    · by_cases e2 : b = k
      · rw [e, e2]
      · simp only [upC, e, e2, if_true, if_false] at ia ib
        exact (key b hb hb5 e2 ia ib).elim
    · by_cases e2 : b = k
      · simp only [upC, e, e2, if_true, if_false] at ia ib
        exact (key a ha ha5 e ib ia).elim
      · simp only [upC, e, e2, if_false] at ia ib
        exact h.ap a b i ha ha5 hb hb5 ia ib
theorem OwnC.drop {σ0 σ1 τ τ' : St} {k : Nat} {c : Nat → AV} {es : Nat → List AV} (h : OwnC σ0 τ k c es) (hk5 : k < 5) (x : AV) (hE' : Ext σ1 τ') (hs : ∀ i o, τ.m i = some o → ¬ zea (c k) i → σ1.m i = some o) : OwnC σ0 τ' (k + 1) (upC c k x) es where
  own := fun j hj hj5 => by
    have e : j ≠ k := by omega
    simp only [upC, e, if_false]
    exact h.rest (Nat.le_refl _) hk5 hE' hs (by omega) hj5 e
  ap := fun a b i ha ha5 hb hb5 ia ib => by
    have e : a ≠ k := by omega
    have e2 : b ≠ k := by omega
    simp only [upC, e, e2, if_false] at ia ib
    exact h.ap a b i (by omega) ha5 (by omega) hb5 ia ib
theorem OwnC.up {σ0 τ ρ : St} {lo : Nat} {c : Nat → AV} {es : Nat → List AV} (h : OwnC σ0 τ lo c es) (hm : ∀ i o, i.sz = 2 → τ.m i = some o → ρ.m i = some o) : OwnC σ0 ρ lo c es where
  own := fun k h1 h2 => zjT (h.own k h1 h2) fun i o hi => hm i o (zfJ (h.own k h1 h2) hi).1
  ap := h.ap
theorem zpF (n : Nw) (d a : Int) : 0 ≤ (zao n d a).1 ∧ (zao n d a).1 < 5 := by
  unfold zao
  repeat' split
  all_goals simp
theorem zkr (n : Nw) (a : Int) : ∀ (f : Nat) (d : Int) (p : List Int), 0 ≤ (zbi n a f d p).out ∧ (zbi n a f d p).out < 5
  | 0, _, _ => by simp [zbi]
  | f + 1, d, p => by
    unfold zbi
    split
    · simp
    · split
      · exact zkr n a f _ _
      · exact zpF n d a
theorem zha (n : Nw) (d a : Int) : ∃ k : Nat, (zQ n d a).1.out = (k : Int) ∧ k < 5 := by
  have h : 0 ≤ (zQ n d a).1.out ∧ (zQ n d a).1.out < 5 := by
    unfold zQ
    split
    · simp
    · exact zkr n a _ d []
  exact ⟨(zQ n d a).1.out.toNat, by omega, by omega⟩
def za5 (n : Nw) (d : Int) (Q : List Rg) (k : Nat) : List Rg := Q.filter fun r => decide ((zQ n d r.lo).1.out = (k : Int))
def zeb (n : Nw) (d : Int) (P : List Rg) (k : Nat) : List Rg := zaI P fun a => decide ((zQ n d a).1.out = (k : Int))
def zO (n : Nw) (d : Int) (k : Nat) : List Rg := if zaC n d = true then [] else zeb n d (zH [n]) k
def zen (n : Nw) (d : Int) : AV := .tup [.agg (za1 fun k => Zn.zAV (zO n d k) false), .raw (.int .i64 (if zaC n d = true then 91 else 0))]
@[simp] theorem zt6 (K : Id → Prop) (F : Nat → List Rg) : zV K (za1 fun k => Zn.zAV (F k) false) := by simp [za1, zV]
theorem zoT : ∀ S vs, LRel S [] vs → LRel S [] vs := fun _ _ h => h
theorem zcY {a b : AV} {l m : List AV} (h : Weaker a b) (hl : ∀ S vs, LRel S l vs → LRel S m vs) : ∀ S vs, LRel S (a :: l) vs → LRel S (b :: m) vs := fun S vs hv => by
  simp only [LRel] at hv ⊢
  obtain ⟨u, us, h1, h2, h3⟩ := hv
  exact ⟨u, us, h1, h _ _ h2, hl _ _ h3⟩
theorem zmH {l m : List AV} (hl : ∀ S vs, LRel S l vs → LRel S m vs) : Weaker (.agg l) (.agg m) := by
  intro S v hv
  simp only [VRel] at hv ⊢
  obtain ⟨w, e, h⟩ := hv
  exact ⟨w, e, hl _ _ h⟩
theorem zmI {a b : Nat → AV} {u : AV} (h : ∀ k, k < 5 → Weaker (a k) (b k)) : Weaker (.tup [.agg (za1 a), u]) (.tup [.agg (za1 b), u]) :=
  weaker_tup (zmH (zcY (h 0 (by omega)) (zcY (h 1 (by omega)) (zcY (h 2 (by omega)) (zcY (h 3 (by omega)) (zcY (h 4 (by omega)) zoT))))))
theorem znU (n : Nw) (d : Int) : noIds (zen n d) := by simp [noIds, zen, za1]
end Go.Proofs.YtpboabpapgimoaaGreat.Av
namespace Go.Proofs.YtpboabpapgimoaaGreat.Av
open Go
set_option linter.unusedSimpArgs false
set_option linter.unusedVariables false
set_option maxRecDepth 100000
set_option maxHeartbeats 4000000
set_option pp.maxSteps 600
theorem zhO {n : Nw} (f : Fl) {d : Int} (hn : NwOK n) (hP : PartsW (zH [n])) :
    PCalls Tryz.prog 10 [zau n f, .raw (.int .i64 d)] (zen n d) := by
  have hhas := zjh n f [d] false (by simp)
  have hz := znU n d
  refine zE Tryz.func10 rfl (N := 66) rfl rfl (by simp) hz fun σ => ?_
  repeat (refine ze ?_)
  refine zg ?_
  simp [-cellOK, zs]
  generalize hA0 : put 66 _ _ _ = A0
  have d1 : A0 1 = .raw (.int .i64 d) := by rw [← hA0]; simp [zk]
  have d2 : A0 2 = .rp ⟨2, σ.nx 2, 3⟩ 0 0 := by rw [← hA0]; simp [zk]
  have d4 : A0 4 = .rp ⟨4, σ.nx 4, 5⟩ 0 0 := by rw [← hA0]; simp [zk]
  clear hA0
  refine zai ⟨2, σ.nx 2, 3⟩ ?_
  generalize hτ : St.del _ _ = τ
  generalize hA : (fun t => zw _ _ _) = A
  have a1 : A 1 = .raw (.int .i64 d) := by rw [← hA, ← hτ]; simp [zw, d1]
  have a2 : A 2 = .pp (zau n f).cells 0 := by rw [← hA, ← hτ]; simp [zw, St.new, St.del, zs, d2]
  have a4 : A 4 = .rp ⟨4, σ.nx 4, 5⟩ 0 0 := by rw [← hA, ← hτ]; simp [zw, St.new, St.del, zs, d4]
  have m4 : τ.m ⟨4, σ.nx 4, 5⟩ = some (.buf [.agg [.sl 0 [] true, .sl 0 [] true, .sl 0 [] true, .sl 0 [] true, .sl 0 [] true]]) := by rw [← hτ]; simp [St.new, St.del]
  have f4 : σ.m ⟨4, σ.nx 4, 5⟩ = none := zb _ _ _
  have hE : Ext σ τ := by
    rw [← hτ]
    refine ⟨fun i o h => ?_, fun s => ?_⟩
    · have q1 : i ≠ ⟨2, σ.nx 2, 3⟩ := fun e => by rw [e, zb] at h; cases h
      have q2 : i ≠ ⟨4, σ.nx 4, 5⟩ := fun e => by rw [e, zb] at h; cases h
      simp [St.del, St.new, q1, q2, h]
    · simp only [St.del, St.new]
      repeat' split
      all_goals omega
  clear hτ hA d1 d2 d4
  generalize σ.nx 4 = s4 at *
  have FF := fI @a1 (fI @a2 (fI @a4 (fI @zs (fI @z9 (fI @zR @zk))))); refine gxC ?_; clear FF
  refine PCalls.useLent (n := 1) (es := [.raw (.int .i64 d)]) (σ0 := σ) hhas rfl (OwnL.of rfl (by simp [zR, zk]) (zN hE) (by simp)) ?_
  have hnil : (Ob.buf [AV.agg [AV.sl 0 [] true, AV.sl 0 [] true, AV.sl 0 [] true, AV.sl 0 [] true, AV.sl 0 [] true]]) = .buf [.agg (za1 fun _ => .sl 0 [] true)] := rfl
  cases hb : [d].any (zaC n) with
  | true =>
    have hb1 : zaC n d = true := by simpa using hb
    have FF := fI @a1 (fI @a2 (fI @a4 (fI @m4 (fI @zR (fI @z0 @zk))))); refine gxC ?_; clear FF
    refine zei (x := .tup [.agg (za1 fun _ => .sl 0 [] true), .raw (.int .i64 91)]) (.inr rfl) exA (by simp [a4, za1, zR, z0, zk, m4]) ?_
    unfold zen zO
    rw [hb1]
    simp only [zZ, zw, za1, List.map_cons, List.map_nil, if_true]
    exact zmI (a := fun _ => .sl 0 [] true) (b := fun _ => Zn.zAV [] false) fun k _ => za7
  | false =>
    have hb1 : zaC n d = false := by simpa using hb
    refine goD ?_
    iterate 2 (first | ((first | refine zf ?_ | refine zg ?_ | refine dN (by decide +kernel) ?_ | refine dC (by decide +kernel) ?_ | (refine za ?_ ?_ <;> (intro hg; simp only [hg])) | fail) <;> simp [-cellOK, a1, a2, a4]) | refine ze ?_ | refine zd ?_ | (refine zA ?_; simp only [zB]; try simp) | (refine zc (fun hc => ?_) (fun hc => ?_) <;> try simp at hc) | fail)
    refine ze ?_
    refine zbL (fun o => o.dst == some 23) zdw (by decide +kernel) ?_
    simp [-cellOK, a1, a2, a4, zs, z9, zR, zk]
    refine .inl ⟨_, .inl zhK, ?_⟩
    rw [hnil]
    refine ACalls.freeze ⟨22, τ.nx 22, 3⟩ ?_
    have f22 : σ.m ⟨22, τ.nx 22, 3⟩ = none := zN hE
    have f6 : σ.m ⟨6, τ.nx 6, 5⟩ = none := zN hE
    have n22 : (4 : Nat) ≠ 22 := by decide
    generalize hρ : St.del _ _ = ρ
    have hmap : List.map (zw ρ.m (((τ.new 6 5 (.buf [.agg (za1 fun _ => .sl 0 [] true)])).new 16 1 (.buf [.raw (.int .i64 d)])).new 22 3 (.buf [zau n f])).m) [.rs ⟨22, τ.nx 22, 3⟩ 0 1, zl ⟨0, 4294967295⟩] = [zbt [(n, f)] false, zl zbq] := by
      rw [← hρ, List.map_cons, List.map_cons, List.map_nil, zcj (es := [zau n f]) (by simp [St.del]) (by simp [zR, zk]) (by simp)]
      rfl
    rw [hmap]
    have hE2 : Ext σ ρ := by rw [← hρ]; exact Ext.delZ (zS (zS (zS hE))) f22
    have r4 : ρ.m ⟨4, s4, 5⟩ = some (.buf [.agg (za1 fun _ => .sl 0 [] true)]) := by
      rw [← hρ, ← hnil]; simp [St.del, zR, z0, m4]
    have r6 : ρ.m ⟨6, τ.nx 6, 5⟩ = some (.buf [.agg (za1 fun _ => .sl 0 [] true)]) := by
      rw [← hρ]; simp [St.del, zR, z0, zk]
    clear hρ hmap f22 hE m4 hb
    generalize τ.nx 6 = s6 at *
    have hcut := zoy [(n, f)] false zbq ⟨by decide, by decide, by decide, by decide⟩ (by simp [hn]) (by simp)
    have hce : (if zbq.hi < zbq.lo then (31 : Int) else 0) = 0 := by decide
    rw [hce] at hcut
    have hPe : zb0 (List.map (fun x : Nw × Fl => x.1) [(n, f)]) zbq = zH [n] := rfl
    rw [hPe] at hcut
    have hlen := hP.len
    have hinz := hP.inz
    have hord := hP.ord
    have hfz : zen n d = .tup [.agg (za1 fun k => Zn.zAV (zeb n d (zH [n]) k) false), .raw (.int .i64 0)] := by
      unfold zen zO; rw [hb1]; rfl
    rw [hfz]
    clear hfz hz hP hPe hce hnil hhas
    generalize zH [n] = P at *
    refine hcut.use ?_
    have FF := fI @a1 (fI @a2 @a4); refine gxB ?_; clear FF
    have hfst : ∀ Q : List Rg, ∀ k : Nat, za5 n d Q k = Q.filter fun r => decide ((zQ n d r.lo).1.out = (k : Int)) := fun _ _ => rfl
    refine za8 (fun B ρ' => ∃ c, OwnC σ ρ' 0 c (fun k => (za5 n d P k).map zl) ∧ Ext σ ρ' ∧ B 4 = .rp ⟨4, s4, 5⟩ 0 0 ∧ B 6 = .rp ⟨6, s6, 5⟩ 0 0 ∧ ρ'.m ⟨4, s4, 5⟩ = some (.buf [.agg (za1 fun _ => .sl 0 [] true)]) ∧ ρ'.m ⟨6, s6, 5⟩ = some (.buf [.agg (za1 c)])) ?_ ?_
    · intro R1 hR1
      refine zU (fun n' B ρ' => Ext σ ρ' ∧ B 1 = .raw (.int .i64 d) ∧ B 2 = .pp (zau n f).cells 0 ∧ B 4 = .rp ⟨4, s4, 5⟩ 0 0 ∧ B 6 = .rp ⟨6, s6, 5⟩ 0 0 ∧ B 27 = zbl P false ∧ B 28 = .raw (.int .i64 P.length) ∧ ρ'.m ⟨4, s4, 5⟩ = some (.buf [.agg (za1 fun _ => .sl 0 [] true)]) ∧ ∃ (i : Nat) (c : Nat → AV), B 29 = .raw (.int .i64 i) ∧ i ≤ P.length ∧ n' = P.length - i ∧ ρ'.m ⟨6, s6, 5⟩ = some (.buf [.agg (za1 c)]) ∧ OwnC σ ρ' 0 c (fun k => (za5 n d (P.take i) k).map zl)) P.length ?_ ?_
      · exact ⟨hE2, by simp [a1], by simp [a2], by simp [a4], by simp, by simp [zbl], by simp [zbl], r4, 0, _, by simp, by omega, by omega, r6, ⟨fun k _ _ => .inl ⟨by simp [za5], rfl⟩, fun a b i _ _ _ _ ⟨l, h⟩ => by cases h⟩⟩
      clear a1 a2 a4 hE2 r4 r6
      rintro n' B ρ' ⟨hE, a1, a2, a4, a6, a27, a28, m4, i, c, a29, hi, rfl, m6, hC⟩ I1 hI1
      by_cases hlt : i < P.length
      · have hxx : P[i]? = some P[i] := List.getElem?_eq_getElem hlt
        have w1 : IntKind.i64.wrap ((i : Int) + 1) = ((i + 1 : Nat) : Int) := by rw [zh (by omega) (by omega)]; omega
        have h1 := zhJ n f d P[i].lo hn
        obtain ⟨k, hk, hk5⟩ := zha n d P[i].lo
        have hsum : ∀ j : Nat, za5 n d (P.take (i + 1)) j = za5 n d (P.take i) j ++ (if j = k then [P[i]] else []) := fun j => by
          unfold za5
          rw [List.take_add_one, hxx, List.filter_append]
          simp only [Option.toList_some, List.filter_cons, List.filter_nil, hk]
          congr 1
          by_cases e : j = k
          · subst e; simp
          · have : ¬ ((k : Int) = (j : Int)) := by omega
            simp [e, this]
        have hll : ∀ j : Nat, (za5 n d (P.take i) j).length < 2 ^ 38 := fun j => by
          have h2 := List.length_filter_le (fun r : Rg => decide ((zQ n d r.lo).1.out = (j : Int))) (P.take i)
          rw [List.length_take] at h2
          unfold za5
          omega
        obtain ⟨r, hr'⟩ : ∃ r, P[i] = r := ⟨_, rfl⟩
        rw [hr'] at hxx hsum h1 hk
        generalize (zQ n d r.lo).2 = eT at h1
        generalize (zQ n d r.lo).1 = T at *
        have hck : ∀ j, j < 5 → (c j).cells = [c j] ∧ cellOK (c j) = true := fun j hj => zff (hC.own j (Nat.zero_le _) hj)
        have c0 := hck 0 (by omega)
        have c1 := hck 1 (by omega)
        have c2 := hck 2 (by omega)
        have c3 := hck 3 (by omega)
        have c4 := hck 4 (by omega)
        (try ((first | with_reducible refine zo ?_ | with_reducible refine zt ?_ | with_reducible refine zu ?_); simp [-cellOK, a1, a2, a4, a6, a27, a28, a29, m6, hlt, hxx, hr', zbl, rg_cells, rg_fold, zs, z9, zbS, zdT, -zC, zR, z0, zk])); repeat' (first | ((first | refine zf ?_ | refine zg ?_ | refine dN (by decide +kernel) ?_ | refine dC (by decide +kernel) ?_ | refine uP (h1) ?_ | refine .inl ⟨_, .inl (h1), ?_⟩ | (refine za ?_ ?_ <;> (intro hg; simp only [hg])) | fail) <;> simp [-cellOK, a1, a2, a4, a6, a27, a28, a29, m6, hlt, hxx, hr', zbl, rg_cells, rg_fold, zs, z9, zbS, zdT, -zC, zR, z0, zk]) | refine ze ?_ | refine zd ?_ | (refine zA ?_; simp only [zB]; try simp) | (refine zm (by simp) ?_; simp) | (refine zan (by simp) (by simp [noIds]) (by repeat (first | assumption | exact Ext.refl _ | refine zS ?_ | refine Ext.setF ?_ (by first | assumption | (simp [zk, St.set, zb]; done) | exact zN (by assumption)))) ?_; simp [-cellOK, a1, a2, a4, a6, a27, a28, a29, m6, hlt, hxx, hr', zbl, rg_cells, rg_fold, zs, z9, zbS, zdT, -zC, zR, z0, zk, nsE]) | (refine zc (fun hc => ?_) (fun hc => ?_) <;> try simp at hc) | fail)
        generalize hA0 : put 66 _ _ _ = A0
        have d1 : A0 1 = .raw (.int .i64 d) := by rw [← hA0]; simp [a1]
        have d2 : A0 2 = .pp (zau n f).cells 0 := by rw [← hA0]; simp [a2]
        have d4 : A0 4 = .rp ⟨4, s4, 5⟩ 0 0 := by rw [← hA0]; simp [a4]
        have d6 : A0 6 = .rp ⟨6, s6, 5⟩ 0 0 := by rw [← hA0]; simp [a6]
        have d10 : A0 10 = .rp ⟨10, ρ'.nx 10, 2⟩ 0 0 := by rw [← hA0]; simp
        have d11 : A0 11 = .rp ⟨11, ρ'.nx 11, 4⟩ 0 0 := by rw [← hA0]; simp
        have d27 : A0 27 = zbl P false := by rw [← hA0]; simp [a27]
        have d28 : A0 28 = .raw (.int .i64 P.length) := by rw [← hA0]; simp [a28]
        have d29 : A0 29 = .raw (.int .i64 i) := by rw [← hA0]; simp [a29]
        clear hA0
        refine zmG ⟨11, ρ'.nx 11, 4⟩ (a := zdL T false) (by simp [zR, z0, zk]) fun B2 kp fz => ?_
        have b1 := kp 1 _ d1 trivial
        have b2 := kp 2 _ d2 trivial
        have b4 := kp 4 _ d4 (by simp [zg9])
        have b6 := kp 6 _ d6 (by simp [zg9])
        have b10 := kp 10 _ d10 (by simp [zg9])
        have b11 := fz 11 _ d11
        have b27 := kp 27 _ d27 trivial
        have b28 := kp 28 _ d28 trivial
        have b29 := kp 29 _ d29 trivial
        clear kp fz d1 d2 d4 d6 d10 d11 d27 d28 d29 a1 a2 a4 a6 a27 a28 a29 A0
        generalize hρ : St.del _ _ = ρ
        have g4 : ρ.m ⟨4, s4, 5⟩ = some (.buf [.agg (za1 fun _ => .sl 0 [] true)]) := by rw [← hρ]; simp [St.del, zR, z0, m4]
        have g6 : ρ.m ⟨6, s6, 5⟩ = some (.buf [.agg (za1 c)]) := by rw [← hρ]; simp [St.del, zR, z0, m6]
        have g10 : ρ.m ⟨10, ρ'.nx 10, 2⟩ = some (.buf [zl r]) := by rw [← hρ]; simp [St.del, zR, z0, zk]
        have hEr : Ext ρ' ρ := by rw [← hρ]; exact Ext.delZ exA (zb _ _ _)
        clear hρ m4 m6
        have hE3 := hE.trans hEr
        have hC3 := hC.up (ρ := ρ) fun i o _ => hEr.m i o
        clear hC hE hEr
        generalize ρ'.nx 10 = s10 at *
        have hk4 : k = 0 ∨ k = 1 ∨ k = 2 ∨ k = 3 ∨ k = 4 := by omega
        obtain ⟨σ1, hO1, hE1, h01, hs1⟩ := hC3.one hE3 (Nat.zero_le k) hk5
        simp only [za1] at g6
        refine zbL (lsO [42]) zdw (by decide +kernel) ?_
        have fin : ∀ v' τ', OwnL σ1 τ' 2 v' ((za5 n d (P.take i) k).map zl ++ [zl r]) → Ext σ1 τ' → OwnC σ τ' 0 (upC c k v') (fun j => (za5 n d (P.take (i + 1)) j).map zl) := fun v' τ' h1 h2 => by
          have := hC3.upd (Nat.zero_le k) hk5 h1 h2 h01 hs1
          have e : (fun j => if j = k then (za5 n d (P.take i) k).map zl ++ [zl r] else (za5 n d (P.take i) j).map zl) = fun j => (za5 n d (P.take (i + 1)) j).map zl := by
            funext j
            rw [hsum]
            by_cases e : j = k
            · subst e; simp
            · simp [e]
          rw [e] at this
          exact this
        have kee : ∀ i o, i.sz ≠ 2 → ρ.m i = some o → ∀ τ', Ext σ1 τ' → τ'.m i = some o := fun i o hi h τ' hE' => hE'.m i o (hs1 i o h fun e => hi (zfJ (hC3.own k (Nat.zero_le _) hk5) e).1)
        have k4 := kee _ _ (by simp) g4
        have k6 := kee _ _ (by simp) g6
        have nxx : ∀ τ', Ext σ1 τ' → Ext σ τ' := fun τ' h => h01.trans h
        clear kee hs1 hC3
        rcases hk4 with rfl | rfl | rfl | rfl | rfl
        all_goals
          simp [-cellOK, -zC, b1, b2, b4, b6, b10, b11, g6, g10, zbS, hk, rg_cells]
          refine za2 zf9 (σ0 := σ1) (zjT hO1 fun i o _ h => zat _ _ h) (zS hE1) (ys := [zl r]) (by simp [zR, zl]) (.inr rfl) (by simp [rg_cells]) (by simp; have := hll 0; have := hll 1; have := hll 2; have := hll 3; have := hll 4; omega) ?_
          intro v' τ' hO' hE' _ _
          have v1 := (zff hO').1
          have v2 := (zff hO').2
          have k6' := k6 τ' hE'
          have k4' := k4 τ' hE'
          have hfin := fin v' τ' hO' hE'
          have hEE := nxx τ' hE'
          clear hO' hE' fin nxx k4 k6
          (try ((first | with_reducible refine zo ?_ | with_reducible refine zt ?_ | with_reducible refine zu ?_); simp [-cellOK, b1, b2, b4, b6, b10, b11, b27, b28, b29, k6', za1, zbS, hk, c0, c1, c2, c3, c4, v1, v2, w1, z0])); repeat' (first | ((first | refine zf ?_ | refine zg ?_ | refine dN (by decide +kernel) ?_ | refine dC (by decide +kernel) ?_ | (refine za ?_ ?_ <;> (intro hg; simp only [hg])) | fail) <;> simp [-cellOK, b1, b2, b4, b6, b10, b11, b27, b28, b29, k6', za1, zbS, hk, c0, c1, c2, c3, c4, v1, v2, w1, z0]) | refine ze ?_ | refine zd ?_ | (refine zA ?_; simp only [zB]; try simp) | (refine zm (by simp) ?_; simp) | (refine zan (by simp) (by simp [noIds]) (by repeat (first | assumption | exact Ext.refl _ | refine zS ?_ | refine Ext.setF ?_ (by first | assumption | (simp [zk, St.set, zb]; done) | exact zN (by assumption)))) ?_; simp [-cellOK, b1, b2, b4, b6, b10, b11, b27, b28, b29, k6', za1, zbS, hk, c0, c1, c2, c3, c4, v1, v2, w1, z0, nsE]) | (refine zc (fun hc => ?_) (fun hc => ?_) <;> try simp at hc) | fail)
          refine hI1 (P.length - (i + 1)) _ _ (by omega) ⟨Ext.setF hEE f6, by simp [b1], by simp [b2], by simp [b4], by simp [b6], by simp [b27], by simp [b28], by simp [z0, k4'], i + 1, _, by simp, by omega, rfl, ?_, hfin.up ?_⟩
          · simp [z0, k6', za1, upC]
          · intro j o hj h
            rw [zlt (by rintro rfl; simp at hj)]; exact h
      · have : i = P.length := by omega
        subst this
        rw [List.take_length] at hC
        have FF := fI @a1 (fI @a2 (fI @a4 (fI @a6 (fI @a27 (fI @a28 @a29))))); refine gxB ?_; clear FF
        exact hR1 _ _ ⟨c, hC, hE, by simp [a4], by simp [a6], m4, m6⟩
    clear a1 a2 a4 hE2 r4 r6
    rintro B ρ' ⟨c, hC, hE, a4, a6, m4, m6⟩
    have FF := fI @a4 @a6; refine gxB ?_; clear FF
    refine za8 (fun B ρ' => Ext σ ρ' ∧ B 4 = .rp ⟨4, s4, 5⟩ 0 0 ∧ B 6 = .rp ⟨6, s6, 5⟩ 0 0 ∧ ρ'.m ⟨4, s4, 5⟩ = some (.buf [.agg (za1 fun _ => .sl 0 [] true)]) ∧ ρ'.m ⟨6, s6, 5⟩ = some (.buf [.agg (za1 fun k => Zn.zAV (zeb n d P k) false)])) ?_ ?_
    · intro R1 hR1
      refine zU (fun n' B ρ' => Ext σ ρ' ∧ B 4 = .rp ⟨4, s4, 5⟩ 0 0 ∧ B 6 = .rp ⟨6, s6, 5⟩ 0 0 ∧ ρ'.m ⟨4, s4, 5⟩ = some (.buf [.agg (za1 fun _ => .sl 0 [] true)]) ∧ ∃ (i : Nat) (c : Nat → AV), B 52 = .raw (.int .i64 i) ∧ i ≤ 5 ∧ n' = 5 - i ∧ ρ'.m ⟨6, s6, 5⟩ = some (.buf [.agg (za1 c)]) ∧ OwnC σ ρ' i c (fun k => (za5 n d P k).map zl) ∧ ∀ k, k < i → c k = Zn.zAV (zeb n d P k) false) 5 ?_ ?_
      · exact ⟨hE, by simp [a4], by simp [a6], m4, 0, c, by simp, by omega, by omega, m6, hC, fun k h => by omega⟩
      clear a4 a6 hC hE m4 m6
      rintro n' B ρ' ⟨hE, a4, a6, m4, i, c, a52, hi, rfl, m6, hC, hz⟩ I1 hI1
      have hck : ∀ j, j < 5 → (c j).cells = [c j] ∧ cellOK (c j) = true := fun j hj => by
        by_cases h : i ≤ j
        · exact zff (hC.own j h hj)
        · rw [hz j (by omega)]; exact ⟨rfl, rfl⟩
      have c0 := hck 0 (by omega)
      have c1 := hck 1 (by omega)
      have c2 := hck 2 (by omega)
      have c3 := hck 3 (by omega)
      have c4 := hck 4 (by omega)
      by_cases hlt : i < 5
      · obtain ⟨σ1, hO1, hE1, h01, hs1⟩ := hC.one hE (Nat.le_refl i) hlt
        have kee : ∀ j o, j.sz ≠ 2 → ρ'.m j = some o → ∀ τ', Ext σ1 τ' → τ'.m j = some o := fun j o hj h τ' hE' => hE'.m j o (hs1 j o h fun e => hj (zfJ (hC.own i (Nat.le_refl _) hlt) e).1)
        have k4 := kee _ _ (by simp) m4
        have k6 := kee _ _ (by simp) m6
        have hfl : (za5 n d P i).length < 2 ^ 38 := Nat.lt_of_le_of_lt (List.length_filter_le _ _) hlen
        have hsub : ∀ r ∈ za5 n d P i, r ∈ P := fun r hr => (List.mem_filter.1 hr).1
        have hof := Zn.zoneOf_calls (za5 n d P i) false (fun r hr => hinz r (hsub r hr)) hfl
        rw [Zn.ofAV_ok fun r hr => hord r (hsub r hr)] at hof
        have hzz : Zn.refOfZ (za5 n d P i) = zeb n d P i := rfl
        rw [hzz] at hof
        have fin : ∀ τ', Ext σ1 τ' → OwnC σ τ' (i + 1) (upC c i (Zn.zAV (zeb n d P i) false)) (fun k => (za5 n d P k).map zl) := fun τ' h => hC.drop hlt _ h hs1
        have fz : ∀ k, k < i + 1 → upC c i (Zn.zAV (zeb n d P i) false) k = Zn.zAV (zeb n d P k) false := fun k h => by
          unfold upC
          by_cases e : k = i
          · rw [if_pos e, e]
          · rw [if_neg e]; exact hz k (by omega)
        have nxx : ∀ τ', Ext σ1 τ' → Ext σ τ' := fun τ' h => h01.trans h
        simp only [za1] at m6
        have hi5 : i = 0 ∨ i = 1 ∨ i = 2 ∨ i = 3 ∨ i = 4 := by omega
        clear kee hck hz hC hs1
        rcases hi5 with rfl | rfl | rfl | rfl | rfl
        all_goals
          have FF := fI @a4 (fI @a6 (fI @a52 @m6)); refine gxC ?_; clear FF
          refine hof.useOwn hO1 hE1 fun τ' hE' => ?_
          have k6' := k6 τ' hE'
          have k4' := k4 τ' hE'
          have hfin := fin τ' hE'
          have hEE := nxx τ' hE'
          clear hE' fin nxx k4 k6
          have FF := fI @a4 (fI @a6 (fI @a52 (fI @k6' (fI za1.eq_1 (fI @c0 (fI @c1 (fI @c2 (fI @c3 (fI @c4 Zn.zAV.eq_1))))))))); refine gxB ?_; clear FF
          refine hI1 _ _ _ ?_ ⟨Ext.setF hEE f6, by simp [a4], by simp [a6], by simp [z0, k4'], _, _, by simp; rfl, ?_, rfl, ?_, hfin.up ?_, fz⟩
          · omega
          · omega
          · simp [z0, k6', za1, upC]; rfl
          · intro j o hj h
            rw [zlt (by rintro rfl; simp at hj)]; exact h
      · have : i = 5 := by omega
        subst this
        have FF := fI @a4 (fI @a6 @a52); refine gxB ?_; clear FF
        refine hR1 _ _ ⟨hE, by simp [a4], by simp [a6], m4, ?_⟩
        rw [m6]
        simp only [za1, hz 0 (by omega), hz 1 (by omega), hz 2 (by omega), hz 3 (by omega), hz 4 (by omega)]
    · rintro B ρ' ⟨hE, a4, a6, m4, m6⟩
      simp only [za1] at m4 m6
      have FF := fI @a4 (fI @a6 (fI @m4 (fI @m6 (fI za1.eq_1 (fI Zn.zAV.eq_1 @z0))))); exact gxA
end Go.Proofs.YtpboabpapgimoaaGreat.Av
namespace Go.Proofs.YtpboabpapgimoaaGreat.Av
open Go
set_option linter.unusedSimpArgs false
set_option linter.unusedVariables false
set_option maxRecDepth 100000
set_option maxHeartbeats 4000000
set_option pp.maxSteps 600
end Go.Proofs.YtpboabpapgimoaaGreat.Av
namespace Go.Proofs.YtpboabpapgimoaaGreat.Av
open Go
set_option linter.unusedSimpArgs false
set_option linter.unusedVariables false
set_option maxRecDepth 100000
set_option maxHeartbeats 4000000
set_option pp.maxSteps 600
theorem zgq : PartsOK (zH [zct]) := zhp (by simp [znH]) (by simp)
theorem zsQ : zO zct 0 2 = [⟨20, 24⟩] := by decide +kernel
theorem zsR : zO zct 0 4 = [⟨50, 59⟩] := by decide +kernel
theorem zt7 : zaI (zH [zct]) (fun x => zbc (zQ zct 0 x).1 2) = [⟨0, 49⟩] := by decide +kernel
theorem zt8 : zaI (zH [zct]) (fun x => zaY (zQ zct 0 x).1 2) = [⟨0, 19⟩, ⟨25, 29⟩] := by decide +kernel
theorem zkS : PCalls Tryz.prog 9 [] (.raw (.bool true)) := by
  have h1 := zhO flN (d := 0) zjG zgq.w
  have h2 := ze6 flN (a := 0) (b := 2) zjG zgq.w
  have h3 := zfI flN (a := 0) (b := 2) zjG zgq.w
  have q1 : [(0 : Int), 2].any (zaC zct) = false := by decide
  have q2 : zaC zct 0 = false := by decide
  unfold zce at h2 h3
  rw [if_neg (by rw [q1]; simp)] at h2 h3
  rw [zt7] at h2
  rw [zt8] at h3
  unfold zen at h1
  simp only [za1, zsQ, zsR] at h1
  rw [q2, if_neg (by simp)] at h1
  have s1 := Zn.same_calls [⟨20, 24⟩] [⟨20, 24⟩] false false (by simp)
  have s2 := Zn.same_calls [⟨0, 49⟩] [⟨0, 49⟩] false false (by simp)
  have s3 := Zn.same_calls [⟨0, 19⟩, ⟨25, 29⟩] [⟨0, 19⟩, ⟨25, 29⟩] false false (by simp)
  have s4 := Zn.same_calls [⟨50, 59⟩] [⟨50, 59⟩] false false (by simp)
  rw [decide_eq_true rfl] at s1 s2 s3 s4
  generalize zO zct 0 0 = Z0 at *
  generalize zO zct 0 1 = Z1 at *
  generalize zO zct 0 3 = Z3 at *
  have hn := zoG
  generalize zct = N at hn h1 h2 h3
  have hnp : setPart (AV.agg [.sl 0 [] true, .sl 0 [] true, .sl 0 [] true]) 0 [zp N.t.ports flN.p, zF N.t.links flN.l, zz N.rules flN.r] = zau N flN := rfl
  refine zE Tryz.func9 rfl (N := 61) rfl rfl (by simp) (by simp [noIds]) fun σ => ?_
  (try ((first | with_reducible refine zo ?_ | with_reducible refine zt ?_ | with_reducible refine zu ?_); simp [-cellOK, zs, z9, hnp, Zn.zAV, zR, z0, zk])); repeat' (first | ((first | refine zf ?_ | refine zg ?_ | refine dN (by decide +kernel) ?_ | refine dC (by decide +kernel) ?_ | refine uP (hn) ?_ | refine .inl ⟨_, .inl (hn), ?_⟩ | refine uP (h1) ?_ | refine .inl ⟨_, .inl (h1), ?_⟩ | refine uP (h2) ?_ | refine .inl ⟨_, .inl (h2), ?_⟩ | refine uP (h3) ?_ | refine .inl ⟨_, .inl (h3), ?_⟩ | (refine za ?_ ?_ <;> (intro hg; simp only [hg])) | fail) <;> simp [-cellOK, zs, z9, hnp, Zn.zAV, zR, z0, zk]) | refine ze ?_ | refine zd ?_ | (refine zA ?_; simp only [zB]; try simp) | (refine zc (fun hc => ?_) (fun hc => ?_) <;> try simp at hc) | fail)
  refine s1.useLent rfl (σ0 := σ) (OwnL.of rfl (by simp [zR, zk, z0, zl]) (zb _ _ _) (by simp)) ?_
  have FF := fI @zs (fI @z9 (fI @hnp (fI Zn.zAV.eq_1 (fI @zR (fI @z0 @zk))))); refine gxC ?_; clear FF
  refine s2.useLent rfl (σ0 := σ) (OwnL.of rfl (by simp [zR, zk, z0, zl]) (zb _ _ _) (by simp)) ?_
  have FF := fI @zs (fI @z9 (fI @hnp (fI Zn.zAV.eq_1 (fI @zR (fI @z0 @zk))))); refine gxC ?_; clear FF
  refine s3.useLent rfl (σ0 := σ) (OwnL.of rfl (by simp [zR, zk, z0, zl]) (zb _ _ _) (by simp)) ?_
  have FF := fI @zs (fI @z9 (fI @hnp (fI Zn.zAV.eq_1 (fI @zR (fI @z0 @zk))))); refine gxC ?_; clear FF
  refine s4.useLent rfl (σ0 := σ) (OwnL.of rfl (by simp [zR, zk, z0, zl]) (zb _ _ _) (by simp)) ?_
  have FF := fI @zs (fI @z9 (fI @hnp (fI Zn.zAV.eq_1 (fI @zR (fI @z0 @zk))))); exact gxA
end Go.Proofs.YtpboabpapgimoaaGreat.Av
namespace Go.Proofs.YtpboabpapgimoaaGreat.Av
open Go
set_option linter.unusedSimpArgs false
set_option linter.unusedVariables false
set_option maxRecDepth 100000
set_option maxHeartbeats 4000000
set_option pp.maxSteps 600
theorem PCalls.weak {P : Program} {f : FuncId} {args : List AV} {r r' : AV} (h : PCalls P f args r) (hw : Weaker r r') (hn : noIds r') : PCalls P f args r' :=
  ⟨hn, fun σ => ⟨(h.2 σ).1, fun S vs hS hl => ((h.2 σ).2 S vs hS hl).mono fun e w' ⟨S', σ', x, v, h1, h2, h3, h4, h5, h6⟩ => ⟨S', σ', r', v, h1, h2, h3, h4, hw _ _ (h6.1 ▸ h5), rfl, h6.2⟩⟩⟩
def zkX (b : Bool) (z : List Rg) : AV := .tup [Zn.zAV (if b then [] else z) false, .raw (.int .i64 (if b then 91 else 0))]
@[simp] theorem zhb (K : Id → Prop) (b : Bool) (z : List Rg) : (zkX b z).ids K := by simp [zkX]
theorem zft (b : Bool) (z : List Rg) : Weaker (zre b z) (zkX b z) := by
  cases b
  · exact Weaker.refl _
  · exact weaker_tup za7
theorem zl1 {n : Nw} (h : zdC n = true) : zax n = true := by
  unfold zdC at h
  simp only [Bool.and_eq_true] at h
  exact h.2.2.2
theorem zoU {l : List Nw} (h : PartsOK (zH l)) (w : Int → Bool) : (zaI (zH l) w).length < 256 := by
  rw [← zgA h]
  have h1 := zhN ((zH l).filter fun r => w r.lo) []
  have h2 := List.length_filter_le (fun r : Rg => w r.lo) (zH l)
  have h3 := h.len
  simp only [List.length_nil] at h1
  omega
end Go.Proofs.YtpboabpapgimoaaGreat.Av
namespace Go.Proofs.YtpboabpapgimoaaGreat.Av
set_option linter.unusedSimpArgs false
set_option linter.unusedVariables false
theorem zoV {l : List Nw} (hr : ∀ n ∈ l, zax n = true) (hl : l.length ≤ 12) {r p : Rg} (hok : RgOK r) (hp : p ∈ zb0 l r) {n : Nw} (hn : n ∈ l) {a b : Int} (ha : p.lo ≤ a ∧ a ≤ p.hi) (hb : p.lo ≤ b ∧ b ≤ p.hi) (d : Int) : zQ n d a = zQ n d b := by
  have hpi := zdU hp
  obtain ⟨a1, a2, a3, a4⟩ := hok
  rw [zi8 hr hl (by omega)] at hp
  have hc := zby (zaB l)
  obtain ⟨x, hx, b1, b2, b3, b4, b5⟩ := zlG hp
  have hs : zgj (zaB l) a b := zoB hc.srt hx ⟨by omega, by omega⟩ ⟨by omega, by omega⟩
  exact znA (zoE hn) hs (by omega) (by omega) d
theorem zl2 {l : List Nw} (hr : ∀ n ∈ l, zax n = true) (hl : l.length ≤ 12) {r : Rg} (hok : RgOK r) {x : Int} (hx : r.lo ≤ x ∧ x ≤ r.hi) : ∃ p ∈ zb0 l r, p.lo ≤ x ∧ x ≤ p.hi := by
  obtain ⟨a1, a2, a3, a4⟩ := hok
  rw [zi8 hr hl (by omega)]
  exact zpw (zby (zaB l)) (by omega) (by omega) hx
def atP (P : List Rg) (s : Int) : Nat → Int
  | 0 => s
  | i + 1 => (P.getD i ⟨0, 0⟩).hi + 1
theorem zrf {P : List Rg} {r : Rg} (hs : P.Pairwise fun a b => a.hi < b.lo) (hi : ∀ p ∈ P, r.lo ≤ p.lo ∧ p.lo ≤ p.hi ∧ p.hi ≤ r.hi) (hc : ∀ x, r.lo ≤ x ∧ x ≤ r.hi → ∃ p ∈ P, p.lo ≤ x ∧ x ≤ p.hi) {i : Nat} (h : i < P.length) : P[i].lo = atP P r.lo i := by
  have hp := List.pairwise_iff_getElem.1 hs
  have k1 := hi _ (List.getElem_mem h)
  have hs1 : r.lo ≤ atP P r.lo i ∧ atP P r.lo i ≤ P[i].lo ∧ ∀ j (hj : j < i), P[j].hi < atP P r.lo i := by
    cases i with
    | zero => exact ⟨Int.le_refl _, k1.1, fun j hj => by omega⟩
    | succ i =>
      have h1 : i < P.length := by omega
      have h2 := hp i (i + 1) h1 h (by omega)
      have h3 := hi _ (List.getElem_mem h1)
      have e : atP P r.lo (i + 1) = P[i].hi + 1 := by simp [atP, List.getD_eq_getElem?_getD, List.getElem?_eq_getElem h1]
      rw [e]
      refine ⟨by omega, by omega, fun j hj => ?_⟩
      rcases Nat.lt_or_eq_of_le (Nat.lt_succ_iff.1 hj) with q | q
      · have := hp j i (by omega) h1 q
        omega
      · subst q; omega
  obtain ⟨q1, q2, q3⟩ := hs1
  obtain ⟨p, hpm, c1, c2⟩ := hc (atP P r.lo i) ⟨q1, by omega⟩
  obtain ⟨j, hj, rfl⟩ := List.getElem_of_mem hpm
  rcases Nat.lt_trichotomy j i with q | q | q
  · have := q3 j q; omega
  · subst q; omega
  · have := hp i j h hj q; omega
theorem zqg {P : List Rg} {r : Rg} (hr : r.lo ≤ r.hi) (hs : P.Pairwise fun a b => a.hi < b.lo) (hi : ∀ p ∈ P, r.lo ≤ p.lo ∧ p.lo ≤ p.hi ∧ p.hi ≤ r.hi) (hc : ∀ x, r.lo ≤ x ∧ x ≤ r.hi → ∃ p ∈ P, p.lo ≤ x ∧ x ≤ p.hi) : atP P r.lo P.length = r.hi + 1 := by
  have hp := List.pairwise_iff_getElem.1 hs
  obtain ⟨p, hpm, c1, c2⟩ := hc r.hi ⟨hr, Int.le_refl _⟩
  obtain ⟨j, hj, rfl⟩ := List.getElem_of_mem hpm
  have k := hi _ hpm
  have hjl : j + 1 = P.length := by
    rcases Nat.lt_or_ge (j + 1) P.length with q | q
    · have h1 := hp j (j + 1) hj q (by omega)
      have h2 := hi _ (List.getElem_mem q)
      omega
    · omega
  rw [← hjl]
  simp only [atP, List.getD_eq_getElem?_getD, List.getElem?_eq_getElem hj, Option.getD_some]
  omega
end Go.Proofs.YtpboabpapgimoaaGreat.Av
namespace Go.Proofs.YtpboabpapgimoaaGreat.Av
open Go
set_option linter.unusedSimpArgs false
set_option linter.unusedVariables false
set_option maxRecDepth 100000
set_option maxHeartbeats 4000000
set_option pp.maxSteps 600
end Go.Proofs.YtpboabpapgimoaaGreat.Av
namespace Go.Proofs.YtpboabpapgimoaaGreat.Av
open Go
set_option linter.unusedSimpArgs false
set_option linter.unusedVariables false
set_option maxRecDepth 100000
set_option maxHeartbeats 4000000
set_option pp.maxSteps 600
theorem zjU : RgOK zbq := ⟨by decide, by decide, by decide, by decide⟩
theorem zks {l : List Nw} (hr : ∀ n ∈ l, zax n = true) (hl : l.length ≤ 2) {w : Int → Bool} (hw : ∀ p ∈ zH l, ∀ a, p.lo ≤ a ∧ a ≤ p.hi → w a = w p.lo) {x : Int} (h0 : 0 ≤ x) (h1 : x < 4294967296) : Zn.hasB (zaI (zH l) w) x = w x := by
  have hP := zhp hr hl
  have hz : Zn.InZ ((zH l).filter fun r => w r.lo) := fun r hr => hP.inz r (List.mem_filter.1 hr).1
  have hsp := (Zn.refOfZ_spec hz).2.1 x
  have e1 : Zn.hasB (zaI (zH l) w) x = true ↔ Zn.MZ (Zn.refOfZ ((zH l).filter fun r => w r.lo)) x := by
    unfold zaI
    exact Zn.hasB_iff
  rw [Bool.eq_iff_iff, e1, hsp]
  constructor
  · rintro ⟨p, hp, h2⟩
    obtain ⟨h3, h4⟩ := List.mem_filter.1 hp
    rw [hw p h3 x h2]
    exact h4
  · intro h
    obtain ⟨p, hp, h2⟩ := zl2 hr (by omega) zjU (x := x) ⟨h0, by have : zbq.hi = 4294967295 := rfl; omega⟩
    exact ⟨p, List.mem_filter.2 ⟨hp, by rw [← hw p hp x h2]; exact h⟩, h2⟩
theorem zjj {l : List Nw} (hr : ∀ n ∈ l, zax n = true) (hl : l.length ≤ 2) {n : Nw} (hn : n ∈ l) {p : Rg} (hp : p ∈ zH l) {a : Int} (ha : p.lo ≤ a ∧ a ≤ p.hi) (d : Int) : zQ n d a = zQ n d p.lo :=
  zoV hr (by omega) zjU hp hn ha ⟨Int.le_refl _, (zdU hp).2.1⟩ d
end Go.Proofs.YtpboabpapgimoaaGreat.Av
namespace Go.Proofs.YtpboabpapgimoaaGreat.Av
set_option linter.unusedSimpArgs false
set_option linter.unusedVariables false
theorem zdE {l : List Nw} (hr : ∀ n ∈ l, zax n = true) (hl : l.length ≤ 2) (w : Int → Bool) : Zn.Good 256 (zaI (zH l) w) := by
  have hP := zhp hr hl
  obtain ⟨h1, _, h3⟩ := Zn.refOfZ_spec (l := (zH l).filter fun r => w r.lo) fun r hr => hP.inz r (List.mem_filter.1 hr).1
  exact ⟨h3, h1, by have := zoU hP w; omega⟩
theorem zl3 {l : List Nw} (hr : ∀ n ∈ l, zax n = true) (hl : l.length ≤ 2) {w : Int → Bool} (hw : ∀ p ∈ zH l, ∀ a, p.lo ≤ a ∧ a ≤ p.hi → w a = w p.lo) (x : Int) : Zn.MZ (zaI (zH l) w) x ↔ (0 ≤ x ∧ x < 4294967296) ∧ w x = true := by
  constructor
  · intro h
    have hx := Zn.mz_rng (zdE hr hl w).inz h
    exact ⟨hx, by rw [← zks hr hl hw hx.1 hx.2]; exact Zn.hasB_iff.2 h⟩
  · rintro ⟨h1, h2⟩
    exact Zn.hasB_iff.1 (by rw [zks hr hl hw h1.1 h1.2]; exact h2)
theorem zhP : ∀ (z : List Rg) (f t : Int), Zn.countZ (Zn.joinZ z f t) = Zn.countZ z + (t - f + 1)
  | [], f, t => by simp [Zn.joinZ_nil, Zn.countZ]
  | [r], f, t => by
    rw [Zn.joinZ_one]
    split
    · simp [Zn.countZ]; omega
    · simp [Zn.countZ]
  | r :: s :: z, f, t => by
    have h := zhP (s :: z) f t
    rw [Zn.joinZ_cons]
    simp only [Zn.countZ, List.map_cons, List.sum_cons] at h ⊢
    omega
theorem zfK : ∀ (Q z : List Rg), Zn.countZ (zbv z Q) = Zn.countZ z + Zn.countZ Q
  | [], z => by simp [zbv, Zn.countZ]
  | q :: Q, z => by
    have : zbv z (q :: Q) = zbv (Zn.joinZ z q.lo q.hi) Q := rfl
    rw [this, zfK Q, zhP]
    simp only [Zn.countZ, List.map_cons, List.sum_cons]
    omega
theorem zmJ {l : List Nw} (h : PartsOK (zH l)) (w : Int → Bool) : Zn.countZ (zaI (zH l) w) = Zn.countZ ((zH l).filter fun r => w r.lo) := by
  rw [← zgA h, zfK]
  simp [Zn.countZ]
theorem zhQ (n : Nw) (d : Int) : ∀ P : List Rg, Zn.countZ (za5 n d P 0) + Zn.countZ (za5 n d P 1) + Zn.countZ (za5 n d P 2) + Zn.countZ (za5 n d P 3) + Zn.countZ (za5 n d P 4) = Zn.countZ P
  | [] => by simp [za5, Zn.countZ]
  | p :: P => by
    have ih := zhQ n d P
    obtain ⟨k, hk, hk5⟩ := zha n d p.lo
    unfold za5 at ih ⊢
    simp only [List.filter_cons, hk]
    have hk4 : k = 0 ∨ k = 1 ∨ k = 2 ∨ k = 3 ∨ k = 4 := by omega
    rcases hk4 with rfl | rfl | rfl | rfl | rfl <;> simp [Zn.countZ] at ih ⊢ <;> omega
theorem zl4 {l : List Nw} (hr : ∀ n ∈ l, zax n = true) (hl : l.length ≤ 2) : Zn.countZ (zH l) = 4294967296 := by
  have hs := zl0 (l := l) zbq
  have hi : ∀ p ∈ zH l, zbq.lo ≤ p.lo ∧ p.lo ≤ p.hi ∧ p.hi ≤ zbq.hi := fun p hp => zdU hp
  have hc := fun x hx => zl2 hr (by omega) zjU (x := x) hx
  have hend := zqg (P := zH l) (by decide) hs hi hc
  have key : ∀ i, i ≤ (zH l).length → Zn.countZ ((zH l).take i) = atP (zH l) zbq.lo i - zbq.lo := by
    intro i
    induction i with
    | zero => intro _; simp [Zn.countZ, atP]
    | succ i ih =>
      intro h
      have hx : (zH l)[i]? = some (zH l)[i] := List.getElem?_eq_getElem (by omega)
      have hlo := zrf hs hi hc (i := i) (by show i < (zH l).length; omega)
      have e : atP (zH l) zbq.lo (i + 1) = (zH l)[i].hi + 1 := by simp only [atP, List.getD_eq_getElem?_getD, hx, Option.getD_some]
      rw [Zn.countZ_step hx, ih (by omega), e]
      have hlo' : (zH l)[i].lo = atP (zH l) zbq.lo i := hlo
      omega
  have := key _ (Nat.le_refl _)
  rw [List.take_length] at this
  rw [this]
  have e : atP (zH l) zbq.lo (zH l).length = zbq.hi + 1 := hend
  rw [e]
  decide
theorem zmK {n : Nw} (hr : zax n = true) {d : Int} (hd : zaC n d = false) : Zn.countZ (zO n d 0) + Zn.countZ (zO n d 1) + Zn.countZ (zO n d 2) + Zn.countZ (zO n d 3) + Zn.countZ (zO n d 4) = 4294967296 := by
  have hP := zhp (l := [n]) (by simp [hr]) (by simp)
  have h5 := zhQ n d (zH [n])
  rw [zl4 (by simp [hr]) (by simp)] at h5
  have e : ∀ k, Zn.countZ (zO n d k) = Zn.countZ (za5 n d (zH [n]) k) := fun k => by
    unfold zO zeb
    rw [hd, if_neg (by simp), zmJ hP]
    rfl
  rw [e, e, e, e, e]
  exact h5
theorem zjk {n : Nw} (hr : zax n = true) (d : Int) (k : Nat) : Zn.Good 256 (zO n d k) := by
  unfold zO
  split
  · exact ⟨fun _ h => (by cases h), trivial, by simp⟩
  · exact zdE (by simp [hr]) (by simp) _
theorem zii {n : Nw} (hr : zax n = true) {d : Int} (hd : zaC n d = false) (k : Nat) (x : Int) : Zn.MZ (zO n d k) x ↔ (0 ≤ x ∧ x < 4294967296) ∧ (zQ n d x).1.out = (k : Int) := by
  unfold zO zeb
  rw [hd, if_neg (by simp), zl3 (by simp [hr]) (by simp) (fun p hp a ha => by rw [zjj (by simp [hr]) (by simp) (by simp) hp ha d])]
  simp
theorem zhq {n : Nw} (hr : zax n = true) {d : Int} (w : Tk → Bool) (x : Int) : Zn.MZ (zaI (zH [n]) fun a => w (zQ n d a).1) x ↔ (0 ≤ x ∧ x < 4294967296) ∧ w (zQ n d x).1 = true :=
  zl3 (by simp [hr]) (by simp) (fun p hp a ha => by rw [zjj (by simp [hr]) (by simp) (by simp) hp ha d]) x
def zbj (F : Nat → List Rg) : Nat → List Rg
  | 0 => []
  | k + 1 => Zn.refOfZ (zbj F k ++ F k)
theorem zgr {F : Nat → List Rg} (h : ∀ k, Zn.InZ (F k)) : ∀ k, Zn.RZ (-1) (zbj F k) ∧ Zn.InZ (zbj F k) ∧ ∀ x, Zn.MZ (zbj F k) x ↔ ∃ j, j < k ∧ Zn.MZ (F j) x
  | 0 => ⟨trivial, fun _ h => (by cases h), fun x => ⟨fun h => (Zn.mz_nil h).elim, fun ⟨j, hj, _⟩ => by omega⟩⟩
  | k + 1 => by
    obtain ⟨i1, i2, i3⟩ := zgr h k
    have hin : Zn.InZ (zbj F k ++ F k) := fun r hr => (List.mem_append.1 hr).elim (i2 r) (h k r)
    obtain ⟨a, b, c⟩ := Zn.refOfZ_spec hin
    refine ⟨a, c, fun x => ?_⟩
    show Zn.MZ (Zn.refOfZ (zbj F k ++ F k)) x ↔ _
    rw [b, Zn.mz_append, i3]
    constructor
    · rintro (⟨j, hj, hm⟩ | hm)
      · exact ⟨j, by omega, hm⟩
      · exact ⟨k, by omega, hm⟩
    · rintro ⟨j, hj, hm⟩
      rcases Nat.lt_or_eq_of_le (Nat.lt_succ_iff.1 hj) with q | rfl
      · exact .inl ⟨j, q, hm⟩
      · exact .inr hm
theorem zoW (x : Int) : Zn.MZ Zn.allZ x ↔ 0 ≤ x ∧ x < 4294967296 := by
  unfold Zn.allZ
  rw [Zn.mz_cons]
  constructor
  · rintro (h | h)
    · exact ⟨h.1, by have := h.2; simp only [] at this; omega⟩
    · exact (Zn.mz_nil h).elim
  · intro h; exact .inl ⟨h.1, by simp only []; omega⟩
theorem zpG {F : Nat → List Rg} {k : Nat} {z : List Rg} (h : ∀ k, Zn.InZ (F k)) (rz : Zn.RZ (-1) z) (e : ∀ x, (∃ j, j < k ∧ Zn.MZ (F j) x) ↔ Zn.MZ z x) : zbj F k = z := by
  have hh := zgr h k
  exact Zn.zone_eq hh.1 rz fun x => (hh.2.2 x).trans (e x)
theorem zpH {n : Nw} (hr : zax n = true) {d : Int} (hd : zaC n d = false) : zbj (zO n d) 5 = Zn.allZ := by
  refine zpG (fun k => (zjk hr d k).inz) Zn.good_all.rz fun x => ?_
  rw [zoW]
  constructor
  · rintro ⟨j, _, h⟩
    exact ((zii hr hd j x).1 h).1
  · intro h
    obtain ⟨k, hk, hk5⟩ := zha n d x
    exact ⟨k, hk5, (zii hr hd k x).2 ⟨h, hk⟩⟩
theorem zjl {n m : Nat} {x y : List Rg} (h : Zn.Good n x) (k : Zn.Good m y) (hs : ∀ a, Zn.MZ x a → Zn.MZ y a) : Zn.andZ x (Zn.notZ 0 y) = [] := by
  obtain ⟨n1, n2, n3, n4⟩ := Zn.notZ_spec y 0 (by simpa using k.rz) k.inz (Int.le_refl _)
  obtain ⟨k1, k2, k3, k4⟩ := Zn.andZ_spec _ x (Zn.notZ 0 y) (-1) (-1) (Nat.le_refl _) h.rz (by simpa using n1)
  refine Zn.zone_eq (k1.weaken (by omega)) (y := []) trivial fun a => ?_
  rw [k2, n2]
  exact ⟨fun ⟨p, _, q⟩ => (q (hs a p)).elim, fun h => (Zn.mz_nil h).elim⟩
theorem zkt {n : Nw} {d : Int} (h : zaC n d = false) : 0 ≤ d ∧ d < n.t.ports.length := by
  unfold zaC at h
  simp at h
  omega
theorem zmL {n : Nw} (hr : zax n = true) {d b : Int} (hd : zaC n d = false) (x : Int) (h : Zn.MZ (zaI (zH [n]) fun a => zaY (zQ n d a).1 b) x) : Zn.MZ (zO n d 3) x := by
  obtain ⟨h1, h2⟩ := (zhq hr (fun t => zaY t b) x).1 h
  refine (zii hr hd 3 x).2 ⟨h1, ?_⟩
  unfold zaY at h2
  simp at h2
  exact h2.1
theorem zmM {n : Nw} (hr : zax n = true) {d b : Int} (hd : zaC n d = false) (x : Int) (h : Zn.MZ (zaI (zH [n]) fun a => zaY (zQ n d a).1 b) x) : Zn.MZ (zaI (zH [n]) fun a => zbc (zQ n d a).1 b) x := by
  obtain ⟨h1, h2⟩ := (zhq hr (fun t => zaY t b) x).1 h
  refine (zhq hr (fun t => zbc t b) x).2 ⟨h1, ?_⟩
  rw [zlJ (zkt hd)] at h2 ⊢
  exact zlL h2
theorem zpI {n : Nw} (hr : zax n = true) {d : Int} (hd : zaC n d = false) : (zaI (zH [n]) fun a => zbc (zQ n d a).1 d) = Zn.allZ := by
  refine Zn.zone_eq (zdE (by simp [hr]) (by simp) _).rz Zn.good_all.rz fun x => ?_
  rw [zhq hr (fun t => zbc t d) x, zoW]
  refine ⟨fun h => h.1, fun h => ⟨h, ?_⟩⟩
  rw [zlJ (zkt hd)]
  obtain ⟨l, hl⟩ := znE n d x
  unfold zbc
  rw [hl]
  simp
end Go.Proofs.YtpboabpapgimoaaGreat.Av
namespace Go.Proofs.YtpboabpapgimoaaGreat.Av.Zn
open Go
set_option linter.unusedSimpArgs false
set_option linter.unusedVariables false
set_option maxRecDepth 100000
set_option maxHeartbeats 8000000
set_option pp.maxSteps 300
theorem zgB {n m : Nat} {x y : List Rg} (fx fy : Bool) (how : Int) (hhow : how = 1 ∨ how = 2 ∨ how = 3) (h : Good n x) (k : Good m y) (hn : n + m < 2 ^ 29) : PCalls Tryz.prog 42 [zAV x fx, zAV y fy, .raw (.int .i64 how)] (zAV (zdY how x y) false) := by
  have h1 := h.len; have h2 := k.len
  have hC := zjQ (x ++ y) (fun r hr => (List.mem_append.1 hr).elim (h.inz r) (k.inz r))
  exact znR x y fx fy how hhow h.inz k.inz (by omega) hC.rng hC.pos
theorem docOr_calls {n m : Nat} {x y : List Rg} (fx fy : Bool) (h : Good n x) (k : Good m y) (hn : n + m < 2 ^ 29) : PCalls Tryz.prog 19 [zAV x fx, zAV y fy] (zAV (refOfZ (x ++ y)) false) := by
  rw [zsO h.inz k.inz]
  refine zE Tryz.func19 rfl (N := 8) rfl rfl (by simp) (zfe _ _) fun σ => ?_
  (try ((first | with_reducible refine zo ?_ | with_reducible refine zt ?_ | with_reducible refine zu ?_); simp)); repeat' (first | ((first | refine zf ?_ | refine zg ?_ | refine dN (by decide +kernel) ?_ | (refine za ?_ ?_ <;> (intro hg; simp only [hg])) | fail) <;> simp) | refine ze ?_ | refine zd ?_ | (refine zA ?_; simp only [zB]; try simp) | ((first | refine zm (by simp) ?_ | refine zv (by simp) (by simp) (by simp (maxDischargeDepth := 30)) ?_ | fail); simp) | (refine zc (fun hc => ?_) (fun hc => ?_) <;> try simp at hc) | fail)
  refine PCalls.use (zgB fx fy 2 (by simp) h k hn) ?_
  (try ((first | with_reducible refine zo ?_ | with_reducible refine zt ?_ | with_reducible refine zu ?_); simp)); repeat' (first | ((first | refine zf ?_ | refine zg ?_ | refine dN (by decide +kernel) ?_ | (refine za ?_ ?_ <;> (intro hg; simp only [hg])) | fail) <;> simp) | refine ze ?_ | refine zd ?_ | (refine zA ?_; simp only [zB]; try simp) | ((first | refine zm (by simp) ?_ | refine zv (by simp) (by simp) (by simp (maxDischargeDepth := 30)) ?_ | fail); simp) | (refine zc (fun hc => ?_) (fun hc => ?_) <;> try simp at hc) | fail)
theorem docMinus_calls {n m : Nat} {x y : List Rg} (fx fy : Bool) (h : Good n x) (k : Good m y) (hn : n + m < 2 ^ 29) : PCalls Tryz.prog 20 [zAV x fx, zAV y fy] (zAV (andZ x (notZ 0 y)) false) := by
  rw [zpD h.inz k.inz h.rz k.rz]
  refine zE Tryz.func20 rfl (N := 8) rfl rfl (by simp) (zfe _ _) fun σ => ?_
  (try ((first | with_reducible refine zo ?_ | with_reducible refine zt ?_ | with_reducible refine zu ?_); simp)); repeat' (first | ((first | refine zf ?_ | refine zg ?_ | refine dN (by decide +kernel) ?_ | (refine za ?_ ?_ <;> (intro hg; simp only [hg])) | fail) <;> simp) | refine ze ?_ | refine zd ?_ | (refine zA ?_; simp only [zB]; try simp) | ((first | refine zm (by simp) ?_ | refine zv (by simp) (by simp) (by simp (maxDischargeDepth := 30)) ?_ | fail); simp) | (refine zc (fun hc => ?_) (fun hc => ?_) <;> try simp at hc) | fail)
  refine PCalls.use (zgB fx fy 3 (by simp) h k hn) ?_
  (try ((first | with_reducible refine zo ?_ | with_reducible refine zt ?_ | with_reducible refine zu ?_); simp)); repeat' (first | ((first | refine zf ?_ | refine zg ?_ | refine dN (by decide +kernel) ?_ | (refine za ?_ ?_ <;> (intro hg; simp only [hg])) | fail) <;> simp) | refine ze ?_ | refine zd ?_ | (refine zA ?_; simp only [zB]; try simp) | ((first | refine zm (by simp) ?_ | refine zv (by simp) (by simp) (by simp (maxDischargeDepth := 30)) ?_ | fail); simp) | (refine zc (fun hc => ?_) (fun hc => ?_) <;> try simp at hc) | fail)
end Go.Proofs.YtpboabpapgimoaaGreat.Av.Zn
namespace Go.Proofs.YtpboabpapgimoaaGreat.Av
open Go
set_option linter.unusedSimpArgs false
set_option linter.unusedVariables false
set_option maxRecDepth 100000
set_option maxHeartbeats 4000000
set_option pp.maxSteps 600
theorem PCalls.arg1 {P : Program} {f : FuncId} {n : Nat} {l : List AV} {r : AV} (h : PCalls P f (.sl n [] false :: l) r) : PCalls P f (.sl 0 [] true :: l) r :=
  ⟨h.1, fun σ => ACalls.args (zcY za7 fun _ _ h => h) (h.2 σ)⟩
theorem zoX (L : List Rg) : (zdB L).length ≤ 500 := by
  have : ∀ (L : List Rg) (s : Option (List Rg)), (s.getD []).length ≤ 500 → ((L.foldl zbX s).getD []).length ≤ 500 := by
    intro L
    induction L with
    | nil => intro s h; exact h
    | cons r L ih =>
      intro s h
      rw [List.foldl_cons]
      refine ih _ ?_
      unfold zbX
      split
      · simp
      · split
        · simp
        · simp only [Option.getD_some, List.length_cons]; omega
  exact this L (some []) (by simp)
theorem znV {n : Nw} (h : NwOK n) : PartsW (zH [n]) where
  len := by
    have h1 := zoX (zaB [n])
    have h2 := zki (zdB (zaB [n]))
    have h3 : (zdS (zaG (zdB (zaB [n]))) zbq).length ≤ (zaE (zaG (zdB (zaB [n])))).length := List.length_filterMap_le _ _
    rw [zcW] at h3
    unfold zH zb0
    rw [if_neg (by decide)]
    omega
  inz := fun r hr => by
    obtain ⟨h1, h2, h3⟩ := zdU hr
    have e1 : zbq.lo = 0 := rfl
    have e2 : zbq.hi = 4294967295 := rfl
    exact ⟨by omega, by omega, by omega, by omega⟩
  ord := fun r hr => (zdU hr).2.1
theorem zjm (n : Nw) (f : Fl) (a b : Int) (hn : NwOK n) :
    PCalls Tryz.prog 4 [zau n f, .raw (.int .i64 a), .raw (.int .i64 b)] (.raw (.bool true)) := by
  have hal := zkS
  have hf1 := zlI n f hn.w
  have hP := znV hn
  have h1 := zhO f (d := a) hn hP
  have h2 := (ze6 f (a := a) (b := b) hn hP).weak (zft _ _) (zhb _ _ _)
  have h3 := (zfI f (a := a) (b := b) hn hP).weak (zft _ _) (zhb _ _ _)
  have h4 := (ze6 f (a := a) (b := a) hn hP).weak (zft _ _) (zhb _ _ _)
  have hany : [a, b].any (zaC n) = (zaC n a || zaC n b) := by simp
  have hany2 : [a, a].any (zaC n) = zaC n a := by simp
  rw [hany] at h2 h3
  rw [hany2] at h4
  unfold zen at h1
  simp only [za1] at h1
  unfold zkX at h2 h3 h4
  refine zE Tryz.func4 rfl (N := 115) rfl rfl (by simp) (by simp [noIds]) fun σ => ?_
  cases hq : zdC n with
  | false =>
    rw [hq] at hf1
    generalize zO n a 0 = F0 at *
    generalize zO n a 1 = F1 at *
    generalize zO n a 2 = F2 at *
    generalize zO n a 3 = F3 at *
    generalize zO n a 4 = F4 at *
    generalize (if zaC n a = true then (91 : Int) else 0) = e1 at *
    generalize (if (zaC n a || zaC n b) = true then (91 : Int) else 0) = e2 at *
    generalize (if (zaC n a || zaC n b) = true then [] else zaI (zH [n]) fun x => zbc (zQ n a x).1 b) = Z1 at *
    generalize (if (zaC n a || zaC n b) = true then [] else zaI (zH [n]) fun x => zaY (zQ n a x).1 b) = Z2 at *
    have FF := fI @zs (fI @z9 (fI Zn.zAV.eq_1 (fI @zR (fI @z0 @zk)))); exact gxA
  | true =>
  rw [hq] at hf1
  have rn := zl1 hq
  cases hd : zaC n a with
  | true =>
    rw [hd, if_pos rfl] at h1
    rw [hd, Bool.true_or, if_pos rfl, if_pos rfl] at h2 h3
    generalize zO n a 0 = F0 at *
    generalize zO n a 1 = F1 at *
    generalize zO n a 2 = F2 at *
    generalize zO n a 3 = F3 at *
    generalize zO n a 4 = F4 at *
    have FF := fI @zs (fI @z9 (fI Zn.zAV.eq_1 (fI @zR (fI @z0 @zk)))); exact gxA
  | false =>
  rw [hd, if_neg (by simp)] at h1
  rw [hd, if_neg (by simp), if_neg (by simp)] at h4
  rw [hd, Bool.false_or] at h2 h3
  cases hd2 : zaC n b with
  | true =>
    rw [hd2, if_pos rfl, if_pos rfl] at h2 h3
    generalize zO n a 0 = F0 at *
    generalize zO n a 1 = F1 at *
    generalize zO n a 2 = F2 at *
    generalize zO n a 3 = F3 at *
    generalize zO n a 4 = F4 at *
    have FF := fI @zs (fI @z9 (fI Zn.zAV.eq_1 (fI @zR (fI @z0 @zk)))); exact gxA
  | false =>
  rw [hd2, if_neg (by simp), if_neg (by simp)] at h2 h3
  have gF := zjk rn a
  have hRt := fun k => Zn.right_calls (zO n a k) false (gF k).inz (by have := (gF k).len; omega)
  have hRb := fun k => Zn.right_rz (gF k).rz
  have hCt := fun k => Zn.refCount_calls (zO n a k) false (gF k).inz (gF k).rz.ord (by have := (gF k).len; omega)
  have hCb := fun k => Zn.countZ_bound (gF k).inz (gF k).rz.ord
  have hLe := fun k => (gF k).len
  have hsp := zgr (F := zO n a) fun k => (gF k).inz
  have gO : ∀ k, Zn.Good (256 * k) (zbj (zO n a) k) := fun k => by
    induction k with
    | zero => exact ⟨(hsp 0).2.1, (hsp 0).1, by simp [zbj]⟩
    | succ k ih => exact (Zn.good_or ih (gF k)).mono (by omega)
  have hOr := fun (k : Nat) (hk : k < 5) => Zn.docOr_calls (n := 256 * k) (m := 256) (x := zbj (zO n a) k) (y := zO n a k) false false (gO k) (gF k) (by omega)
  have hcnt := zmK rn hd
  have hall := zpH rn hd
  have hcA := Zn.refCount_calls Zn.allZ false Zn.good_all.inz Zn.good_all.rz.ord (by decide)
  have e6 : Zn.countZ Zn.allZ = 4294967296 := by decide +kernel
  rw [e6] at hcA
  have gV := zdE (l := [n]) (by simp [rn]) (by simp) fun x => zbc (zQ n a x).1 b
  have gW := zdE (l := [n]) (by simp [rn]) (by simp) fun x => zaY (zQ n a x).1 b
  have hm1 := Zn.docMinus_calls false false gW (gF 3) (by decide)
  have hm2 := Zn.docMinus_calls false false gW gV (by decide)
  rw [zjl gW (gF 3) (zmL rn hd)] at hm1
  rw [zjl gW gV (zmM rn hd)] at hm2
  rw [zpI rn hd] at h4
  simp only [hRb] at hRt
  have r0 := hRt 0
  have r1 := hRt 1
  have r2 := hRt 2
  have r3 := hRt 3
  have r4 := hRt 4
  have c0 := hCt 0
  have c1 := hCt 1
  have c2 := hCt 2
  have c3 := hCt 3
  have c4 := hCt 4
  have b0 := hCb 0
  have b1 := hCb 1
  have b2 := hCb 2
  have b3 := hCb 3
  have b4 := hCb 4
  have l0 := hLe 0
  have l1 := hLe 1
  have l2 := hLe 2
  have l3 := hLe 3
  have l4 := hLe 4
  have o0 : PCalls Tryz.prog 19 [.sl 0 [] true, Zn.zAV (zO n a 0) false] (Zn.zAV (zbj (zO n a) 1) false) := PCalls.arg1 (n := 2) (hOr 0 (by omega))
  have o1 : PCalls Tryz.prog 19 [Zn.zAV (zbj (zO n a) 1) false, Zn.zAV (zO n a 1) false] (Zn.zAV (zbj (zO n a) 2) false) := hOr 1 (by omega)
  have o2 : PCalls Tryz.prog 19 [Zn.zAV (zbj (zO n a) 2) false, Zn.zAV (zO n a 2) false] (Zn.zAV (zbj (zO n a) 3) false) := hOr 2 (by omega)
  have o3 : PCalls Tryz.prog 19 [Zn.zAV (zbj (zO n a) 3) false, Zn.zAV (zO n a 3) false] (Zn.zAV (zbj (zO n a) 4) false) := hOr 3 (by omega)
  have o4 : PCalls Tryz.prog 19 [Zn.zAV (zbj (zO n a) 4) false, Zn.zAV (zO n a 4) false] (Zn.zAV (zbj (zO n a) 5) false) := hOr 4 (by omega)
  rw [hall] at o4
  clear hRt hRb hCt hCb hLe hOr hsp gO gF hall gV gW hP hany hany2
  generalize zbj (zO n a) 1 = O1 at *
  generalize zbj (zO n a) 2 = O2 at *
  generalize zbj (zO n a) 3 = O3 at *
  generalize zbj (zO n a) 4 = O4 at *
  generalize zO n a 0 = F0 at *
  generalize zO n a 1 = F1 at *
  generalize zO n a 2 = F2 at *
  generalize zO n a 3 = F3 at *
  generalize zO n a 4 = F4 at *
  generalize (zaI (zH [n]) fun x => zbc (zQ n a x).1 b) = V at *
  generalize (zaI (zH [n]) fun x => zaY (zQ n a x).1 b) = W at *
  generalize Zn.countZ F0 = C0 at *
  generalize Zn.countZ F1 = C1 at *
  generalize Zn.countZ F2 = C2 at *
  generalize Zn.countZ F3 = C3 at *
  generalize Zn.countZ F4 = C4 at *
  have u0 : IntKind.u64.wrap C0 = C0 := zas (by omega) (by omega)
  have u1 : IntKind.u64.wrap (C0 + C1) = C0 + C1 := zas (by omega) (by omega)
  have u2 : IntKind.u64.wrap (C0 + C1 + C2) = C0 + C1 + C2 := zas (by omega) (by omega)
  have u3 : IntKind.u64.wrap (C0 + C1 + C2 + C3) = C0 + C1 + C2 + C3 := zas (by omega) (by omega)
  have u4 : IntKind.u64.wrap (C0 + C1 + C2 + C3 + C4) = 4294967296 := by rw [hcnt]; exact zas (by omega) (by omega)
  have FF := fI @zs (fI @z9 (fI Zn.zAV.eq_1 (fI @zR (fI @z0 @zk)))); refine gxB ?_; clear FF
  generalize hST : St.set _ _ _ = ST
  have hE : Ext σ ST := by rw [← hST]; exact exA
  have m3 : ST.m ⟨3, σ.nx 3, 3⟩ = some (.buf [zau n f]) := by rw [← hST]; simp [zR, z0, zk]
  have m8 : ST.m ⟨8, σ.nx 8, 5⟩ = some (.buf [.agg [Zn.zAV F0 false, Zn.zAV F1 false, Zn.zAV F2 false, Zn.zAV F3 false, Zn.zAV F4 false]]) := by rw [← hST]; simp [zR, z0, zk, Zn.zAV]
  clear hST
  generalize hA0 : put 115 _ _ _ = A
  have a1 : A 1 = .raw (.int .i64 a) := by rw [← hA0]; simp
  have a3 : A 3 = .rp ⟨3, σ.nx 3, 3⟩ 0 0 := by rw [← hA0]; simp
  have a8 : A 8 = .rp ⟨8, σ.nx 8, 5⟩ 0 0 := by rw [← hA0]; simp
  have a10 : A 10 = Zn.zAV V false := by rw [← hA0]; simp [Zn.zAV]
  have a12 : A 12 = Zn.zAV W false := by rw [← hA0]; simp [Zn.zAV]
  have a14 : A 14 = .raw (.int .u64 0) := by rw [← hA0]; simp
  have a15 : A 15 = .sl 0 [] true := by rw [← hA0]; simp
  have a16 : A 16 = .raw (.int .i64 0) := by rw [← hA0]; simp
  clear hA0 hf1 h1 h2 h3
  obtain ⟨cS, hcS⟩ : ∃ cS : Nat → Int, cS 0 = 0 ∧ cS 1 = C0 ∧ cS 2 = C0 + C1 ∧ cS 3 = C0 + C1 + C2 ∧ cS 4 = C0 + C1 + C2 + C3 ∧ cS 5 = 4294967296 := ⟨fun i => if i = 0 then 0 else if i = 1 then C0 else if i = 2 then C0 + C1 else if i = 3 then C0 + C1 + C2 else if i = 4 then C0 + C1 + C2 + C3 else 4294967296, by simp, by simp, by simp, by simp, by simp, by simp⟩
  obtain ⟨s0, s1, s2, s3, s4, s5⟩ := hcS
  obtain ⟨vO, hvO⟩ : ∃ vO : Nat → AV, vO 0 = .sl 0 [] true ∧ vO 1 = Zn.zAV O1 false ∧ vO 2 = Zn.zAV O2 false ∧ vO 3 = Zn.zAV O3 false ∧ vO 4 = Zn.zAV O4 false ∧ vO 5 = Zn.zAV Zn.allZ false := ⟨fun i => if i = 0 then .sl 0 [] true else if i = 1 then Zn.zAV O1 false else if i = 2 then Zn.zAV O2 false else if i = 3 then Zn.zAV O3 false else if i = 4 then Zn.zAV O4 false else Zn.zAV Zn.allZ false, by simp, by simp, by simp, by simp, by simp, by simp⟩
  obtain ⟨v0, v1, v2, v3, v4, v5⟩ := hvO
  refine za8 (fun B ρ => ρ = ST ∧ B 1 = .raw (.int .i64 a) ∧ B 3 = .rp ⟨3, σ.nx 3, 3⟩ 0 0 ∧ B 8 = .rp ⟨8, σ.nx 8, 5⟩ 0 0 ∧ B 10 = Zn.zAV V false ∧ B 12 = Zn.zAV W false ∧ B 14 = .raw (.int .u64 4294967296) ∧ B 15 = Zn.zAV Zn.allZ false) ?_ ?_
  · intro R1 hR1
    refine zU (fun n' B ρ => ρ = ST ∧ B 1 = .raw (.int .i64 a) ∧ B 3 = .rp ⟨3, σ.nx 3, 3⟩ 0 0 ∧ B 8 = .rp ⟨8, σ.nx 8, 5⟩ 0 0 ∧ B 10 = Zn.zAV V false ∧ B 12 = Zn.zAV W false ∧ ∃ i : Nat, B 16 = .raw (.int .i64 i) ∧ i ≤ 5 ∧ n' = 5 - i ∧ B 14 = .raw (.int .u64 (cS i)) ∧ B 15 = vO i) 5 ?_ ?_
    · exact ⟨rfl, a1, a3, a8, a10, a12, 0, a16, by omega, by omega, by rw [s0]; exact a14, by rw [v0]; exact a15⟩
    clear a1 a3 a8 a10 a12 a14 a15 a16
    rintro n' B ρ ⟨rfl, a1, a3, a8, a10, a12, i, a16, hi, rfl, a14, a15⟩ I1 hI1
    have hi5 : i = 5 ∨ i = 0 ∨ i = 1 ∨ i = 2 ∨ i = 3 ∨ i = 4 := by omega
    rcases hi5 with h | h | h | h | h | h
    all_goals
      rw [h] at a14 a15
      first | rw [s5] at a14 | rw [s0] at a14 | rw [s1] at a14 | rw [s2] at a14 | rw [s3] at a14 | rw [s4] at a14
      first | rw [v5] at a15 | rw [v0] at a15 | rw [v1] at a15 | rw [v2] at a15 | rw [v3] at a15 | rw [v4] at a15
    focus
      have FF := fI @a16 @h; refine gxB ?_; clear FF
      exact hR1 _ _ ⟨rfl, by simp [a1], by simp [a3], by simp [a8], by simp [a10], by simp [a12], by simp [a14], by simp [a15]⟩
    all_goals
      have FF := fI @a8 (fI @a14 (fI @a15 (fI @a16 (fI @h (fI @m8 (fI Zn.zAV.eq_1 (fI @u0 (fI @u1 (fI @u2 (fI @u3 @u4)))))))))); refine gxB ?_; clear FF
      refine hI1 (5 - (i + 1)) _ _ (by omega) ⟨rfl, by simp [a1], by simp [a3], by simp [a8], by simp [a10], by simp [a12], i + 1, by simp [h, IntKind.wrap, IntKind.bits, IntKind.signed], by omega, rfl, ?_, ?_⟩
      · simp [h, s0, s1, s2, s3, s4, s5]
      · simp [h, v0, v1, v2, v3, v4, v5, Zn.zAV]
  · rintro B ρ ⟨rfl, a1, a3, a8, a10, a12, a14, a15⟩
    have w0 : IntKind.i64.wrap 0 = 0 := by decide
    have FF := fI @a1 (fI @a3 (fI @a8 (fI @a10 (fI @a12 (fI @a14 (fI @a15 (fI @m3 (fI @m8 (fI @zs (fI @z9 (fI Zn.zAV.eq_1 @w0))))))))))); exact gxA
end Go.Proofs.YtpboabpapgimoaaGreat.Av
