/- Probe: ProbeTells. Part 11 of 15: AvBL. -/
import Derived.Test.YtanimmdlgmkmkaaGreatPt10
namespace Go.Proofs.YtanimmdlgmkmkaaGreat.Av
open Go
set_option linter.unusedSimpArgs false
set_option linter.unusedVariables false
set_option maxRecDepth 100000
set_option maxHeartbeats 4000000
set_option pp.maxSteps 600
theorem zqg (F : List Int) : (if (20 : Int) < (F.length : Int) then (20 : Int) else (F.length : Int)) = ((F.take 20).length : Nat) := by
  rw [List.length_take]
  split <;> omega
theorem zii (n m : Nw) (f g : Fl) (q : Qy) (F : List Int) (hn : NwOK n) (hm : NwOK m) (hq : RgOK q.r) (hF : ∀ x ∈ F, -9223372036854775808 ≤ x ∧ x < 9223372036854775808) (hFl : F.length < 2 ^ 60) :
    PCalls Tryz.prog 5 [zgs n m f g, zaH q, zq F false] (.raw (.bool true)) := by
  have hal := zkw
  have hfit := zln n m f g q hn.w hm.w
  refine zK Tryz.func5 rfl (N := 185) rfl rfl (by simp) (by simp [noIds]) fun σ => ?_
  repeat (refine zg ?_)
  refine zh ?_
  simp [-cellOK, za7, zv]
  generalize hA0 : put 185 _ _ _ = A0
  have d2 : A0 2 = zq F false := by rw [← hA0]; simp [ze]
  have d3 : A0 3 = .rp ⟨3, σ.nx 3, 6⟩ 0 0 := by rw [← hA0]; simp [ze]
  have d4 : A0 4 = .rp ⟨4, σ.nx 4, 7⟩ 0 0 := by rw [← hA0]; simp [ze]
  clear hA0
  refine zY ⟨3, σ.nx 3, 6⟩ ?_
  refine zY ⟨4, σ.nx 4, 7⟩ ?_
  generalize hτ : St.del _ _ = τ
  generalize hA : (fun t => zD _ _ _) = A
  have a2 : A 2 = zq F false := by rw [← hA, ← hτ]; simp [zD, St.new, St.del, d2, zq]
  have a3 : A 3 = .pp (zgs n m f g).cells 0 := by rw [← hA, ← hτ]; simp [zD, St.new, St.del, za7, d3]
  have a4 : A 4 = .pp (zaH q).cells 0 := by rw [← hA, ← hτ]; simp [zD, St.new, St.del, zv, d4]
  have hE : Ext σ τ := by
    rw [← hτ]
    refine ⟨fun i o h => ?_, fun s => ?_⟩
    · have q1 : i ≠ ⟨3, σ.nx 3, 6⟩ := fun e => by rw [e, zf] at h; cases h
      have q2 : i ≠ ⟨4, σ.nx 4, 7⟩ := fun e => by rw [e, zf] at h; cases h
      simp [St.del, St.new, q1, q2, h]
    · simp only [St.del, St.new]
      repeat' split
      all_goals omega
  clear hτ hA d2 d3 d4
  cases hf : zhf n m q with
  | false =>
    rw [hf] at hfit
    (try ((first | with_reducible refine zk ?_ | with_reducible refine zm ?_ | with_reducible refine zo ?_); simp [-cellOK, a2, a3, a4, za7, zb4, zv, zB])); repeat' (first | ((first | refine zd ?_ | refine zh ?_ | refine dN (by decide +kernel) ?_ | refine dC (by decide +kernel) ?_ | refine uP (hfit) ?_ | refine .inl ⟨_, .inl (hfit), ?_⟩ | refine uP (hal) ?_ | refine .inl ⟨_, .inl (hal), ?_⟩ | (refine za ?_ ?_ <;> (intro hg; simp only [hg])) | fail) <;> simp [-cellOK, a2, a3, a4, za7, zb4, zv, zB]) | refine zg ?_ | refine zc ?_ | (refine zs ?_; simp only [zt]; try simp) | (refine zl (by simp) ?_; simp) | (refine zx (by simp) (by simp [noIds]) (by repeat (first | assumption | exact Ext.refl _ | refine zu ?_ | refine Ext.setF ?_ (by first | assumption | (simp [ze, St.set, zf]; done) | exact zp (by assumption)))) ?_; simp [-cellOK, a2, a3, a4, za7, zb4, zv, zB, zL]) | (refine zb (fun hc => ?_) (fun hc => ?_) <;> try simp at hc) | fail)
  | true =>
  rw [hf] at hfit
  obtain ⟨rn, rm⟩ := zkp hf
  have hrun := zho n m f g q hn hm rn rm hq
  have hbnd := zlu n m f g q hn hm hq (by have := (zeM rn q).2; omega) (by have := zfj rn rm q; omega) (by have := (zdF rn).1.p8; omega)
  have hbnd2 := zjF n m f g q hn hm rn rm hq
  cases hab : zbz n m q with
  | false =>
    rw [znS hab] at hrun
    generalize zdY n m q = bq at hbnd hbnd2
    (try ((first | with_reducible refine zk ?_ | with_reducible refine zm ?_ | with_reducible refine zo ?_); simp [-cellOK, a2, a3, a4, za7, zb4, zC, zv, zB, zaB, zan, zau, zaN, zaC, zz, zA, ze])); repeat' (first | ((first | refine zd ?_ | refine zh ?_ | refine dN (by decide +kernel) ?_ | refine dC (by decide +kernel) ?_ | refine uP (hfit) ?_ | refine .inl ⟨_, .inl (hfit), ?_⟩ | refine uP (hrun) ?_ | refine .inl ⟨_, .inl (hrun), ?_⟩ | (refine za ?_ ?_ <;> (intro hg; simp only [hg])) | fail) <;> simp [-cellOK, a2, a3, a4, za7, zb4, zC, zv, zB, zaB, zan, zau, zaN, zaC, zz, zA, ze]) | refine zg ?_ | refine zc ?_ | (refine zs ?_; simp only [zt]; try simp) | (refine zb (fun hc => ?_) (fun hc => ?_) <;> try simp at hc) | fail)
    refine zgu n m f g q hn hm hq (fun _ τ1 hE1 => ?_) (fun h => by rw [hab] at h; cases h) (fun h => by rw [hab] at h; cases h) (fun _ _ h => by rw [hab] at h; cases h)
    have hEσ : Ext σ τ1 := Ext.trans (by repeat (first | assumption | exact Ext.refl _ | refine zu ?_ | refine Ext.setF ?_ (by first | assumption | (simp [ze, St.set, zf]; done) | exact zp (by assumption)))) hE1
    (try ((first | with_reducible refine zk ?_ | with_reducible refine zm ?_ | with_reducible refine zo ?_); simp [-cellOK, a2, a3, a4, za7, zb4, zC, zv, zB, zz, zA, ze])); repeat' (first | ((first | refine zd ?_ | refine zh ?_ | refine dN (by decide +kernel) ?_ | refine dC (by decide +kernel) ?_ | refine uP (hbnd) ?_ | refine .inl ⟨_, .inl (hbnd), ?_⟩ | refine uP (hbnd2) ?_ | refine .inl ⟨_, .inl (hbnd2), ?_⟩ | refine uP (hal) ?_ | refine .inl ⟨_, .inl (hal), ?_⟩ | (refine za ?_ ?_ <;> (intro hg; simp only [hg])) | fail) <;> simp [-cellOK, a2, a3, a4, za7, zb4, zC, zv, zB, zz, zA, ze]) | refine zg ?_ | refine zc ?_ | (refine zs ?_; simp only [zt]; try simp) | (refine zl (by simp) ?_; simp) | (refine zx (by simp) (by simp [noIds]) (by repeat (first | assumption | exact Ext.refl _ | refine zu ?_ | refine Ext.setF ?_ (by first | assumption | (simp [ze, St.set, zf]; done) | exact zp (by assumption)))) ?_; simp [-cellOK, a2, a3, a4, za7, zb4, zC, zv, zB, zz, zA, ze, zL]) | (refine zb (fun hc => ?_) (fun hc => ?_) <;> try simp at hc) | fail)
  | true =>
  obtain ⟨s, ss, T, hs, hp, hends, hT1, hTb, hT2⟩ := zoG f g rn rm hq hab
  have hcost0 := zoH hs hp hends
  have hcost := zkv n m f g q hn hm rn rm hq hab (by rw [← hcost0]; omega)
  rw [← hcost0] at hcost
  have hr0 : (zdl n m q).2 = 0 := by rw [zlx hab]
  rw [hr0] at hrun
  have hvl := zmp n m q
  have hlk := hn.links
  generalize (zdl n m q).1 = V at hends hrun hvl
  have hsame := zjg V V false false (by omega) (by omega)
  rw [decide_eq_true rfl] at hsame
  generalize zdY n m q = bq at hbnd hbnd2 hTb
  (try ((first | with_reducible refine zk ?_ | with_reducible refine zm ?_ | with_reducible refine zo ?_); simp [-cellOK, a2, a3, a4, za7, zb4, zC, zv, zB, zaB, zan, zau, zaN, zaC, zz, zA, ze])); repeat' (first | ((first | refine zd ?_ | refine zh ?_ | refine dN (by decide +kernel) ?_ | refine dC (by decide +kernel) ?_ | refine uP (hfit) ?_ | refine .inl ⟨_, .inl (hfit), ?_⟩ | refine uP (hrun) ?_ | refine .inl ⟨_, .inl (hrun), ?_⟩ | (refine za ?_ ?_ <;> (intro hg; simp only [hg])) | fail) <;> simp [-cellOK, a2, a3, a4, za7, zb4, zC, zv, zB, zaB, zan, zau, zaN, zaC, zz, zA, ze]) | refine zg ?_ | refine zc ?_ | (refine zs ?_; simp only [zt]; try simp) | (refine zb (fun hc => ?_) (fun hc => ?_) <;> try simp at hc) | fail)
  refine zgu n m f g q hn hm hq (fun h => by rw [hab] at h; cases h) (fun _ => ⟨s, ss, hs⟩) (fun _ => hp) (fun s1 ss1 _ hs1 τ1 ip hsz hip hR1 hE1 => ?_)
  rw [hs] at hs1
  injection hs1 with e1 e2
  subst e1; subst e2
  have m8 := hE1.1 ⟨8, τ.nx 8, 7⟩ (.buf [zb9 V false]) (by simp [zA, zz])
  have hEσ : Ext σ τ1 := Ext.trans (by repeat (first | assumption | exact Ext.refl _ | refine zu ?_ | refine Ext.setF ?_ (by first | assumption | (simp [ze, St.set, zf]; done) | exact zp (by assumption)))) hE1
  have f8 : σ.m ⟨8, τ.nx 8, 7⟩ = none := zp hE
  have i8 : ip ≠ ⟨8, τ.nx 8, 7⟩ := fun e => by rw [e] at hsz; cases hsz
  obtain ⟨i8', hi8⟩ : ∃ i, (⟨8, τ.nx 8, 7⟩ : Id) = i := ⟨_, rfl⟩
  have hip0 : σ.m ip = none := by
    refine zoJ (τ := _) ?_ hip
    exact (by repeat (first | assumption | exact Ext.refl _ | refine zu ?_ | refine Ext.setF ?_ (by first | assumption | (simp [ze, St.set, zf]; done) | exact zp (by assumption))))
  rw [hi8] at m8 f8 i8
  obtain ⟨G, hG⟩ : ∃ G, F.take 20 = G := ⟨_, rfl⟩
  have ht20 := zqg F
  rw [hG] at ht20
  have hGl : (G.length ≤ F.length) = True := eq_true (by rw [← hG, List.length_take]; omega)
  have hGm : (F.map iAV).take G.length = G.map iAV := by
    rw [← List.map_take]; congr 1
    rw [← hG, List.length_take, List.take_eq_take_iff]; omega
  have hG20 : G.length ≤ 20 := by rw [← hG, List.length_take]; omega
  have hGv : ∀ x ∈ G, -9223372036854775808 ≤ x ∧ x < 9223372036854775808 := fun x hx => hF x (by rw [← hG] at hx; exact List.mem_of_mem_take hx)
  (try ((first | with_reducible refine zk ?_ | with_reducible refine zm ?_ | with_reducible refine zo ?_); simp [-cellOK, a2, a3, a4, za7, zb4, zC, zv, zB, zq, ht20, hGl, hGm])); repeat' (first | ((first | refine zd ?_ | refine zh ?_ | refine dN (by decide +kernel) ?_ | refine dC (by decide +kernel) ?_ | refine uP (hbnd) ?_ | refine .inl ⟨_, .inl (hbnd), ?_⟩ | refine uP (hbnd2) ?_ | refine .inl ⟨_, .inl (hbnd2), ?_⟩ | refine uP (hcost) ?_ | refine .inl ⟨_, .inl (hcost), ?_⟩ | (refine za ?_ ?_ <;> (intro hg; simp only [hg])) | fail) <;> simp [-cellOK, a2, a3, a4, za7, zb4, zC, zv, zB, zq, ht20, hGl, hGm]) | refine zg ?_ | refine zc ?_ | (refine zs ?_; simp only [zt]; try simp) | (refine zb (fun hc => ?_) (fun hc => ?_) <;> try simp at hc) | fail)
  generalize hA1 : put 185 _ _ _ = A1
  have b2 : A1 2 = zq G false := by rw [← hA1]; simp [zq]
  have b8 : A1 8 = .rp i8' 0 0 := by rw [← hA1]; simp [hi8]
  have b10 : A1 10 = .rp ip 0 0 := by rw [← hA1]; simp
  have b12 : A1 12 = .raw (.int .i64 T) := by rw [← hA1]; simp
  have b13 : A1 13 = .raw (.int .i64 0) := by rw [← hA1]; simp
  clear hA1
  refine zY i8' ?_
  generalize hA2 : (fun t => zD _ _ _) = A2
  have c2 : A2 2 = zq G false := by rw [← hA2]; show zD _ _ (A1 2) = _; rw [b2]; rfl
  have c8 : A2 8 = .pp (zb9 V false).cells 0 := by rw [← hA2]; show zD _ _ (A1 8) = _; rw [b8, za3 (by simp [St.del]) m8 rfl]
  have c10 : A2 10 = .rp ip 0 0 := by rw [← hA2]; show zD _ _ (A1 10) = _; rw [b10]; exact zaL i8
  have c12 : A2 12 = .raw (.int .i64 T) := by rw [← hA2]; show zD _ _ (A1 12) = _; rw [b12]; rfl
  have c13 : A2 13 = .raw (.int .i64 0) := by rw [← hA2]; show zD _ _ (A1 13) = _; rw [b13]; rfl
  clear hA2 b2 b8 b10 b12 b13
  have hE0 : Ext σ (τ1.del i8') := ⟨fun i o h => by rw [zag (fun e => by rw [e, f8] at h; cases h)]; exact hEσ.m i o h, hEσ.nx⟩
  have hR0 : PbR ip (pb0 n m f g q) (.one [] s) zaJ zaJ (τ1.del i8') := hR1.up fun i o hi e => by
    rcases hi with rfl | hi | hi
    · rw [zag i8]; exact e
    · exact absurd hi (za4 i)
    · exact absurd hi (za4 i)
  have hO0 : Off σ ip zaJ zaJ (τ1.del i8') := ⟨hE0, hip0, fun i o _ => ⟨za4 i, za4 i⟩⟩
  have hX0 : OkB (pb0 n m f g q) := zn1 hn hm hp
  generalize τ1.del i8' = ρ0 at *
  clear hE1 hR1 hip hEσ m8 hE0 a2 a3 a4 hcost0
  refine zab (fun n' B ρ => B 2 = zq G false ∧ B 8 = .pp (zb9 V false).cells 0 ∧ B 10 = .rp ip 0 0 ∧
    ∃ (i L : Nat) (X1 : PB) (ph1 : Ph) (v1 w1 : AV), B 13 = .raw (.int .i64 i) ∧ B 12 = .raw (.int .i64 L) ∧ i ≤ 40000 ∧ n' = 40000 - i ∧ L ≤ T ∧ (3 * G.length + 1 ≤ i → L + (i - (3 * G.length + 1)) ≤ T) ∧ OkB X1 ∧ PbR ip X1 ph1 v1 w1 ρ ∧ Ends X1 ph1 V L ∧ Off σ ip v1 w1 ρ) 40000 ?_ ?_
  · exact ⟨c2, c8, c10, 0, T, _, _, zaJ, zaJ, c13, c12, by omega, by omega, by omega, by omega, hX0, hR0, hends, hO0⟩
  clear c2 c8 c10 c12 c13 hR0 hO0 hX0
  rintro n' B ρ ⟨c2, c8, c10, i, L, X1, ph1, v1, w1, c13, c12, hi, rfl, hLT, hpot, hX1, hR1, hN1, hO1⟩ I1 hI1
  by_cases hL : 0 < L
  · have hi4 : ((i : Int) < 40000) = True := eq_true (by omega)
    have hL' : ((0 : Int) < (L : Int)) = True := eq_true (by omega)
    have hL2 : (0 < L) = True := eq_true hL
    have hd1 : ph1.done = false := by
      rw [show L = (L - 1) + 1 by omega] at hN1
      exact hN1.not
    have wi : IntKind.i64.wrap ((i : Int) + 1) = ((i + 1 : Nat) : Int) := by rw [zU (by omega) (by omega)]; omega
    obtain ⟨d', v2, t', w2, u', nx', r', m', hnx⟩ := hR1.ob
    rw [hd1] at m'
    by_cases hGe : G = []
    focus
      have hGl0 : G.length = 0 := by rw [hGe]; rfl
      obtain ⟨fz, hfz⟩ : ∃ fz : Int, fz = 7 := ⟨_, rfl⟩
      have hf1 : 3 * G.length + 1 ≤ i ∨ G = [] → 1 ≤ fz := fun _ => by omega
      have hf2 : -9223372036854775808 ≤ fz ∧ fz < 9223372036854775808 := by omega
      (try ((first | with_reducible refine zk ?_ | with_reducible refine zm ?_ | with_reducible refine zo ?_); simp [-cellOK, c2, c8, c10, c12, c13, hi4, hL', hL2, zq, hGl0])); repeat' (first | ((first | refine zd ?_ | refine zh ?_ | refine dN (by decide +kernel) ?_ | refine dC (by decide +kernel) ?_ | (refine za ?_ ?_ <;> (intro hg; simp only [hg])) | fail) <;> simp [-cellOK, c2, c8, c10, c12, c13, hi4, hL', hL2, zq, hGl0]) | refine zg ?_ | refine zc ?_ | (refine zs ?_; simp only [zt]; try simp) | (refine zb (fun hc => ?_) (fun hc => ?_) <;> try simp at hc) | fail)
      generalize hA3 : put 185 _ _ _ = A3
      have a2 : A3 2 = zq G false := by rw [← hA3]; simp [c2, zq]
      have a8 : A3 8 = .pp (zb9 V false).cells 0 := by rw [← hA3]; simp [c8]
      have a10 : A3 10 = .rp ip 0 0 := by rw [← hA3]; simp [c10]
      have a12 : A3 12 = .raw (.int .i64 L) := by rw [← hA3]; simp [c12]
      have a13 : A3 13 = .raw (.int .i64 i) := by rw [← hA3]; simp [c13]
      have a14 : A3 14 = .raw (.int .i64 fz) := by rw [← hA3]; simp [hfz]
      clear hA3 hfz c2 c8 c10 c12 c13
    rotate_left
    focus
      have hGp : 0 < G.length := List.length_pos_iff.2 hGe
      have hGp' : ((0 : Int) < (G.length : Int)) = True := eq_true (by omega)
      have hGp2 : (0 < G.length) = True := eq_true hGp
      have hmod : i % G.length < G.length := Nat.mod_lt _ hGp
      obtain ⟨x, hx⟩ : ∃ x, G[i % G.length] = x := ⟨_, rfl⟩
      have hxv := hGv x (by rw [← hx]; exact List.getElem_mem _)
      have w3 : IntKind.i64.wrap (3 * (G.length : Int)) = 3 * (G.length : Int) := zU (by omega) (by omega)
      have hGf := eq_false hGe
      have htm : (i : Int).tmod (G.length : Int) = ((i % G.length : Nat) : Int) := by rw [Int.ofNat_tmod]
      obtain ⟨kx, hkx⟩ : ∃ kx, i % G.length = kx := ⟨_, rfl⟩
      rw [hkx] at hmod htm
      have hx' : G[kx]? = some x := by rw [← hx, ← hkx]; exact List.getElem?_eq_getElem _
      have hx2 : G[kx] = x := (List.getElem?_eq_some_iff.1 hx').2
      by_cases h3 : 3 * G.length < i
      focus
        have h3' : (3 * (G.length : Int) < (i : Int)) = True := eq_true (by omega)
        obtain ⟨fz, hfz⟩ : ∃ fz : Int, fz = if 1 > x then 1 else x := ⟨_, rfl⟩
        (try ((first | with_reducible refine zk ?_ | with_reducible refine zm ?_ | with_reducible refine zo ?_); simp [-cellOK, c2, c8, c10, c12, c13, hi4, hL', hL2, zq, hGp', hGp2, w3, h3', hGf, htm, hmod, hx', hx2, iAV])); repeat' (first | ((first | refine zd ?_ | refine zh ?_ | refine dN (by decide +kernel) ?_ | refine dC (by decide +kernel) ?_ | (refine za ?_ ?_ <;> (intro hg; simp only [hg])) | fail) <;> simp [-cellOK, c2, c8, c10, c12, c13, hi4, hL', hL2, zq, hGp', hGp2, w3, h3', hGf, htm, hmod, hx', hx2, iAV]) | refine zg ?_ | refine zc ?_ | (refine zs ?_; simp only [zt]; try simp) | (refine zb (fun hc => ?_) (fun hc => ?_) <;> try simp at hc) | fail)
        have hf1 : 3 * G.length + 1 ≤ i ∨ G = [] → 1 ≤ fz := fun _ => by rw [hfz]; split <;> omega
        have hf2 : -9223372036854775808 ≤ fz ∧ fz < 9223372036854775808 := by rw [hfz]; split <;> omega
        generalize hA3 : put 185 _ _ _ = A3
        have a2 : A3 2 = zq G false := by rw [← hA3]; simp [c2, zq]
        have a8 : A3 8 = .pp (zb9 V false).cells 0 := by rw [← hA3]; simp [c8]
        have a10 : A3 10 = .rp ip 0 0 := by rw [← hA3]; simp [c10]
        have a12 : A3 12 = .raw (.int .i64 L) := by rw [← hA3]; simp [c12]
        have a13 : A3 13 = .raw (.int .i64 i) := by rw [← hA3]; simp [c13]
        have a14 : A3 14 = .raw (.int .i64 fz) := by rw [← hA3]; simp [hfz]
        clear hA3 hfz c2 c8 c10 c12 c13
      rotate_left
      focus
        have h3' : (3 * (G.length : Int) < (i : Int)) = False := eq_false (by omega)
        obtain ⟨fz, hfz⟩ : ∃ fz : Int, fz = x := ⟨_, rfl⟩
        have hf1 : 3 * G.length + 1 ≤ i ∨ G = [] → 1 ≤ fz := fun h => by rcases h with h | h; omega; exact absurd h hGe
        have hf2 : -9223372036854775808 ≤ fz ∧ fz < 9223372036854775808 := by rw [hfz]; exact hxv
        (try ((first | with_reducible refine zk ?_ | with_reducible refine zm ?_ | with_reducible refine zo ?_); simp [-cellOK, c2, c8, c10, c12, c13, hi4, hL', hL2, zq, hGp', hGp2, w3, h3', hGf, htm, hmod, hx', hx2, iAV])); repeat' (first | ((first | refine zd ?_ | refine zh ?_ | refine dN (by decide +kernel) ?_ | refine dC (by decide +kernel) ?_ | (refine za ?_ ?_ <;> (intro hg; simp only [hg])) | fail) <;> simp [-cellOK, c2, c8, c10, c12, c13, hi4, hL', hL2, zq, hGp', hGp2, w3, h3', hGf, htm, hmod, hx', hx2, iAV]) | refine zg ?_ | refine zc ?_ | (refine zs ?_; simp only [zt]; try simp) | (refine zb (fun hc => ?_) (fun hc => ?_) <;> try simp at hc) | fail)
        generalize hA3 : put 185 _ _ _ = A3
        have a2 : A3 2 = zq G false := by rw [← hA3]; simp [c2, zq]
        have a8 : A3 8 = .pp (zb9 V false).cells 0 := by rw [← hA3]; simp [c8]
        have a10 : A3 10 = .rp ip 0 0 := by rw [← hA3]; simp [c10]
        have a12 : A3 12 = .raw (.int .i64 L) := by rw [← hA3]; simp [c12]
        have a13 : A3 13 = .raw (.int .i64 i) := by rw [← hA3]; simp [c13]
        have a14 : A3 14 = .raw (.int .i64 fz) := by rw [← hA3]; simp [hfz]
        clear hA3 hfz c2 c8 c10 c12 c13
    all_goals
      refine zjc m' fun ρ1 hE1 => ?_
      (try ((first | with_reducible refine zk ?_ | with_reducible refine zm ?_ | with_reducible refine zo ?_); simp [-cellOK, a2, a8, a10, a12, a13, a14, zan, zaC, zaB, zz, zA, ze])); repeat' (first | ((first | refine zd ?_ | refine zh ?_ | refine dN (by decide +kernel) ?_ | refine dC (by decide +kernel) ?_ | (refine za ?_ ?_ <;> (intro hg; simp only [hg])) | fail) <;> simp [-cellOK, a2, a8, a10, a12, a13, a14, zan, zaC, zaB, zz, zA, ze]) | refine zg ?_ | refine zc ?_ | (refine zs ?_; simp only [zt]; try simp) | (refine zb (fun hc => ?_) (fun hc => ?_) <;> try simp at hc) | fail)
      generalize hρ2 : St.set _ _ _ = ρ2
      have hE2 : Ext ρ ρ2 := by rw [← hρ2]; exact (by repeat (first | assumption | exact Ext.refl _ | refine zu ?_ | refine Ext.setF ?_ (by first | assumption | (simp [ze, St.set, zf]; done) | exact zp (by assumption))))
      have m2 := hE2.1 _ _ m'
      have hR2 := hR1.ext hE2
      have hO2 : Off σ ip v1 w1 ρ2 := ⟨hO1.ext.trans hE2, hO1.ip, hO1.at_⟩
      clear hρ2 hE1
      refine zdX m2 ?_
      (try ((first | with_reducible refine zk ?_ | with_reducible refine zm ?_ | with_reducible refine zo ?_); simp [-cellOK, a2, a8, a10, a12, a13, a14])); repeat' (first | ((first | refine zd ?_ | refine zh ?_ | refine dN (by decide +kernel) ?_ | refine dC (by decide +kernel) ?_ | (refine za ?_ ?_ <;> (intro hg; simp only [hg])) | fail) <;> simp [-cellOK, a2, a8, a10, a12, a13, a14]) | refine zg ?_ | refine zc ?_ | (refine zs ?_; simp only [zt]; try simp) | (refine zb (fun hc => ?_) (fun hc => ?_) <;> try simp at hc) | fail)
      by_cases hfz : fz < 1
      · have hfz' := eq_true hfz
        refine zhV hR2 (.inl hfz) ?_
        (try ((first | with_reducible refine zk ?_ | with_reducible refine zm ?_ | with_reducible refine zo ?_); simp [-cellOK, a2, a8, a10, a12, a13, a14, hfz', wi])); repeat' (first | ((first | refine zd ?_ | refine zh ?_ | refine dN (by decide +kernel) ?_ | refine dC (by decide +kernel) ?_ | (refine za ?_ ?_ <;> (intro hg; simp only [hg])) | fail) <;> simp [-cellOK, a2, a8, a10, a12, a13, a14, hfz', wi]) | refine zg ?_ | refine zc ?_ | (refine zs ?_; simp only [zt]; try simp) | (refine zb (fun hc => ?_) (fun hc => ?_) <;> try simp at hc) | fail)
        exact hI1 (40000 - (i + 1)) _ _ (by omega) ⟨by simp [a2], by simp [a8], by simp [a10], i + 1, L, _, _, _, _, by simp, by simp [a12], by omega, rfl, hLT, fun h => (by
          by_cases h5 : 3 * G.length + 1 ≤ i
          · have := hf1 (.inl h5); omega
          · omega), hX1, hR2, hN1, hO2⟩
      · have hfz' := eq_false hfz
        refine zfy hsz hX1 hd1 hR2 (f := fz) (by omega) (by omega) fun ρ3 v3 w3 hR3 hQ => ?_
        obtain ⟨hg1, hg2⟩ := hN1.go fz.toNat
        rw [hg1]
        obtain ⟨k, hk⟩ : ∃ k, min fz.toNat L = k := ⟨_, rfl⟩
        have hmin : (if (L : Int) < fz then (L : Int) else fz) = (k : Int) := by split <;> omega
        rw [hk]
        have wl : IntKind.i64.wrap ((L : Int) - (k : Int)) = ((L - k : Nat) : Int) := by rw [zU (by omega) (by omega)]; omega
        (try ((first | with_reducible refine zk ?_ | with_reducible refine zm ?_ | with_reducible refine zo ?_); simp [-cellOK, a2, a8, a10, a12, a13, a14, hfz', hmin, wl, wi])); repeat' (first | ((first | refine zd ?_ | refine zh ?_ | refine dN (by decide +kernel) ?_ | refine dC (by decide +kernel) ?_ | (refine za ?_ ?_ <;> (intro hg; simp only [hg])) | fail) <;> simp [-cellOK, a2, a8, a10, a12, a13, a14, hfz', hmin, wl, wi]) | refine zg ?_ | refine zc ?_ | (refine zs ?_; simp only [zt]; try simp) | (refine zb (fun hc => ?_) (fun hc => ?_) <;> try simp at hc) | fail)
        exact hI1 (40000 - (i + 1)) _ _ (by omega) ⟨by simp [a2], by simp [a8], by simp [a10], i + 1, L - k, _, _, _, _, by simp, by simp, by omega, rfl, by omega, fun h => (by
          by_cases h5 : 3 * G.length + 1 ≤ i
          · have := hpot h5; omega
          · omega), hX1.go _ _, hR3, hg2.cast (by omega), hO2.step hQ⟩
  · have hL0 : L = 0 := by omega
    subst hL0
    have := hN1.done
    subst this
    clear hI1 hpot
    by_cases hi4 : (i : Int) < 40000
    focus
      have hi4' := eq_true hi4
      (try ((first | with_reducible refine zk ?_ | with_reducible refine zm ?_ | with_reducible refine zo ?_); simp [-cellOK, c2, c8, c10, c12, c13, hi4'])); repeat' (first | ((first | refine zd ?_ | refine zh ?_ | refine dN (by decide +kernel) ?_ | refine dC (by decide +kernel) ?_ | (refine za ?_ ?_ <;> (intro hg; simp only [hg])) | fail) <;> simp [-cellOK, c2, c8, c10, c12, c13, hi4']) | refine zg ?_ | refine zc ?_ | (refine zs ?_; simp only [zt]; try simp) | (refine zb (fun hc => ?_) (fun hc => ?_) <;> try simp at hc) | fail)
    rotate_left
    focus
      have hi4' := eq_false hi4
      (try ((first | with_reducible refine zk ?_ | with_reducible refine zm ?_ | with_reducible refine zo ?_); simp [-cellOK, c2, c8, c10, c12, c13, hi4'])); repeat' (first | ((first | refine zd ?_ | refine zh ?_ | refine dN (by decide +kernel) ?_ | refine dC (by decide +kernel) ?_ | (refine za ?_ ?_ <;> (intro hg; simp only [hg])) | fail) <;> simp [-cellOK, c2, c8, c10, c12, c13, hi4']) | refine zg ?_ | refine zc ?_ | (refine zs ?_; simp only [zt]; try simp) | (refine zb (fun hc => ?_) (fun hc => ?_) <;> try simp at hc) | fail)
    all_goals
      refine zgF hsz hR1 fun ρ1 hE1 => ?_
      have hR2 := hR1.ext hE1
      have hEσ := hO1.ext.trans hE1
      (try ((first | with_reducible refine zk ?_ | with_reducible refine zm ?_ | with_reducible refine zo ?_); simp [-cellOK, c2, c8, c10, c12, zaB, zan, zau, zaN, zaC, zz, zA, ze])); repeat' (first | ((first | refine zd ?_ | refine zh ?_ | refine dN (by decide +kernel) ?_ | refine dC (by decide +kernel) ?_ | (refine za ?_ ?_ <;> (intro hg; simp only [hg])) | fail) <;> simp [-cellOK, c2, c8, c10, c12, zaB, zan, zau, zaN, zaC, zz, zA, ze]) | refine zg ?_ | refine zc ?_ | (refine zs ?_; simp only [zt]; try simp) | (refine zb (fun hc => ?_) (fun hc => ?_) <;> try simp at hc) | fail)
      refine zhV (hR2.ext (by repeat (first | assumption | exact Ext.refl _ | refine zu ?_ | refine Ext.setF ?_ (by first | assumption | (simp [ze, St.set, zf]; done) | exact zp (by assumption))))) (.inr rfl) ?_
      (try ((first | with_reducible refine zk ?_ | with_reducible refine zm ?_ | with_reducible refine zo ?_); simp [-cellOK, c2, c8, c10, c12, zaB, zan, zau, zaN, zaC, zz, zA, ze])); repeat' (first | ((first | refine zd ?_ | refine zh ?_ | refine dN (by decide +kernel) ?_ | refine dC (by decide +kernel) ?_ | refine uP (hsame) ?_ | refine .inl ⟨_, .inl (hsame), ?_⟩ | refine uP (hal) ?_ | refine .inl ⟨_, .inl (hal), ?_⟩ | (refine za ?_ ?_ <;> (intro hg; simp only [hg])) | fail) <;> simp [-cellOK, c2, c8, c10, c12, zaB, zan, zau, zaN, zaC, zz, zA, ze]) | refine zg ?_ | refine zc ?_ | (refine zs ?_; simp only [zt]; try simp) | (refine zb (fun hc => ?_) (fun hc => ?_) <;> try simp at hc) | fail)
      obtain ⟨d', v2, t', w2, u', nx', r', m', -⟩ := (hR2.ext (τ := (ρ1.new 19 7 (.buf [zcv])).set ⟨19, ρ1.nx 19, 7⟩ (.buf [zb9 V false])) (by repeat (first | assumption | exact Ext.refl _ | refine zu ?_ | refine Ext.setF ?_ (by first | assumption | (simp [ze, St.set, zf]; done) | exact zp (by assumption))))).ob
      refine zdX m' ?_
      (try ((first | with_reducible refine zk ?_ | with_reducible refine zm ?_ | with_reducible refine zo ?_); simp [-cellOK, c2, c8, c10, c12, zaB, zan, zau, zaN, zaC, Ph.done, zz, zA, ze])); repeat' (first | ((first | refine zd ?_ | refine zh ?_ | refine dN (by decide +kernel) ?_ | refine dC (by decide +kernel) ?_ | (refine za ?_ ?_ <;> (intro hg; simp only [hg])) | fail) <;> simp [-cellOK, c2, c8, c10, c12, zaB, zan, zau, zaN, zaC, Ph.done, zz, zA, ze]) | refine zg ?_ | refine zc ?_ | (refine zs ?_; simp only [zt]; try simp) | (refine zl (by simp) ?_; simp) | (refine zx (by simp) (by simp [noIds]) (by repeat (first | assumption | exact Ext.refl _ | refine zu ?_ | refine Ext.setF ?_ (by first | assumption | (simp [ze, St.set, zf]; done) | exact zp (by assumption)))) ?_; simp [-cellOK, c2, c8, c10, c12, zaB, zan, zau, zaN, zaC, Ph.done, zz, zA, ze, zL]) | (refine zb (fun hc => ?_) (fun hc => ?_) <;> try simp at hc) | fail)
end Go.Proofs.YtanimmdlgmkmkaaGreat.Av
