/- Probe: ProbeTells. Part 8 of 15: AvT3, AvT4, AvT5, AvT6, AvT7, AvT8, AvN25, AvT9, AvT10, AvN26, AvN27, AvN28, AvN29, AvN30, AvN15, AvN18, AvN19, AvN20, AvN21, AvN32, AvN23. -/
import Derived.Test.YtanimmdlgmkmkaaGreatPt7
namespace Go.Proofs.YtanimmdlgmkmkaaGreat.Av
open Go
set_option linter.unusedSimpArgs false
set_option linter.unusedVariables false
set_option maxRecDepth 100000
set_option maxHeartbeats 4000000
set_option pp.maxSteps 600
theorem zct (l : Tr) (k v : Int) (r : Tr) (h : l.sz + r.sz < 2 ^ 50) : PCalls Tryz.prog 208 [l.av, zdt k v, r.av] (Tr.even l k v r).av := by
  have z1 := l.ht_nn
  have z2 := r.ht_nn
  have z3 := l.sz_nn
  have z4 := r.sz_nn
  have z5 := l.ht_le
  have z6 := r.ht_le
  have w1 : IntKind.i64.wrap (r.ht + 1) = r.ht + 1 := zU (by omega) (by omega)
  have w2 : IntKind.i64.wrap (l.ht + 1) = l.ht + 1 := zU (by omega) (by omega)
  have hl := zbS l
  have hr := zbS r
  by_cases h1 : r.ht + 1 < l.ht
  · cases l with
    | nil => simp only [Tr.ht] at h1; omega
    | node ll lk lv lr =>
      have y1 := ll.sz_nn
      have y2 := lr.sz_nn
      have y3 := ll.ht_nn
      have y4 := lr.ht_nn
      have hz : (Tr.node ll lk lv lr).sz = 1 + ll.sz + lr.sz := rfl
      have g1 := zbS ll
      have g2 := zbS lr
      rw [zaY] at hl ⊢
      obtain ⟨H, hH⟩ : ∃ H, (Tr.node ll lk lv lr).ht = H := ⟨_, rfl⟩
      obtain ⟨Z, hZ⟩ : ∃ Z, (Tr.node ll lk lv lr).sz = Z := ⟨_, rfl⟩
      by_cases h2 : lr.ht ≤ ll.ht
      · have m1 := zbh lr k v r (by omega)
        have m2 := zbh ll lk lv (.node lr k v r) (by simp only [Tr.sz]; omega)
        have e : Tr.even (.node ll lk lv lr) k v r = .node ll lk lv (.node lr k v r) := by simp only [Tr.even, if_pos h1, if_pos h2]
        rw [e]
        rw [hH] at h1 hl w2 ⊢
        rw [hZ] at hl
        refine zK Tryz.func208 rfl (N := 139) rfl rfl (by simp) (by simp [noIds]) fun σ => ?_
        rw [hZ]
        generalize Tr.node ll lk lv (.node lr k v r) = T at m2 ⊢
        generalize Tr.node lr k v r = U at m1 m2
        (try ((first | with_reducible refine zk ?_ | with_reducible refine zm ?_ | with_reducible refine zo ?_); simp [-cellOK, zI, zJ, h1, h2, w1, w2])); repeat' (first | ((first | refine zd ?_ | refine zh ?_ | refine dN (by decide +kernel) ?_ | refine dC (by decide +kernel) ?_ | refine uP (hl) ?_ | refine .inl ⟨_, .inl (hl), ?_⟩ | refine uP (hr) ?_ | refine .inl ⟨_, .inl (hr), ?_⟩ | refine uP (g1) ?_ | refine .inl ⟨_, .inl (g1), ?_⟩ | refine uP (g2) ?_ | refine .inl ⟨_, .inl (g2), ?_⟩ | refine uP (m1) ?_ | refine .inl ⟨_, .inl (m1), ?_⟩ | refine uP (m2) ?_ | refine .inl ⟨_, .inl (m2), ?_⟩ | (refine za ?_ ?_ <;> (intro hg; simp only [hg])) | fail) <;> simp [-cellOK, zI, zJ, h1, h2, w1, w2]) | refine zg ?_ | refine zc ?_ | (refine zs ?_; simp only [zt]; try simp) | (refine zl (by simp) ?_; simp) | (refine zx (by simp) (by simp [noIds]) (by repeat (first | assumption | exact Ext.refl _ | refine zu ?_ | refine Ext.setF ?_ (by first | assumption | (simp [ze, St.set, zf]; done) | exact zp (by assumption)))) ?_; simp [-cellOK, zI, zJ, h1, h2, w1, w2, zL]) | (refine zb (fun hc => ?_) (fun hc => ?_) <;> try simp at hc) | fail)
      · cases lr with
        | nil => simp only [Tr.ht] at h2; omega
        | node a mk mv b =>
          have x1 := a.sz_nn
          have x2 := b.sz_nn
          have hz2 : (Tr.node a mk mv b).sz = 1 + a.sz + b.sz := rfl
          have m1 := zbh ll lk lv a (by omega)
          have m2 := zbh b k v r (by omega)
          have m3 := zbh (.node ll lk lv a) mk mv (.node b k v r) (by simp only [Tr.sz]; omega)
          have e : Tr.even (.node ll lk lv (.node a mk mv b)) k v r = .node (.node ll lk lv a) mk mv (.node b k v r) := by simp only [Tr.even, if_pos h1, if_neg h2]
          rw [e]
          have hm := zaY a mk mv b
          obtain ⟨H2, hH2⟩ : ∃ H, (Tr.node a mk mv b).ht = H := ⟨_, rfl⟩
          obtain ⟨Z2, hZ2⟩ : ∃ Z, (Tr.node a mk mv b).sz = Z := ⟨_, rfl⟩
          rw [hH, hZ] at hl ⊢
          rw [hH] at h1 w2
          rw [hH2] at h2
          rw [hH2, hZ2] at hm
          rw [hH2, hm] at g2
          rw [hm] at hl ⊢
          refine zK Tryz.func208 rfl (N := 139) rfl rfl (by simp) (by simp [noIds]) fun σ => ?_
          generalize Tr.node (.node ll lk lv a) mk mv (.node b k v r) = T at m3 ⊢
          generalize Tr.node ll lk lv a = U at m1 m3
          generalize Tr.node b k v r = V at m2 m3
          (try ((first | with_reducible refine zk ?_ | with_reducible refine zm ?_ | with_reducible refine zo ?_); simp [-cellOK, zI, zJ, h1, h2, w1, w2])); repeat' (first | ((first | refine zd ?_ | refine zh ?_ | refine dN (by decide +kernel) ?_ | refine dC (by decide +kernel) ?_ | refine uP (hl) ?_ | refine .inl ⟨_, .inl (hl), ?_⟩ | refine uP (hr) ?_ | refine .inl ⟨_, .inl (hr), ?_⟩ | refine uP (g1) ?_ | refine .inl ⟨_, .inl (g1), ?_⟩ | refine uP (g2) ?_ | refine .inl ⟨_, .inl (g2), ?_⟩ | refine uP (m1) ?_ | refine .inl ⟨_, .inl (m1), ?_⟩ | refine uP (m2) ?_ | refine .inl ⟨_, .inl (m2), ?_⟩ | refine uP (m3) ?_ | refine .inl ⟨_, .inl (m3), ?_⟩ | (refine za ?_ ?_ <;> (intro hg; simp only [hg])) | fail) <;> simp [-cellOK, zI, zJ, h1, h2, w1, w2]) | refine zg ?_ | refine zc ?_ | (refine zs ?_; simp only [zt]; try simp) | (refine zl (by simp) ?_; simp) | (refine zx (by simp) (by simp [noIds]) (by repeat (first | assumption | exact Ext.refl _ | refine zu ?_ | refine Ext.setF ?_ (by first | assumption | (simp [ze, St.set, zf]; done) | exact zp (by assumption)))) ?_; simp [-cellOK, zI, zJ, h1, h2, w1, w2, zL]) | (refine zb (fun hc => ?_) (fun hc => ?_) <;> try simp at hc) | fail)
  · by_cases h3 : l.ht + 1 < r.ht
    · cases r with
      | nil => simp only [Tr.ht] at h3; omega
      | node rl rk rv rr =>
        have y1 := rl.sz_nn
        have y2 := rr.sz_nn
        have y3 := rl.ht_nn
        have y4 := rr.ht_nn
        have hz : (Tr.node rl rk rv rr).sz = 1 + rl.sz + rr.sz := rfl
        have g1 := zbS rl
        have g2 := zbS rr
        rw [zaY] at hr ⊢
        obtain ⟨H, hH⟩ : ∃ H, (Tr.node rl rk rv rr).ht = H := ⟨_, rfl⟩
        obtain ⟨Z, hZ⟩ : ∃ Z, (Tr.node rl rk rv rr).sz = Z := ⟨_, rfl⟩
        by_cases h2 : rl.ht ≤ rr.ht
        · have m1 := zbh l k v rl (by omega)
          have m2 := zbh (.node l k v rl) rk rv rr (by simp only [Tr.sz]; omega)
          have e : Tr.even l k v (.node rl rk rv rr) = .node (.node l k v rl) rk rv rr := by simp only [Tr.even, if_neg h1, if_pos h3, if_pos h2]
          rw [e]
          rw [hH] at h1 h3 w1
          rw [hH, hZ] at hr ⊢
          refine zK Tryz.func208 rfl (N := 139) rfl rfl (by simp) (by simp [noIds]) fun σ => ?_
          generalize Tr.node (.node l k v rl) rk rv rr = T at m2 ⊢
          generalize Tr.node l k v rl = U at m1 m2
          (try ((first | with_reducible refine zk ?_ | with_reducible refine zm ?_ | with_reducible refine zo ?_); simp [-cellOK, zI, zJ, h1, h2, h3, w1, w2])); repeat' (first | ((first | refine zd ?_ | refine zh ?_ | refine dN (by decide +kernel) ?_ | refine dC (by decide +kernel) ?_ | refine uP (hl) ?_ | refine .inl ⟨_, .inl (hl), ?_⟩ | refine uP (hr) ?_ | refine .inl ⟨_, .inl (hr), ?_⟩ | refine uP (g1) ?_ | refine .inl ⟨_, .inl (g1), ?_⟩ | refine uP (g2) ?_ | refine .inl ⟨_, .inl (g2), ?_⟩ | refine uP (m1) ?_ | refine .inl ⟨_, .inl (m1), ?_⟩ | refine uP (m2) ?_ | refine .inl ⟨_, .inl (m2), ?_⟩ | (refine za ?_ ?_ <;> (intro hg; simp only [hg])) | fail) <;> simp [-cellOK, zI, zJ, h1, h2, h3, w1, w2]) | refine zg ?_ | refine zc ?_ | (refine zs ?_; simp only [zt]; try simp) | (refine zl (by simp) ?_; simp) | (refine zx (by simp) (by simp [noIds]) (by repeat (first | assumption | exact Ext.refl _ | refine zu ?_ | refine Ext.setF ?_ (by first | assumption | (simp [ze, St.set, zf]; done) | exact zp (by assumption)))) ?_; simp [-cellOK, zI, zJ, h1, h2, h3, w1, w2, zL]) | (refine zb (fun hc => ?_) (fun hc => ?_) <;> try simp at hc) | fail)
        · cases rl with
          | nil => simp only [Tr.ht] at h2; omega
          | node a mk mv b =>
            have x1 := a.sz_nn
            have x2 := b.sz_nn
            have hz2 : (Tr.node a mk mv b).sz = 1 + a.sz + b.sz := rfl
            have m1 := zbh l k v a (by omega)
            have m2 := zbh b rk rv rr (by omega)
            have m3 := zbh (.node l k v a) mk mv (.node b rk rv rr) (by simp only [Tr.sz]; omega)
            have e : Tr.even l k v (.node (.node a mk mv b) rk rv rr) = .node (.node l k v a) mk mv (.node b rk rv rr) := by simp only [Tr.even, if_neg h1, if_pos h3, if_neg h2]
            rw [e]
            have hm := zaY a mk mv b
            obtain ⟨H2, hH2⟩ : ∃ H, (Tr.node a mk mv b).ht = H := ⟨_, rfl⟩
            obtain ⟨Z2, hZ2⟩ : ∃ Z, (Tr.node a mk mv b).sz = Z := ⟨_, rfl⟩
            rw [hH, hZ] at hr ⊢
            rw [hH] at h1 h3 w1
            rw [hH2] at h2
            rw [hH2, hZ2] at hm
            rw [hH2, hm] at g1
            rw [hm] at hr ⊢
            refine zK Tryz.func208 rfl (N := 139) rfl rfl (by simp) (by simp [noIds]) fun σ => ?_
            generalize Tr.node (.node l k v a) mk mv (.node b rk rv rr) = T at m3 ⊢
            generalize Tr.node l k v a = U at m1 m3
            generalize Tr.node b rk rv rr = V at m2 m3
            (try ((first | with_reducible refine zk ?_ | with_reducible refine zm ?_ | with_reducible refine zo ?_); simp [-cellOK, zI, zJ, h1, h2, h3, w1, w2])); repeat' (first | ((first | refine zd ?_ | refine zh ?_ | refine dN (by decide +kernel) ?_ | refine dC (by decide +kernel) ?_ | refine uP (hl) ?_ | refine .inl ⟨_, .inl (hl), ?_⟩ | refine uP (hr) ?_ | refine .inl ⟨_, .inl (hr), ?_⟩ | refine uP (g1) ?_ | refine .inl ⟨_, .inl (g1), ?_⟩ | refine uP (g2) ?_ | refine .inl ⟨_, .inl (g2), ?_⟩ | refine uP (m1) ?_ | refine .inl ⟨_, .inl (m1), ?_⟩ | refine uP (m2) ?_ | refine .inl ⟨_, .inl (m2), ?_⟩ | refine uP (m3) ?_ | refine .inl ⟨_, .inl (m3), ?_⟩ | (refine za ?_ ?_ <;> (intro hg; simp only [hg])) | fail) <;> simp [-cellOK, zI, zJ, h1, h2, h3, w1, w2]) | refine zg ?_ | refine zc ?_ | (refine zs ?_; simp only [zt]; try simp) | (refine zl (by simp) ?_; simp) | (refine zx (by simp) (by simp [noIds]) (by repeat (first | assumption | exact Ext.refl _ | refine zu ?_ | refine Ext.setF ?_ (by first | assumption | (simp [ze, St.set, zf]; done) | exact zp (by assumption)))) ?_; simp [-cellOK, zI, zJ, h1, h2, h3, w1, w2, zL]) | (refine zb (fun hc => ?_) (fun hc => ?_) <;> try simp at hc) | fail)
    · have m1 := zbh l k v r (by omega)
      have e : Tr.even l k v r = .node l k v r := by simp only [Tr.even, if_neg h1, if_neg h3]
      rw [e]
      refine zK Tryz.func208 rfl (N := 139) rfl rfl (by simp) (by simp [noIds]) fun σ => ?_
      generalize Tr.node l k v r = T at m1 ⊢
      (try ((first | with_reducible refine zk ?_ | with_reducible refine zm ?_ | with_reducible refine zo ?_); simp [-cellOK, zI, zJ, h1, h3, w1, w2])); repeat' (first | ((first | refine zd ?_ | refine zh ?_ | refine dN (by decide +kernel) ?_ | refine dC (by decide +kernel) ?_ | refine uP (hl) ?_ | refine .inl ⟨_, .inl (hl), ?_⟩ | refine uP (hr) ?_ | refine .inl ⟨_, .inl (hr), ?_⟩ | refine uP (m1) ?_ | refine .inl ⟨_, .inl (m1), ?_⟩ | (refine za ?_ ?_ <;> (intro hg; simp only [hg])) | fail) <;> simp [-cellOK, zI, zJ, h1, h3, w1, w2]) | refine zg ?_ | refine zc ?_ | (refine zs ?_; simp only [zt]; try simp) | (refine zl (by simp) ?_; simp) | (refine zx (by simp) (by simp [noIds]) (by repeat (first | assumption | exact Ext.refl _ | refine zu ?_ | refine Ext.setF ?_ (by first | assumption | (simp [ze, St.set, zf]; done) | exact zp (by assumption)))) ?_; simp [-cellOK, zI, zJ, h1, h3, w1, w2, zL]) | (refine zb (fun hc => ?_) (fun hc => ?_) <;> try simp at hc) | fail)
def trP (t : Tr) : AV := .pp [t.av] 0
@[simp] theorem zt7 (K : Id → Prop) (t : Tr) : (trP t).ids K := by simp [trP, AV.ids]
@[simp] theorem zsf (t : Tr) : (trP t).cells = [trP t] := rfl
@[simp] theorem zwc (t : Tr) : cellOK (trP t) = true := rfl
@[simp] theorem zsg (t : Tr) : (trP t).flat1 = true := rfl
@[simp] theorem zrK (m m' : Mem) (t : Tr) : zD m' m (trP t) = trP t := rfl
theorem za2 (t : Tr) : PCalls Tryz.prog 182 [trP t] t.av := by
  refine zK Tryz.func182 rfl (N := 9) rfl rfl (by simp) (by simp [noIds]) fun σ => ?_
  (try ((first | with_reducible refine zk ?_ | with_reducible refine zm ?_ | with_reducible refine zo ?_); simp [-cellOK, trP])); repeat' (first | ((first | refine zd ?_ | refine zh ?_ | refine dN (by decide +kernel) ?_ | refine dC (by decide +kernel) ?_ | (refine za ?_ ?_ <;> (intro hg; simp only [hg])) | fail) <;> simp [-cellOK, trP]) | refine zg ?_ | refine zc ?_ | (refine zs ?_; simp only [zt]; try simp) | (refine zl (by simp) ?_; simp) | (refine zx (by simp) (by simp [noIds]) (by repeat (first | assumption | exact Ext.refl _ | refine zu ?_ | refine Ext.setF ?_ (by first | assumption | (simp [ze, St.set, zf]; done) | exact zp (by assumption)))) ?_; simp [-cellOK, trP, zL]) | (refine zb (fun hc => ?_) (fun hc => ?_) <;> try simp at hc) | fail)
theorem zbx (t : Tr) : PCalls Tryz.prog 136 [trP t] (.raw (.int .i64 t.sz)) := by
  refine zK Tryz.func136 rfl (N := 6) rfl rfl (by simp) (by simp [noIds]) fun σ => ?_
  (try ((first | with_reducible refine zk ?_ | with_reducible refine zm ?_ | with_reducible refine zo ?_); simp [-cellOK])); repeat' (first | ((first | refine zd ?_ | refine zh ?_ | refine dN (by decide +kernel) ?_ | refine dC (by decide +kernel) ?_ | refine uP (za2 t) ?_ | refine .inl ⟨_, .inl (za2 t), ?_⟩ | refine uP (zbT t) ?_ | refine .inl ⟨_, .inl (zbT t), ?_⟩ | (refine za ?_ ?_ <;> (intro hg; simp only [hg])) | fail) <;> simp [-cellOK]) | refine zg ?_ | refine zc ?_ | (refine zs ?_; simp only [zt]; try simp) | (refine zl (by simp) ?_; simp) | (refine zx (by simp) (by simp [noIds]) (by repeat (first | assumption | exact Ext.refl _ | refine zu ?_ | refine Ext.setF ?_ (by first | assumption | (simp [ze, St.set, zf]; done) | exact zp (by assumption)))) ?_; simp [-cellOK, zL]) | (refine zb (fun hc => ?_) (fun hc => ?_) <;> try simp at hc) | fail)
theorem zhQ : PCalls Tryz.prog 130 [] (trP .nil) := by
  refine zK Tryz.func130 rfl (N := 3) rfl rfl (by simp) (by simp [noIds]) fun σ => ?_
  (try ((first | with_reducible refine zk ?_ | with_reducible refine zm ?_ | with_reducible refine zo ?_); simp [-cellOK])); repeat' (first | ((first | refine zd ?_ | refine zh ?_ | refine dN (by decide +kernel) ?_ | refine dC (by decide +kernel) ?_ | (refine za ?_ ?_ <;> (intro hg; simp only [hg])) | fail) <;> simp [-cellOK]) | refine zg ?_ | refine zc ?_ | (refine zs ?_; simp only [zt]; try simp) | (refine zb (fun hc => ?_) (fun hc => ?_) <;> try simp at hc) | fail)
  refine zbk (x := .rp ⟨2, σ.nx 2, 1⟩ 0 0) (.inr rfl) (by repeat (first | assumption | exact Ext.refl _ | refine zu ?_ | refine Ext.setF ?_ (by first | assumption | (simp [ze, St.set, zf]; done) | exact zp (by assumption)))) ?_ ?_
  · simp [ze]
  · simp [zak, zD, zf, zz, ze, trP]
theorem zft (t : Tr) (k : Int) : PCalls Tryz.prog 181 [trP t, .raw (.int .u64 k)] (.tup [.raw (.int .i64 ((t.get k).getD 0)), .raw (.bool (t.get k).isSome)]) := by
  refine zK Tryz.func181 rfl (N := 42) rfl rfl (by simp) (by simp [noIds]) fun σ => ?_
  obtain ⟨g, hg⟩ : ∃ g, t.get k = g := ⟨_, rfl⟩
  rw [hg]
  (try ((first | with_reducible refine zk ?_ | with_reducible refine zm ?_ | with_reducible refine zo ?_); simp [-cellOK])); repeat' (first | ((first | refine zd ?_ | refine zh ?_ | refine dN (by decide +kernel) ?_ | refine dC (by decide +kernel) ?_ | refine uP (za2 t) ?_ | refine .inl ⟨_, .inl (za2 t), ?_⟩ | (refine za ?_ ?_ <;> (intro hg; simp only [hg])) | fail) <;> simp [-cellOK]) | refine zg ?_ | refine zc ?_ | (refine zs ?_; simp only [zt]; try simp) | (refine zl (by simp) ?_; simp) | (refine zx (by simp) (by simp [noIds]) (by repeat (first | assumption | exact Ext.refl _ | refine zu ?_ | refine Ext.setF ?_ (by first | assumption | (simp [ze, St.set, zf]; done) | exact zp (by assumption)))) ?_; simp [-cellOK, zL]) | (refine zb (fun hc => ?_) (fun hc => ?_) <;> try simp at hc) | fail)
  refine zab (fun n A τ => τ = σ ∧ A 1 = .raw (.int .u64 k) ∧ A 6 = .raw (.int .i64 0) ∧ ∃ u : Tr, A 7 = u.av ∧ n = u.sz.toNat ∧ u.get k = g) t.sz.toNat ?_ ?_
  · exact ⟨rfl, by simp, by simp, t, by simp, rfl, hg⟩
  rintro n A τ ⟨rfl, a1, a6, u, a7, rfl, hu⟩ I1 hI1
  cases u with
  | nil =>
    have : g = none := by rw [← hu]; rfl
    subst this
    (try ((first | with_reducible refine zk ?_ | with_reducible refine zm ?_ | with_reducible refine zo ?_); simp [-cellOK, a1, a6, a7])); repeat' (first | ((first | refine zd ?_ | refine zh ?_ | refine dN (by decide +kernel) ?_ | refine dC (by decide +kernel) ?_ | (refine za ?_ ?_ <;> (intro hg; simp only [hg])) | fail) <;> simp [-cellOK, a1, a6, a7]) | refine zg ?_ | refine zc ?_ | (refine zs ?_; simp only [zt]; try simp) | (refine zl (by simp) ?_; simp) | (refine zx (by simp) (by simp [noIds]) (by repeat (first | assumption | exact Ext.refl _ | refine zu ?_ | refine Ext.setF ?_ (by first | assumption | (simp [ze, St.set, zf]; done) | exact zp (by assumption)))) ?_; simp [-cellOK, a1, a6, a7, zL]) | (refine zb (fun hc => ?_) (fun hc => ?_) <;> try simp at hc) | fail)
  | node l k' v' r =>
    have y1 := l.sz_nn
    have y2 := r.sz_nn
    have hz : (Tr.node l k' v' r).sz = 1 + l.sz + r.sz := rfl
    rw [zaY] at a7
    simp only [Tr.get] at hu
    by_cases h1 : k < k'
    · rw [if_pos h1] at hu
      (try ((first | with_reducible refine zk ?_ | with_reducible refine zm ?_ | with_reducible refine zo ?_); simp [-cellOK, a1, a6, a7, h1])); repeat' (first | ((first | refine zd ?_ | refine zh ?_ | refine dN (by decide +kernel) ?_ | refine dC (by decide +kernel) ?_ | (refine za ?_ ?_ <;> (intro hg; simp only [hg])) | fail) <;> simp [-cellOK, a1, a6, a7, h1]) | refine zg ?_ | refine zc ?_ | (refine zs ?_; simp only [zt]; try simp) | (refine zl (by simp) ?_; simp) | (refine zx (by simp) (by simp [noIds]) (by repeat (first | assumption | exact Ext.refl _ | refine zu ?_ | refine Ext.setF ?_ (by first | assumption | (simp [ze, St.set, zf]; done) | exact zp (by assumption)))) ?_; simp [-cellOK, a1, a6, a7, h1, zL]) | (refine zb (fun hc => ?_) (fun hc => ?_) <;> try simp at hc) | fail)
      exact hI1 _ _ _ (by omega) ⟨rfl, by simp [a1], by simp [a6], l, by simp, rfl, hu⟩
    · rw [if_neg h1] at hu
      by_cases h2 : k' < k
      · rw [if_pos h2] at hu
        (try ((first | with_reducible refine zk ?_ | with_reducible refine zm ?_ | with_reducible refine zo ?_); simp [-cellOK, a1, a6, a7, h1, h2])); repeat' (first | ((first | refine zd ?_ | refine zh ?_ | refine dN (by decide +kernel) ?_ | refine dC (by decide +kernel) ?_ | (refine za ?_ ?_ <;> (intro hg; simp only [hg])) | fail) <;> simp [-cellOK, a1, a6, a7, h1, h2]) | refine zg ?_ | refine zc ?_ | (refine zs ?_; simp only [zt]; try simp) | (refine zl (by simp) ?_; simp) | (refine zx (by simp) (by simp [noIds]) (by repeat (first | assumption | exact Ext.refl _ | refine zu ?_ | refine Ext.setF ?_ (by first | assumption | (simp [ze, St.set, zf]; done) | exact zp (by assumption)))) ?_; simp [-cellOK, a1, a6, a7, h1, h2, zL]) | (refine zb (fun hc => ?_) (fun hc => ?_) <;> try simp at hc) | fail)
        exact hI1 _ _ _ (by omega) ⟨rfl, by simp [a1], by simp [a6], r, by simp, rfl, hu⟩
      · rw [if_neg h2] at hu
        subst hu
        (try ((first | with_reducible refine zk ?_ | with_reducible refine zm ?_ | with_reducible refine zo ?_); simp [-cellOK, a1, a6, a7, h1, h2])); repeat' (first | ((first | refine zd ?_ | refine zh ?_ | refine dN (by decide +kernel) ?_ | refine dC (by decide +kernel) ?_ | (refine za ?_ ?_ <;> (intro hg; simp only [hg])) | fail) <;> simp [-cellOK, a1, a6, a7, h1, h2]) | refine zg ?_ | refine zc ?_ | (refine zs ?_; simp only [zt]; try simp) | (refine zl (by simp) ?_; simp) | (refine zx (by simp) (by simp [noIds]) (by repeat (first | assumption | exact Ext.refl _ | refine zu ?_ | refine Ext.setF ?_ (by first | assumption | (simp [ze, St.set, zf]; done) | exact zp (by assumption)))) ?_; simp [-cellOK, a1, a6, a7, h1, h2, zL]) | (refine zb (fun hc => ?_) (fun hc => ?_) <;> try simp at hc) | fail)
theorem Tr.with_sz (t : Tr) (k v : Int) : (t.with_ k v).sz ≤ t.sz + 1 := by
  induction t with
  | nil => simp [Tr.with_, Tr.sz]
  | node l k' v' r ihl ihr =>
    simp only [Tr.with_]
    split
    · rw [Tr.even_sz]; simp only [Tr.sz]; omega
    · split
      · rw [Tr.even_sz]; simp only [Tr.sz]; omega
      · simp only [Tr.sz]; omega
theorem ze6 (k v : Int) : ∀ t : Tr, t.sz < 2 ^ 48 → PCalls Tryz.prog 183 [t.av, zdt k v] (t.with_ k v).av
  | .nil, _ => by
    have m := zbh .nil k v .nil (by simp [Tr.sz])
    rw [zpX] at m
    have e : Tr.with_ .nil k v = .node .nil k v .nil := rfl
    rw [e]
    refine zK Tryz.func183 rfl (N := 68) rfl rfl (by simp) (by simp [noIds]) fun σ => ?_
    generalize Tr.node .nil k v .nil = T at m ⊢
    (try ((first | with_reducible refine zk ?_ | with_reducible refine zm ?_ | with_reducible refine zo ?_); simp [-cellOK, zI, zJ])); repeat' (first | ((first | refine zd ?_ | refine zh ?_ | refine dN (by decide +kernel) ?_ | refine dC (by decide +kernel) ?_ | refine uP (m) ?_ | refine .inl ⟨_, .inl (m), ?_⟩ | (refine za ?_ ?_ <;> (intro hg; simp only [hg])) | fail) <;> simp [-cellOK, zI, zJ]) | refine zg ?_ | refine zc ?_ | (refine zs ?_; simp only [zt]; try simp) | (refine zl (by simp) ?_; simp) | (refine zx (by simp) (by simp [noIds]) (by repeat (first | assumption | exact Ext.refl _ | refine zu ?_ | refine Ext.setF ?_ (by first | assumption | (simp [ze, St.set, zf]; done) | exact zp (by assumption)))) ?_; simp [-cellOK, zI, zJ, zL]) | (refine zb (fun hc => ?_) (fun hc => ?_) <;> try simp at hc) | fail)
  | .node l k' v' r, h => by
    have y1 := l.sz_nn
    have y2 := r.sz_nn
    have hz : (Tr.node l k' v' r).sz = 1 + l.sz + r.sz := rfl
    have q1 := l.with_sz k v
    have q2 := r.with_sz k v
    rw [zaY]
    obtain ⟨H, hH⟩ : ∃ H, (Tr.node l k' v' r).ht = H := ⟨_, rfl⟩
    obtain ⟨Z, hZ⟩ : ∃ Z, (Tr.node l k' v' r).sz = Z := ⟨_, rfl⟩
    rw [hH, hZ]
    by_cases h1 : k < k'
    · have e : Tr.with_ (.node l k' v' r) k v = Tr.even (l.with_ k v) k' v' r := by simp only [Tr.with_, if_pos h1]
      have i1 := ze6 k v l (by omega)
      have m := zct (l.with_ k v) k' v' r (by omega)
      rw [e]
      refine zK Tryz.func183 rfl (N := 68) rfl rfl (by simp) (by simp [noIds]) fun σ => ?_
      generalize Tr.even (l.with_ k v) k' v' r = T at m ⊢
      generalize l.with_ k v = U at i1 m
      (try ((first | with_reducible refine zk ?_ | with_reducible refine zm ?_ | with_reducible refine zo ?_); simp [-cellOK, zI, zJ, h1])); repeat' (first | ((first | refine zd ?_ | refine zh ?_ | refine dN (by decide +kernel) ?_ | refine dC (by decide +kernel) ?_ | refine uP (i1) ?_ | refine .inl ⟨_, .inl (i1), ?_⟩ | refine uP (m) ?_ | refine .inl ⟨_, .inl (m), ?_⟩ | (refine za ?_ ?_ <;> (intro hg; simp only [hg])) | fail) <;> simp [-cellOK, zI, zJ, h1]) | refine zg ?_ | refine zc ?_ | (refine zs ?_; simp only [zt]; try simp) | (refine zl (by simp) ?_; simp) | (refine zx (by simp) (by simp [noIds]) (by repeat (first | assumption | exact Ext.refl _ | refine zu ?_ | refine Ext.setF ?_ (by first | assumption | (simp [ze, St.set, zf]; done) | exact zp (by assumption)))) ?_; simp [-cellOK, zI, zJ, h1, zL]) | (refine zb (fun hc => ?_) (fun hc => ?_) <;> try simp at hc) | fail)
    · by_cases h2 : k' < k
      · have e : Tr.with_ (.node l k' v' r) k v = Tr.even l k' v' (r.with_ k v) := by simp only [Tr.with_, if_neg h1, if_pos h2]
        have i1 := ze6 k v r (by omega)
        have m := zct l k' v' (r.with_ k v) (by omega)
        rw [e]
        refine zK Tryz.func183 rfl (N := 68) rfl rfl (by simp) (by simp [noIds]) fun σ => ?_
        generalize Tr.even l k' v' (r.with_ k v) = T at m ⊢
        generalize r.with_ k v = U at i1 m
        (try ((first | with_reducible refine zk ?_ | with_reducible refine zm ?_ | with_reducible refine zo ?_); simp [-cellOK, zI, zJ, h1, h2])); repeat' (first | ((first | refine zd ?_ | refine zh ?_ | refine dN (by decide +kernel) ?_ | refine dC (by decide +kernel) ?_ | refine uP (i1) ?_ | refine .inl ⟨_, .inl (i1), ?_⟩ | refine uP (m) ?_ | refine .inl ⟨_, .inl (m), ?_⟩ | (refine za ?_ ?_ <;> (intro hg; simp only [hg])) | fail) <;> simp [-cellOK, zI, zJ, h1, h2]) | refine zg ?_ | refine zc ?_ | (refine zs ?_; simp only [zt]; try simp) | (refine zl (by simp) ?_; simp) | (refine zx (by simp) (by simp [noIds]) (by repeat (first | assumption | exact Ext.refl _ | refine zu ?_ | refine Ext.setF ?_ (by first | assumption | (simp [ze, St.set, zf]; done) | exact zp (by assumption)))) ?_; simp [-cellOK, zI, zJ, h1, h2, zL]) | (refine zb (fun hc => ?_) (fun hc => ?_) <;> try simp at hc) | fail)
      · have e : Tr.with_ (.node l k' v' r) k v = .node l k v r := by simp only [Tr.with_, if_neg h1, if_neg h2]
        have m := zbh l k v r (by omega)
        rw [e]
        refine zK Tryz.func183 rfl (N := 68) rfl rfl (by simp) (by simp [noIds]) fun σ => ?_
        generalize Tr.node l k v r = T at m ⊢
        (try ((first | with_reducible refine zk ?_ | with_reducible refine zm ?_ | with_reducible refine zo ?_); simp [-cellOK, zI, zJ, h1, h2])); repeat' (first | ((first | refine zd ?_ | refine zh ?_ | refine dN (by decide +kernel) ?_ | refine dC (by decide +kernel) ?_ | refine uP (m) ?_ | refine .inl ⟨_, .inl (m), ?_⟩ | (refine za ?_ ?_ <;> (intro hg; simp only [hg])) | fail) <;> simp [-cellOK, zI, zJ, h1, h2]) | refine zg ?_ | refine zc ?_ | (refine zs ?_; simp only [zt]; try simp) | (refine zl (by simp) ?_; simp) | (refine zx (by simp) (by simp [noIds]) (by repeat (first | assumption | exact Ext.refl _ | refine zu ?_ | refine Ext.setF ?_ (by first | assumption | (simp [ze, St.set, zf]; done) | exact zp (by assumption)))) ?_; simp [-cellOK, zI, zJ, h1, h2, zL]) | (refine zb (fun hc => ?_) (fun hc => ?_) <;> try simp at hc) | fail)
theorem zhR (t : Tr) (k v : Int) (h : t.sz < 2 ^ 48) (hf : t.get k = none → t.sz < 1024) : PCalls Tryz.prog 131 [trP t, .raw (.int .u64 k), .raw (.int .i64 v)] (.tup [trP (t.with_ k v), .raw (.int .i64 0)]) := by
  have hg := zft t k
  have hw := ze6 k v t h
  generalize t.with_ k v = U at hw ⊢
  refine zK Tryz.func131 rfl (N := 31) rfl rfl (by simp) (by simp [noIds]) fun σ => ?_
  cases hq : t.get k with
  | none =>
    have hlt := hf hq
    have hle : ¬ (1024 : Int) ≤ t.sz := by omega
    rw [hq] at hg
    (try ((first | with_reducible refine zk ?_ | with_reducible refine zm ?_ | with_reducible refine zo ?_); simp [-cellOK, zJ, hle])); repeat' (first | ((first | refine zd ?_ | refine zh ?_ | refine dN (by decide +kernel) ?_ | refine dC (by decide +kernel) ?_ | refine uP (hg) ?_ | refine .inl ⟨_, .inl (hg), ?_⟩ | refine uP (zbx t) ?_ | refine .inl ⟨_, .inl (zbx t), ?_⟩ | refine uP (za2 t) ?_ | refine .inl ⟨_, .inl (za2 t), ?_⟩ | refine uP (hw) ?_ | refine .inl ⟨_, .inl (hw), ?_⟩ | (refine za ?_ ?_ <;> (intro hg; simp only [hg])) | fail) <;> simp [-cellOK, zJ, hle]) | refine zg ?_ | refine zc ?_ | (refine zs ?_; simp only [zt]; try simp) | (refine zb (fun hc => ?_) (fun hc => ?_) <;> try simp at hc) | fail)
    refine zbk (x := .tup [.rp ⟨30, σ.nx 30, 1⟩ 0 0, .raw (.int .i64 0)]) (.inr rfl) (by repeat (first | assumption | exact Ext.refl _ | refine zu ?_ | refine Ext.setF ?_ (by first | assumption | (simp [ze, St.set, zf]; done) | exact zp (by assumption)))) ?_ ?_
    · simp [ze]
    · simp [zak, zD, zf, zz, ze, trP]
  | some x =>
    rw [hq] at hg
    (try ((first | with_reducible refine zk ?_ | with_reducible refine zm ?_ | with_reducible refine zo ?_); simp [-cellOK, zJ])); repeat' (first | ((first | refine zd ?_ | refine zh ?_ | refine dN (by decide +kernel) ?_ | refine dC (by decide +kernel) ?_ | refine uP (hg) ?_ | refine .inl ⟨_, .inl (hg), ?_⟩ | refine uP (zbx t) ?_ | refine .inl ⟨_, .inl (zbx t), ?_⟩ | refine uP (za2 t) ?_ | refine .inl ⟨_, .inl (za2 t), ?_⟩ | refine uP (hw) ?_ | refine .inl ⟨_, .inl (hw), ?_⟩ | (refine za ?_ ?_ <;> (intro hg; simp only [hg])) | fail) <;> simp [-cellOK, zJ]) | refine zg ?_ | refine zc ?_ | (refine zs ?_; simp only [zt]; try simp) | (refine zb (fun hc => ?_) (fun hc => ?_) <;> try simp at hc) | fail)
    refine zbk (x := .tup [.rp ⟨30, σ.nx 30, 1⟩ 0 0, .raw (.int .i64 0)]) (.inr rfl) (by repeat (first | assumption | exact Ext.refl _ | refine zu ?_ | refine Ext.setF ?_ (by first | assumption | (simp [ze, St.set, zf]; done) | exact zp (by assumption)))) ?_ ?_
    · simp [ze]
    · simp [zak, zD, zf, zz, ze, trP]
end Go.Proofs.YtanimmdlgmkmkaaGreat.Av
namespace Go.Proofs.YtanimmdlgmkmkaaGreat.Av
open Go
set_option linter.unusedSimpArgs false
set_option linter.unusedVariables false
set_option maxRecDepth 100000
set_option maxHeartbeats 4000000
set_option pp.maxSteps 600
def Tr.atI (t : Tr) (i : Int) : Option (Int × Int) := if 0 ≤ i then t.at_ i else none
theorem Tr.at_some (t : Tr) (i : Int) (h0 : 0 ≤ i) (h : i < t.sz) : ∃ p, t.at_ i = some p := by
  rw [Tr.at_eq t i h0]
  have := t.sz_toL
  have hlt : i.toNat < t.toL.length := by omega
  exact ⟨_, List.getElem?_eq_getElem hlt⟩
theorem Tr.at_none (t : Tr) (i : Int) (h : t.sz ≤ i) : t.at_ i = none := by
  have := t.sz_nn
  rw [Tr.at_eq t i (by omega)]
  have := t.sz_toL
  exact List.getElem?_eq_none (by omega)
theorem zaI (k v : Int) : setPart (AV.agg [.raw (.int .u64 0), .raw (.int .i64 0)]) 0 [.raw (.int .u64 k), .raw (.int .i64 v)] = zdt k v := rfl
theorem zi2 (t : Tr) (i : Int) (hz : t.sz < 2 ^ 48) : PCalls Tryz.prog 156 [trP t, .raw (.int .i64 i)] (.tup [zdt ((t.atI i).getD (0, 0)).1 ((t.atI i).getD (0, 0)).2, .raw (.bool (t.atI i).isSome)]) := by
  have zn := t.sz_nn
  refine zK Tryz.func156 rfl (N := 52) rfl rfl (by simp) (by simp [noIds, zdt]) fun σ => ?_
  have f4 : σ.m ⟨4, σ.nx 4, 2⟩ = none := zf _ _ _
  by_cases h0 : i < 0
  · have e : t.atI i = none := by unfold Tr.atI; rw [if_neg (by omega)]
    rw [e]
    (try ((first | with_reducible refine zk ?_ | with_reducible refine zm ?_ | with_reducible refine zo ?_); simp [-cellOK, zI, zJ, zaI, zaM, h0])); repeat' (first | ((first | refine zd ?_ | refine zh ?_ | refine dN (by decide +kernel) ?_ | refine dC (by decide +kernel) ?_ | refine uP (zbx t) ?_ | refine .inl ⟨_, .inl (zbx t), ?_⟩ | refine uP (za2 t) ?_ | refine .inl ⟨_, .inl (za2 t), ?_⟩ | (refine za ?_ ?_ <;> (intro hg; simp only [hg])) | fail) <;> simp [-cellOK, zI, zJ, zaI, zaM, h0]) | refine zg ?_ | refine zc ?_ | (refine zs ?_; simp only [zt]; try simp) | (refine zl (by simp) ?_; simp) | (refine zx (by simp) (by simp [noIds]) (by repeat (first | assumption | exact Ext.refl _ | refine zu ?_ | refine Ext.setF ?_ (by first | assumption | (simp [ze, St.set, zf]; done) | exact zp (by assumption)))) ?_; simp [-cellOK, zI, zJ, zaI, zaM, h0, zL]) | (refine zb (fun hc => ?_) (fun hc => ?_) <;> try simp at hc) | fail)
  · by_cases h1 : t.sz ≤ i
    · have e : t.atI i = none := by unfold Tr.atI; rw [if_pos (by omega), Tr.at_none t i h1]
      rw [e]
      (try ((first | with_reducible refine zk ?_ | with_reducible refine zm ?_ | with_reducible refine zo ?_); simp [-cellOK, zI, zJ, zaI, zaM, h0, h1])); repeat' (first | ((first | refine zd ?_ | refine zh ?_ | refine dN (by decide +kernel) ?_ | refine dC (by decide +kernel) ?_ | refine uP (zbx t) ?_ | refine .inl ⟨_, .inl (zbx t), ?_⟩ | refine uP (za2 t) ?_ | refine .inl ⟨_, .inl (za2 t), ?_⟩ | (refine za ?_ ?_ <;> (intro hg; simp only [hg])) | fail) <;> simp [-cellOK, zI, zJ, zaI, zaM, h0, h1]) | refine zg ?_ | refine zc ?_ | (refine zs ?_; simp only [zt]; try simp) | (refine zl (by simp) ?_; simp) | (refine zx (by simp) (by simp [noIds]) (by repeat (first | assumption | exact Ext.refl _ | refine zu ?_ | refine Ext.setF ?_ (by first | assumption | (simp [ze, St.set, zf]; done) | exact zp (by assumption)))) ?_; simp [-cellOK, zI, zJ, zaI, zaM, h0, h1, zL]) | (refine zb (fun hc => ?_) (fun hc => ?_) <;> try simp at hc) | fail)
    · obtain ⟨p, hp⟩ := t.at_some i (by omega) (by omega)
      have e : t.atI i = some p := by unfold Tr.atI; rw [if_pos (by omega), hp]
      rw [e]
      (try ((first | with_reducible refine zk ?_ | with_reducible refine zm ?_ | with_reducible refine zo ?_); simp [-cellOK, zI, zJ, zaI, zaM, h0, h1])); repeat' (first | ((first | refine zd ?_ | refine zh ?_ | refine dN (by decide +kernel) ?_ | refine dC (by decide +kernel) ?_ | refine uP (zbx t) ?_ | refine .inl ⟨_, .inl (zbx t), ?_⟩ | refine uP (za2 t) ?_ | refine .inl ⟨_, .inl (za2 t), ?_⟩ | (refine za ?_ ?_ <;> (intro hg; simp only [hg])) | fail) <;> simp [-cellOK, zI, zJ, zaI, zaM, h0, h1]) | refine zg ?_ | refine zc ?_ | (refine zs ?_; simp only [zt]; try simp) | (refine zl (by simp) ?_; simp) | (refine zx (by simp) (by simp [noIds]) (by repeat (first | assumption | exact Ext.refl _ | refine zu ?_ | refine Ext.setF ?_ (by first | assumption | (simp [ze, St.set, zf]; done) | exact zp (by assumption)))) ?_; simp [-cellOK, zI, zJ, zaI, zaM, h0, h1, zL]) | (refine zb (fun hc => ?_) (fun hc => ?_) <;> try simp at hc) | fail)
      refine zab (fun n A τ => τ = σ.new 4 2 (.buf [zdt 0 0]) ∧ A 4 = .rp ⟨4, σ.nx 4, 2⟩ 0 0 ∧ ∃ (u : Tr) (j : Int), A 1 = .raw (.int .i64 j) ∧ A 6 = u.av ∧ n = u.sz.toNat ∧ 0 ≤ j ∧ j < u.sz ∧ u.sz < 2 ^ 48 ∧ u.at_ j = some p) t.sz.toNat ?_ ?_
      · exact ⟨by simp [zJ], by simp, t, i, by simp, by simp, rfl, by omega, by omega, hz, hp⟩
      rintro n A τ ⟨rfl, a4, u, j, a1, a6, rfl, hj0, hj1, hus, hu⟩ I1 hI1
      cases u with
      | nil => simp only [Tr.sz] at hj1; omega
      | node l k v r =>
        have y1 := l.sz_nn
        have y2 := r.sz_nn
        have hsz : (Tr.node l k v r).sz = 1 + l.sz + r.sz := rfl
        rw [zaY] at a6
        simp only [Tr.at_] at hu
        have w1 : IntKind.i64.wrap (1 + l.sz) = 1 + l.sz := zU (by omega) (by omega)
        have w2 : IntKind.i64.wrap (j - (1 + l.sz)) = j - (1 + l.sz) := zU (by omega) (by omega)
        by_cases q1 : j < l.sz
        · rw [if_pos q1] at hu
          have q1' : ¬ j = l.sz := by omega
          (try ((first | with_reducible refine zk ?_ | with_reducible refine zm ?_ | with_reducible refine zo ?_); simp [-cellOK, a1, a4, a6, q1, q1'])); repeat' (first | ((first | refine zd ?_ | refine zh ?_ | refine dN (by decide +kernel) ?_ | refine dC (by decide +kernel) ?_ | refine uP (zbT l) ?_ | refine .inl ⟨_, .inl (zbT l), ?_⟩ | (refine za ?_ ?_ <;> (intro hg; simp only [hg])) | fail) <;> simp [-cellOK, a1, a4, a6, q1, q1']) | refine zg ?_ | refine zc ?_ | (refine zs ?_; simp only [zt]; try simp) | (refine zl (by simp) ?_; simp) | (refine zx (by simp) (by simp [noIds]) (by repeat (first | assumption | exact Ext.refl _ | refine zu ?_ | refine Ext.setF ?_ (by first | assumption | (simp [ze, St.set, zf]; done) | exact zp (by assumption)))) ?_; simp [-cellOK, a1, a4, a6, q1, q1', zL]) | (refine zb (fun hc => ?_) (fun hc => ?_) <;> try simp at hc) | fail)
          exact hI1 _ _ _ (by omega) ⟨rfl, by simp [a4], l, j, by simp [a1], by simp, rfl, hj0, q1, by omega, hu⟩
        · rw [if_neg q1] at hu
          by_cases q2 : l.sz < j
          · rw [if_pos q2] at hu
            have q1' : ¬ j = l.sz := by omega
            (try ((first | with_reducible refine zk ?_ | with_reducible refine zm ?_ | with_reducible refine zo ?_); simp [-cellOK, a1, a4, a6, q1, q1', w1, w2])); repeat' (first | ((first | refine zd ?_ | refine zh ?_ | refine dN (by decide +kernel) ?_ | refine dC (by decide +kernel) ?_ | refine uP (zbT l) ?_ | refine .inl ⟨_, .inl (zbT l), ?_⟩ | (refine za ?_ ?_ <;> (intro hg; simp only [hg])) | fail) <;> simp [-cellOK, a1, a4, a6, q1, q1', w1, w2]) | refine zg ?_ | refine zc ?_ | (refine zs ?_; simp only [zt]; try simp) | (refine zl (by simp) ?_; simp) | (refine zx (by simp) (by simp [noIds]) (by repeat (first | assumption | exact Ext.refl _ | refine zu ?_ | refine Ext.setF ?_ (by first | assumption | (simp [ze, St.set, zf]; done) | exact zp (by assumption)))) ?_; simp [-cellOK, a1, a4, a6, q1, q1', w1, w2, zL]) | (refine zb (fun hc => ?_) (fun hc => ?_) <;> try simp at hc) | fail)
            exact hI1 _ _ _ (by omega) ⟨rfl, by simp [a4], r, j - (1 + l.sz), by simp, by simp, rfl, by omega, by omega, by omega, hu⟩
          · rw [if_neg q2] at hu
            have q1' : j = l.sz := by omega
            simp only [Option.some.injEq] at hu
            subst hu
            (try ((first | with_reducible refine zk ?_ | with_reducible refine zm ?_ | with_reducible refine zo ?_); simp [-cellOK, a1, a4, a6, q1', zI, zJ, zaM])); repeat' (first | ((first | refine zd ?_ | refine zh ?_ | refine dN (by decide +kernel) ?_ | refine dC (by decide +kernel) ?_ | refine uP (zbT l) ?_ | refine .inl ⟨_, .inl (zbT l), ?_⟩ | (refine za ?_ ?_ <;> (intro hg; simp only [hg])) | fail) <;> simp [-cellOK, a1, a4, a6, q1', zI, zJ, zaM]) | refine zg ?_ | refine zc ?_ | (refine zs ?_; simp only [zt]; try simp) | (refine zl (by simp) ?_; simp) | (refine zx (by simp) (by simp [noIds]) (by repeat (first | assumption | exact Ext.refl _ | refine zu ?_ | refine Ext.setF ?_ (by first | assumption | (simp [ze, St.set, zf]; done) | exact zp (by assumption)))) ?_; simp [-cellOK, a1, a4, a6, q1', zI, zJ, zaM, zL]) | (refine zb (fun hc => ?_) (fun hc => ?_) <;> try simp at hc) | fail)
theorem Tr.join_sz (l : Tr) (k v : Int) (r : Tr) : (Tr.join l k v r).sz = 1 + l.sz + r.sz := by
  rw [Tr.sz_toL, Tr.join_toL, Tr.sz_toL l, Tr.sz_toL r]
  simp only [List.length_append, List.length_cons]
  omega
theorem zg4 (n : Nat) : ∀ (l : Tr) (k v : Int) (r : Tr), SizeOf.sizeOf l + SizeOf.sizeOf r < n → l.sz + r.sz < 2 ^ 48 → PCalls Tryz.prog 231 [l.av, zdt k v, r.av] (Tr.join l k v r).av := by
  induction n with
  | zero => intro l k v r h; omega
  | succ n ih =>
    intro l k v r hn h
    have z1 := l.ht_nn
    have z2 := r.ht_nn
    have z3 := l.sz_nn
    have z4 := r.sz_nn
    have z5 := l.ht_le
    have z6 := r.ht_le
    have w1 : IntKind.i64.wrap (r.ht + 1) = r.ht + 1 := zU (by omega) (by omega)
    have w2 : IntKind.i64.wrap (l.ht + 1) = l.ht + 1 := zU (by omega) (by omega)
    have hl := zbS l
    have hr := zbS r
    by_cases h1 : r.ht + 1 < l.ht
    · cases l with
      | nil => simp only [Tr.ht] at h1; omega
      | node ll lk lv lr =>
        have y1 := ll.sz_nn
        have y2 := lr.sz_nn
        have hz : (Tr.node ll lk lv lr).sz = 1 + ll.sz + lr.sz := rfl
        have i1 := ih lr k v r (by simp only [Tr.node.sizeOf_spec] at hn; omega) (by omega)
        have js := Tr.join_sz lr k v r
        have m := zct ll lk lv (Tr.join lr k v r) (by omega)
        have e : Tr.join (.node ll lk lv lr) k v r = Tr.even ll lk lv (Tr.join lr k v r) := by rw [Tr.join.eq_def]; simp only [if_pos h1]
        rw [e]
        rw [zaY] at hl ⊢
        obtain ⟨H, hH⟩ : ∃ H, (Tr.node ll lk lv lr).ht = H := ⟨_, rfl⟩
        obtain ⟨Z, hZ⟩ : ∃ Z, (Tr.node ll lk lv lr).sz = Z := ⟨_, rfl⟩
        rw [hH, hZ] at hl ⊢
        rw [hH] at h1 w2
        refine zK Tryz.func231 rfl (N := 57) rfl rfl (by simp) (by simp [noIds]) fun σ => ?_
        generalize Tr.even ll lk lv (Tr.join lr k v r) = T at m ⊢
        generalize Tr.join lr k v r = U at i1 m
        (try ((first | with_reducible refine zk ?_ | with_reducible refine zm ?_ | with_reducible refine zo ?_); simp [-cellOK, zI, zJ, h1, w1, w2])); repeat' (first | ((first | refine zd ?_ | refine zh ?_ | refine dN (by decide +kernel) ?_ | refine dC (by decide +kernel) ?_ | refine uP (hl) ?_ | refine .inl ⟨_, .inl (hl), ?_⟩ | refine uP (hr) ?_ | refine .inl ⟨_, .inl (hr), ?_⟩ | refine uP (i1) ?_ | refine .inl ⟨_, .inl (i1), ?_⟩ | refine uP (m) ?_ | refine .inl ⟨_, .inl (m), ?_⟩ | (refine za ?_ ?_ <;> (intro hg; simp only [hg])) | fail) <;> simp [-cellOK, zI, zJ, h1, w1, w2]) | refine zg ?_ | refine zc ?_ | (refine zs ?_; simp only [zt]; try simp) | (refine zl (by simp) ?_; simp) | (refine zx (by simp) (by simp [noIds]) (by repeat (first | assumption | exact Ext.refl _ | refine zu ?_ | refine Ext.setF ?_ (by first | assumption | (simp [ze, St.set, zf]; done) | exact zp (by assumption)))) ?_; simp [-cellOK, zI, zJ, h1, w1, w2, zL]) | (refine zb (fun hc => ?_) (fun hc => ?_) <;> try simp at hc) | fail)
    · by_cases h3 : l.ht + 1 < r.ht
      · cases r with
        | nil => simp only [Tr.ht] at h3; omega
        | node rl rk rv rr =>
          have y1 := rl.sz_nn
          have y2 := rr.sz_nn
          have hz : (Tr.node rl rk rv rr).sz = 1 + rl.sz + rr.sz := rfl
          have i1 := ih l k v rl (by simp only [Tr.node.sizeOf_spec] at hn; omega) (by omega)
          have js := Tr.join_sz l k v rl
          have m := zct (Tr.join l k v rl) rk rv rr (by omega)
          have e : Tr.join l k v (.node rl rk rv rr) = Tr.even (Tr.join l k v rl) rk rv rr := by rw [Tr.join.eq_def]; simp only [if_neg h1, if_pos h3]
          rw [e]
          rw [zaY] at hr ⊢
          obtain ⟨H, hH⟩ : ∃ H, (Tr.node rl rk rv rr).ht = H := ⟨_, rfl⟩
          obtain ⟨Z, hZ⟩ : ∃ Z, (Tr.node rl rk rv rr).sz = Z := ⟨_, rfl⟩
          rw [hH, hZ] at hr ⊢
          rw [hH] at h1 h3 w1
          refine zK Tryz.func231 rfl (N := 57) rfl rfl (by simp) (by simp [noIds]) fun σ => ?_
          generalize Tr.even (Tr.join l k v rl) rk rv rr = T at m ⊢
          generalize Tr.join l k v rl = U at i1 m
          (try ((first | with_reducible refine zk ?_ | with_reducible refine zm ?_ | with_reducible refine zo ?_); simp [-cellOK, zI, zJ, h1, h3, w1, w2])); repeat' (first | ((first | refine zd ?_ | refine zh ?_ | refine dN (by decide +kernel) ?_ | refine dC (by decide +kernel) ?_ | refine uP (hl) ?_ | refine .inl ⟨_, .inl (hl), ?_⟩ | refine uP (hr) ?_ | refine .inl ⟨_, .inl (hr), ?_⟩ | refine uP (i1) ?_ | refine .inl ⟨_, .inl (i1), ?_⟩ | refine uP (m) ?_ | refine .inl ⟨_, .inl (m), ?_⟩ | (refine za ?_ ?_ <;> (intro hg; simp only [hg])) | fail) <;> simp [-cellOK, zI, zJ, h1, h3, w1, w2]) | refine zg ?_ | refine zc ?_ | (refine zs ?_; simp only [zt]; try simp) | (refine zl (by simp) ?_; simp) | (refine zx (by simp) (by simp [noIds]) (by repeat (first | assumption | exact Ext.refl _ | refine zu ?_ | refine Ext.setF ?_ (by first | assumption | (simp [ze, St.set, zf]; done) | exact zp (by assumption)))) ?_; simp [-cellOK, zI, zJ, h1, h3, w1, w2, zL]) | (refine zb (fun hc => ?_) (fun hc => ?_) <;> try simp at hc) | fail)
      · have m := zbh l k v r (by omega)
        have e : Tr.join l k v r = .node l k v r := by rw [Tr.join.eq_def, if_neg h1, if_neg h3]
        rw [e]
        refine zK Tryz.func231 rfl (N := 57) rfl rfl (by simp) (by simp [noIds]) fun σ => ?_
        generalize Tr.node l k v r = T at m ⊢
        (try ((first | with_reducible refine zk ?_ | with_reducible refine zm ?_ | with_reducible refine zo ?_); simp [-cellOK, zI, zJ, h1, h3, w1, w2])); repeat' (first | ((first | refine zd ?_ | refine zh ?_ | refine dN (by decide +kernel) ?_ | refine dC (by decide +kernel) ?_ | refine uP (hl) ?_ | refine .inl ⟨_, .inl (hl), ?_⟩ | refine uP (hr) ?_ | refine .inl ⟨_, .inl (hr), ?_⟩ | refine uP (m) ?_ | refine .inl ⟨_, .inl (m), ?_⟩ | (refine za ?_ ?_ <;> (intro hg; simp only [hg])) | fail) <;> simp [-cellOK, zI, zJ, h1, h3, w1, w2]) | refine zg ?_ | refine zc ?_ | (refine zs ?_; simp only [zt]; try simp) | (refine zl (by simp) ?_; simp) | (refine zx (by simp) (by simp [noIds]) (by repeat (first | assumption | exact Ext.refl _ | refine zu ?_ | refine Ext.setF ?_ (by first | assumption | (simp [ze, St.set, zf]; done) | exact zp (by assumption)))) ?_; simp [-cellOK, zI, zJ, h1, h3, w1, w2, zL]) | (refine zb (fun hc => ?_) (fun hc => ?_) <;> try simp at hc) | fail)
theorem Tr.cut_sz (b : Int) : ∀ t : Tr, (t.cut b).1.sz + (t.cut b).2.sz = t.sz
  | nil => by simp [Tr.cut, Tr.sz]
  | node l k v r => by
    have h1 := Tr.cut_sz b l
    have h2 := Tr.cut_sz b r
    simp only [Tr.cut]
    split
    · simp only [Tr.join_sz, Tr.sz]; omega
    · simp only [Tr.join_sz, Tr.sz]; omega
theorem zfu (b : Int) : ∀ t : Tr, t.sz < 2 ^ 48 → PCalls Tryz.prog 214 [t.av, .raw (.int .u64 b)] (.tup [(t.cut b).1.av, (t.cut b).2.av])
  | .nil, _ => by
    refine zK Tryz.func214 rfl (N := 59) rfl rfl (by simp) (by simp [noIds]) fun σ => ?_
    have e : Tr.nil.cut b = (.nil, .nil) := rfl
    rw [e]
    (try ((first | with_reducible refine zk ?_ | with_reducible refine zm ?_ | with_reducible refine zo ?_); simp [-cellOK])); repeat' (first | ((first | refine zd ?_ | refine zh ?_ | refine dN (by decide +kernel) ?_ | refine dC (by decide +kernel) ?_ | (refine za ?_ ?_ <;> (intro hg; simp only [hg])) | fail) <;> simp [-cellOK]) | refine zg ?_ | refine zc ?_ | (refine zs ?_; simp only [zt]; try simp) | (refine zl (by simp) ?_; simp) | (refine zx (by simp) (by simp [noIds]) (by repeat (first | assumption | exact Ext.refl _ | refine zu ?_ | refine Ext.setF ?_ (by first | assumption | (simp [ze, St.set, zf]; done) | exact zp (by assumption)))) ?_; simp [-cellOK, zL]) | (refine zb (fun hc => ?_) (fun hc => ?_) <;> try simp at hc) | fail)
  | .node l k v r, h => by
    have y1 := l.sz_nn
    have y2 := r.sz_nn
    have hz : (Tr.node l k v r).sz = 1 + l.sz + r.sz := rfl
    rw [zaY]
    obtain ⟨H, hH⟩ : ∃ H, (Tr.node l k v r).ht = H := ⟨_, rfl⟩
    obtain ⟨Z, hZ⟩ : ∃ Z, (Tr.node l k v r).sz = Z := ⟨_, rfl⟩
    rw [hH, hZ]
    by_cases h1 : k < b
    · have i1 := zfu b r (by omega)
      have cs := Tr.cut_sz b r
      have x1 := (r.cut b).1.sz_nn
      have x2 := (r.cut b).2.sz_nn
      have m := zg4 _ l k v (r.cut b).1 (Nat.lt_succ_self _) (by omega)
      have e : Tr.cut (.node l k v r) b = (Tr.join l k v (r.cut b).1, (r.cut b).2) := by simp only [Tr.cut, if_pos h1]
      rw [e]
      refine zK Tryz.func214 rfl (N := 59) rfl rfl (by simp) (by simp [noIds]) fun σ => ?_
      generalize Tr.join l k v (r.cut b).1 = T at m ⊢
      generalize (r.cut b).1 = U at i1 m
      generalize (r.cut b).2 = V at i1 ⊢
      (try ((first | with_reducible refine zk ?_ | with_reducible refine zm ?_ | with_reducible refine zo ?_); simp [-cellOK, zI, zJ, h1])); repeat' (first | ((first | refine zd ?_ | refine zh ?_ | refine dN (by decide +kernel) ?_ | refine dC (by decide +kernel) ?_ | refine uP (i1) ?_ | refine .inl ⟨_, .inl (i1), ?_⟩ | refine uP (m) ?_ | refine .inl ⟨_, .inl (m), ?_⟩ | (refine za ?_ ?_ <;> (intro hg; simp only [hg])) | fail) <;> simp [-cellOK, zI, zJ, h1]) | refine zg ?_ | refine zc ?_ | (refine zs ?_; simp only [zt]; try simp) | (refine zl (by simp) ?_; simp) | (refine zx (by simp) (by simp [noIds]) (by repeat (first | assumption | exact Ext.refl _ | refine zu ?_ | refine Ext.setF ?_ (by first | assumption | (simp [ze, St.set, zf]; done) | exact zp (by assumption)))) ?_; simp [-cellOK, zI, zJ, h1, zL]) | (refine zb (fun hc => ?_) (fun hc => ?_) <;> try simp at hc) | fail)
    · have i1 := zfu b l (by omega)
      have cs := Tr.cut_sz b l
      have x1 := (l.cut b).1.sz_nn
      have x2 := (l.cut b).2.sz_nn
      have m := zg4 _ (l.cut b).2 k v r (Nat.lt_succ_self _) (by omega)
      have e : Tr.cut (.node l k v r) b = ((l.cut b).1, Tr.join (l.cut b).2 k v r) := by simp only [Tr.cut, if_neg h1]
      rw [e]
      refine zK Tryz.func214 rfl (N := 59) rfl rfl (by simp) (by simp [noIds]) fun σ => ?_
      generalize Tr.join (l.cut b).2 k v r = T at m ⊢
      generalize (l.cut b).2 = U at i1 m
      generalize (l.cut b).1 = V at i1 ⊢
      (try ((first | with_reducible refine zk ?_ | with_reducible refine zm ?_ | with_reducible refine zo ?_); simp [-cellOK, zI, zJ, h1])); repeat' (first | ((first | refine zd ?_ | refine zh ?_ | refine dN (by decide +kernel) ?_ | refine dC (by decide +kernel) ?_ | refine uP (i1) ?_ | refine .inl ⟨_, .inl (i1), ?_⟩ | refine uP (m) ?_ | refine .inl ⟨_, .inl (m), ?_⟩ | (refine za ?_ ?_ <;> (intro hg; simp only [hg])) | fail) <;> simp [-cellOK, zI, zJ, h1]) | refine zg ?_ | refine zc ?_ | (refine zs ?_; simp only [zt]; try simp) | (refine zl (by simp) ?_; simp) | (refine zx (by simp) (by simp [noIds]) (by repeat (first | assumption | exact Ext.refl _ | refine zu ?_ | refine Ext.setF ?_ (by first | assumption | (simp [ze, St.set, zf]; done) | exact zp (by assumption)))) ?_; simp [-cellOK, zI, zJ, h1, zL]) | (refine zb (fun hc => ?_) (fun hc => ?_) <;> try simp at hc) | fail)
theorem zkm (t : Tr) (b : Int) (h : t.sz < 2 ^ 48) : PCalls Tryz.prog 199 [trP t, .raw (.int .u64 b)] (.tup [trP (t.cut b).1, trP (t.cut b).2]) := by
  have hc := zfu b t h
  generalize (t.cut b).1 = U at hc ⊢
  generalize (t.cut b).2 = V at hc ⊢
  refine zK Tryz.func199 rfl (N := 21) rfl rfl (by simp) (by simp [noIds]) fun σ => ?_
  (try ((first | with_reducible refine zk ?_ | with_reducible refine zm ?_ | with_reducible refine zo ?_); simp [-cellOK])); repeat' (first | ((first | refine zd ?_ | refine zh ?_ | refine dN (by decide +kernel) ?_ | refine dC (by decide +kernel) ?_ | refine uP (hc) ?_ | refine .inl ⟨_, .inl (hc), ?_⟩ | refine uP (za2 t) ?_ | refine .inl ⟨_, .inl (za2 t), ?_⟩ | (refine za ?_ ?_ <;> (intro hg; simp only [hg])) | fail) <;> simp [-cellOK]) | refine zg ?_ | refine zc ?_ | (refine zs ?_; simp only [zt]; try simp) | (refine zb (fun hc => ?_) (fun hc => ?_) <;> try simp at hc) | fail)
  refine zbk (x := .tup [.rp ⟨17, σ.nx 17, 1⟩ 0 0, .rp ⟨20, σ.nx 20, 1⟩ 0 0]) (.inr rfl) (by repeat (first | assumption | exact Ext.refl _ | refine zu ?_ | refine Ext.setF ?_ (by first | assumption | (simp [ze, St.set, zf]; done) | exact zp (by assumption)))) ?_ ?_
  · simp [ze]
  · simp [zak, zD, zf, zz, ze, trP]
end Go.Proofs.YtanimmdlgmkmkaaGreat.Av
namespace Go.Proofs.YtanimmdlgmkmkaaGreat.Av
open Go
set_option linter.unusedSimpArgs false
set_option linter.unusedVariables false
set_option maxRecDepth 100000
set_option maxHeartbeats 4000000
set_option pp.maxSteps 600
theorem Tr.least_sz : ∀ t : Tr, t ≠ .nil → t.least.2.sz = t.sz - 1 := fun t h => by
  have := Tr.least_toL t h
  rw [Tr.sz_toL, Tr.sz_toL t, this]
  simp only [List.length_cons]; omega
theorem zgD : ∀ t : Tr, t ≠ .nil → t.sz < 2 ^ 48 → PCalls Tryz.prog 236 [t.av] (.tup [zdt t.least.1.1 t.least.1.2, t.least.2.av])
  | .nil, h, _ => absurd rfl h
  | .node .nil k v r, _, h => by
    have e : (Tr.node .nil k v r).least = ((k, v), r) := by simp only [Tr.least]
    rw [e, zaY]
    refine zK Tryz.func236 rfl (N := 38) rfl rfl (by simp) (by simp [noIds]) fun σ => ?_
    have f2 : σ.m ⟨2, σ.nx 2, 2⟩ = none := zf _ _ _
    (try ((first | with_reducible refine zk ?_ | with_reducible refine zm ?_ | with_reducible refine zo ?_); simp [-cellOK, zI, zJ, zaM, zaI])); repeat' (first | ((first | refine zd ?_ | refine zh ?_ | refine dN (by decide +kernel) ?_ | refine dC (by decide +kernel) ?_ | (refine za ?_ ?_ <;> (intro hg; simp only [hg])) | fail) <;> simp [-cellOK, zI, zJ, zaM, zaI]) | refine zg ?_ | refine zc ?_ | (refine zs ?_; simp only [zt]; try simp) | (refine zl (by simp) ?_; simp) | (refine zx (by simp) (by simp [noIds]) (by repeat (first | assumption | exact Ext.refl _ | refine zu ?_ | refine Ext.setF ?_ (by first | assumption | (simp [ze, St.set, zf]; done) | exact zp (by assumption)))) ?_; simp [-cellOK, zI, zJ, zaM, zaI, zL]) | (refine zb (fun hc => ?_) (fun hc => ?_) <;> try simp at hc) | fail)
    refine zcd (lsO [14, 18]) zem (by decide +kernel) ?_
    (try ((first | with_reducible refine zk ?_ | with_reducible refine zm ?_ | with_reducible refine zo ?_); simp [-cellOK, zI, zJ, zaM, zaI])); repeat' (first | ((first | refine zd ?_ | refine zh ?_ | refine dN (by decide +kernel) ?_ | refine dC (by decide +kernel) ?_ | (refine za ?_ ?_ <;> (intro hg; simp only [hg])) | fail) <;> simp [-cellOK, zI, zJ, zaM, zaI]) | refine zg ?_ | refine zc ?_ | (refine zs ?_; simp only [zt]; try simp) | (refine zl (by simp) ?_; simp) | (refine zx (by simp) (by simp [noIds]) (by repeat (first | assumption | exact Ext.refl _ | refine zu ?_ | refine Ext.setF ?_ (by first | assumption | (simp [ze, St.set, zf]; done) | exact zp (by assumption)))) ?_; simp [-cellOK, zI, zJ, zaM, zaI, zL]) | (refine zb (fun hc => ?_) (fun hc => ?_) <;> try simp at hc) | fail)
  | .node (.node a b c d) k v r, _, h => by
    have hz : (Tr.node (.node a b c d) k v r).sz = 1 + (Tr.node a b c d).sz + r.sz := rfl
    have y1 := (Tr.node a b c d).sz_nn
    have y2 := r.sz_nn
    have i1 := zgD (.node a b c d) (by simp) (by omega)
    have ls := Tr.least_sz (.node a b c d) (by simp)
    have m := zct (Tr.node a b c d).least.2 k v r (by omega)
    have e : (Tr.node (.node a b c d) k v r).least = ((Tr.node a b c d).least.1, Tr.even (Tr.node a b c d).least.2 k v r) := by simp only [Tr.least]
    rw [e, zaY]
    have hm := zaY a b c d
    generalize Tr.even (Tr.node a b c d).least.2 k v r = T at m ⊢
    generalize (Tr.node a b c d).least.2 = U at i1 m
    generalize (Tr.node a b c d).least.1 = q at i1 ⊢
    generalize (Tr.node (.node a b c d) k v r).ht = H
    generalize (Tr.node (.node a b c d) k v r).sz = Z
    generalize (Tr.node a b c d).ht = H2 at hm
    generalize (Tr.node a b c d).sz = Z2 at hm
    rw [hm] at i1 ⊢
    refine zK Tryz.func236 rfl (N := 38) rfl rfl (by simp) (by simp [noIds]) fun σ => ?_
    have f2 : σ.m ⟨2, σ.nx 2, 2⟩ = none := zf _ _ _
    (try ((first | with_reducible refine zk ?_ | with_reducible refine zm ?_ | with_reducible refine zo ?_); simp [-cellOK, zI, zJ, zaM, zaI, zz, zA, ze])); repeat' (first | ((first | refine zd ?_ | refine zh ?_ | refine dN (by decide +kernel) ?_ | refine dC (by decide +kernel) ?_ | refine uP (i1) ?_ | refine .inl ⟨_, .inl (i1), ?_⟩ | refine uP (m) ?_ | refine .inl ⟨_, .inl (m), ?_⟩ | (refine za ?_ ?_ <;> (intro hg; simp only [hg])) | fail) <;> simp [-cellOK, zI, zJ, zaM, zaI, zz, zA, ze]) | refine zg ?_ | refine zc ?_ | (refine zs ?_; simp only [zt]; try simp) | (refine zl (by simp) ?_; simp) | (refine zx (by simp) (by simp [noIds]) (by repeat (first | assumption | exact Ext.refl _ | refine zu ?_ | refine Ext.setF ?_ (by first | assumption | (simp [ze, St.set, zf]; done) | exact zp (by assumption)))) ?_; simp [-cellOK, zI, zJ, zaM, zaI, zz, zA, ze, zL]) | (refine zb (fun hc => ?_) (fun hc => ?_) <;> try simp at hc) | fail)
theorem Tr.without_sz (k : Int) : ∀ t : Tr, (t.without k).sz ≤ t.sz
  | .nil => by simp [Tr.without]
  | .node l k' v' r => by
    have h1 := Tr.without_sz k l
    have h2 := Tr.without_sz k r
    have y1 := l.sz_nn
    have y2 := r.sz_nn
    simp only [Tr.without]
    split
    · rw [Tr.even_sz]; simp only [Tr.sz]; omega
    · split
      · rw [Tr.even_sz]; simp only [Tr.sz]; omega
      · cases r with
        | nil => simp only [Tr.sz]; omega
        | node a b c d =>
          have := Tr.least_sz (.node a b c d) (by simp)
          simp only [Tr.even_sz, this]
          simp only [Tr.sz]; omega
theorem zdR (k : Int) : ∀ t : Tr, t.get k ≠ none → t.sz < 2 ^ 48 → PCalls Tryz.prog 220 [t.av, .raw (.int .u64 k)] (t.without k).av
  | .nil, h, _ => absurd rfl h
  | .node l k' v' r, hg, h => by
    have hz : (Tr.node l k' v' r).sz = 1 + l.sz + r.sz := rfl
    have y1 := l.sz_nn
    have y2 := r.sz_nn
    simp only [Tr.get] at hg
    by_cases h1 : k < k'
    · rw [if_pos h1] at hg
      have i1 := zdR k l hg (by omega)
      have ws := Tr.without_sz k l
      have m := zct (l.without k) k' v' r (by omega)
      have e : (Tr.node l k' v' r).without k = Tr.even (l.without k) k' v' r := by simp only [Tr.without, if_pos h1]
      rw [e, zaY]
      generalize Tr.even (l.without k) k' v' r = T at m ⊢
      generalize l.without k = U at i1 m
      generalize (Tr.node l k' v' r).ht = H
      generalize (Tr.node l k' v' r).sz = Z
      refine zK Tryz.func220 rfl (N := 78) rfl rfl (by simp) (by simp [noIds]) fun σ => ?_
      (try ((first | with_reducible refine zk ?_ | with_reducible refine zm ?_ | with_reducible refine zo ?_); simp [-cellOK, zI, zJ, h1])); repeat' (first | ((first | refine zd ?_ | refine zh ?_ | refine dN (by decide +kernel) ?_ | refine dC (by decide +kernel) ?_ | refine uP (i1) ?_ | refine .inl ⟨_, .inl (i1), ?_⟩ | refine uP (m) ?_ | refine .inl ⟨_, .inl (m), ?_⟩ | (refine za ?_ ?_ <;> (intro hg; simp only [hg])) | fail) <;> simp [-cellOK, zI, zJ, h1]) | refine zg ?_ | refine zc ?_ | (refine zs ?_; simp only [zt]; try simp) | (refine zl (by simp) ?_; simp) | (refine zx (by simp) (by simp [noIds]) (by repeat (first | assumption | exact Ext.refl _ | refine zu ?_ | refine Ext.setF ?_ (by first | assumption | (simp [ze, St.set, zf]; done) | exact zp (by assumption)))) ?_; simp [-cellOK, zI, zJ, h1, zL]) | (refine zb (fun hc => ?_) (fun hc => ?_) <;> try simp at hc) | fail)
    · rw [if_neg h1] at hg
      by_cases h2 : k' < k
      · rw [if_pos h2] at hg
        have i1 := zdR k r hg (by omega)
        have ws := Tr.without_sz k r
        have m := zct l k' v' (r.without k) (by omega)
        have e : (Tr.node l k' v' r).without k = Tr.even l k' v' (r.without k) := by simp only [Tr.without, if_neg h1, if_pos h2]
        rw [e, zaY]
        generalize Tr.even l k' v' (r.without k) = T at m ⊢
        generalize r.without k = U at i1 m
        generalize (Tr.node l k' v' r).ht = H
        generalize (Tr.node l k' v' r).sz = Z
        refine zK Tryz.func220 rfl (N := 78) rfl rfl (by simp) (by simp [noIds]) fun σ => ?_
        (try ((first | with_reducible refine zk ?_ | with_reducible refine zm ?_ | with_reducible refine zo ?_); simp [-cellOK, zI, zJ, h1, h2])); repeat' (first | ((first | refine zd ?_ | refine zh ?_ | refine dN (by decide +kernel) ?_ | refine dC (by decide +kernel) ?_ | refine uP (i1) ?_ | refine .inl ⟨_, .inl (i1), ?_⟩ | refine uP (m) ?_ | refine .inl ⟨_, .inl (m), ?_⟩ | (refine za ?_ ?_ <;> (intro hg; simp only [hg])) | fail) <;> simp [-cellOK, zI, zJ, h1, h2]) | refine zg ?_ | refine zc ?_ | (refine zs ?_; simp only [zt]; try simp) | (refine zl (by simp) ?_; simp) | (refine zx (by simp) (by simp [noIds]) (by repeat (first | assumption | exact Ext.refl _ | refine zu ?_ | refine Ext.setF ?_ (by first | assumption | (simp [ze, St.set, zf]; done) | exact zp (by assumption)))) ?_; simp [-cellOK, zI, zJ, h1, h2, zL]) | (refine zb (fun hc => ?_) (fun hc => ?_) <;> try simp at hc) | fail)
      · cases r with
        | nil =>
          have e : (Tr.node l k' v' .nil).without k = l := by simp only [Tr.without, if_neg h1, if_neg h2]
          rw [e, zaY]
          generalize (Tr.node l k' v' .nil).ht = H
          generalize (Tr.node l k' v' .nil).sz = Z
          refine zK Tryz.func220 rfl (N := 78) rfl rfl (by simp) (by simp [noIds]) fun σ => ?_
          (try ((first | with_reducible refine zk ?_ | with_reducible refine zm ?_ | with_reducible refine zo ?_); simp [-cellOK, zI, zJ, h1, h2])); repeat' (first | ((first | refine zd ?_ | refine zh ?_ | refine dN (by decide +kernel) ?_ | refine dC (by decide +kernel) ?_ | (refine za ?_ ?_ <;> (intro hg; simp only [hg])) | fail) <;> simp [-cellOK, zI, zJ, h1, h2]) | refine zg ?_ | refine zc ?_ | (refine zs ?_; simp only [zt]; try simp) | (refine zl (by simp) ?_; simp) | (refine zx (by simp) (by simp [noIds]) (by repeat (first | assumption | exact Ext.refl _ | refine zu ?_ | refine Ext.setF ?_ (by first | assumption | (simp [ze, St.set, zf]; done) | exact zp (by assumption)))) ?_; simp [-cellOK, zI, zJ, h1, h2, zL]) | (refine zb (fun hc => ?_) (fun hc => ?_) <;> try simp at hc) | fail)
        | node a b c d =>
          have i1 := zgD (.node a b c d) (by simp) (by omega)
          have ls := Tr.least_sz (.node a b c d) (by simp)
          have m := zct l (Tr.node a b c d).least.1.1 (Tr.node a b c d).least.1.2 (Tr.node a b c d).least.2 (by omega)
          have e : (Tr.node l k' v' (.node a b c d)).without k = Tr.even l (Tr.node a b c d).least.1.1 (Tr.node a b c d).least.1.2 (Tr.node a b c d).least.2 := by simp only [Tr.without, if_neg h1, if_neg h2]
          rw [e, zaY]
          have hm := zaY a b c d
          generalize Tr.even l (Tr.node a b c d).least.1.1 (Tr.node a b c d).least.1.2 (Tr.node a b c d).least.2 = T at m ⊢
          generalize (Tr.node a b c d).least.2 = U at i1 m
          generalize (Tr.node a b c d).least.1 = q at i1 m
          generalize (Tr.node l k' v' (.node a b c d)).ht = H
          generalize (Tr.node l k' v' (.node a b c d)).sz = Z
          generalize (Tr.node a b c d).ht = H2 at hm
          generalize (Tr.node a b c d).sz = Z2 at hm
          rw [hm] at i1 ⊢
          refine zK Tryz.func220 rfl (N := 78) rfl rfl (by simp) (by simp [noIds]) fun σ => ?_
          (try ((first | with_reducible refine zk ?_ | with_reducible refine zm ?_ | with_reducible refine zo ?_); simp [-cellOK, zI, zJ, zaM, zaI, h1, h2, zz, zA, ze])); repeat' (first | ((first | refine zd ?_ | refine zh ?_ | refine dN (by decide +kernel) ?_ | refine dC (by decide +kernel) ?_ | refine uP (i1) ?_ | refine .inl ⟨_, .inl (i1), ?_⟩ | refine uP (m) ?_ | refine .inl ⟨_, .inl (m), ?_⟩ | (refine za ?_ ?_ <;> (intro hg; simp only [hg])) | fail) <;> simp [-cellOK, zI, zJ, zaM, zaI, h1, h2, zz, zA, ze]) | refine zg ?_ | refine zc ?_ | (refine zs ?_; simp only [zt]; try simp) | (refine zl (by simp) ?_; simp) | (refine zx (by simp) (by simp [noIds]) (by repeat (first | assumption | exact Ext.refl _ | refine zu ?_ | refine Ext.setF ?_ (by first | assumption | (simp [ze, St.set, zf]; done) | exact zp (by assumption)))) ?_; simp [-cellOK, zI, zJ, zaM, zaI, h1, h2, zz, zA, ze, zL]) | (refine zb (fun hc => ?_) (fun hc => ?_) <;> try simp at hc) | fail)
theorem zld (t : Tr) (k : Int) (hg : t.get k ≠ none) (h : t.sz < 2 ^ 48) : PCalls Tryz.prog 209 [trP t, .raw (.int .u64 k)] (.tup [trP (t.without k), .raw (.int .i64 0)]) := by
  have h1 := zft t k
  have h2 := zdR k t hg h
  generalize t.without k = U at h2 ⊢
  obtain ⟨x, hx⟩ := Option.ne_none_iff_exists'.1 hg
  rw [hx] at h1
  refine zK Tryz.func209 rfl (N := 22) rfl rfl (by simp) (by simp [noIds]) fun σ => ?_
  (try ((first | with_reducible refine zk ?_ | with_reducible refine zm ?_ | with_reducible refine zo ?_); simp [-cellOK])); repeat' (first | ((first | refine zd ?_ | refine zh ?_ | refine dN (by decide +kernel) ?_ | refine dC (by decide +kernel) ?_ | refine uP (h1) ?_ | refine .inl ⟨_, .inl (h1), ?_⟩ | refine uP (h2) ?_ | refine .inl ⟨_, .inl (h2), ?_⟩ | refine uP (za2 t) ?_ | refine .inl ⟨_, .inl (za2 t), ?_⟩ | (refine za ?_ ?_ <;> (intro hg; simp only [hg])) | fail) <;> simp [-cellOK]) | refine zg ?_ | refine zc ?_ | (refine zs ?_; simp only [zt]; try simp) | (refine zb (fun hc => ?_) (fun hc => ?_) <;> try simp at hc) | fail)
  refine zbk (x := .tup [.rp ⟨21, σ.nx 21, 1⟩ 0 0, .raw (.int .i64 0)]) (.inr rfl) (by repeat (first | assumption | exact Ext.refl _ | refine zu ?_ | refine Ext.setF ?_ (by first | assumption | (simp [ze, St.set, zf]; done) | exact zp (by assumption)))) ?_ ?_
  · simp [ze]
  · simp [zak, zD, zf, zz, ze, trP]
end Go.Proofs.YtanimmdlgmkmkaaGreat.Av
namespace Go.Proofs.YtanimmdlgmkmkaaGreat.Av
open Go
set_option linter.unusedSimpArgs false
set_option linter.unusedVariables false
set_option maxRecDepth 100000
set_option maxHeartbeats 4000000
set_option pp.maxSteps 600
structure Tab where
  b : Tr
  g : Tr
  n : Int
def zdk (T : Tab) : AV := .pp [trP T.b, trP T.g, .raw (.int .i64 T.n)] 0
def zbn : Option Tab → AV
  | none => .raw (.pointer none)
  | some T => zdk T
@[simp] theorem ztb (K : Id → Prop) (T : Tab) : (zdk T).ids K := by simp [zdk, AV.ids]
@[simp] theorem ztc (K : Id → Prop) (T : Option Tab) : (zbn T).ids K := by cases T <;> simp [zbn]
@[simp] theorem zt8 (T : Tab) : cellOK (zdk T) = true := rfl
@[simp] theorem zrL (T : Tab) : (zdk T).cells = [zdk T] := rfl
@[simp] theorem zrM (T : Tab) : (zdk T).flat1 = true := rfl
def zad : Tab := ⟨.node .nil 0 1 .nil, .nil, 0⟩
theorem zdS : PCalls Tryz.prog 76 [] (zdk zad) := by
  have h := zhR .nil 0 1 (by simp [Tr.sz]) (by simp [Tr.sz])
  have e : Tr.with_ .nil 0 1 = .node .nil 0 1 .nil := rfl
  rw [e] at h
  unfold zdk zad
  generalize Tr.node .nil 0 1 .nil = U at h ⊢
  refine zK Tryz.func76 rfl (N := 12) rfl rfl (by simp) (by simp [noIds, AV.ids]) fun σ => ?_
  (try ((first | with_reducible refine zk ?_ | with_reducible refine zm ?_ | with_reducible refine zo ?_); simp [-cellOK])); repeat' (first | ((first | refine zd ?_ | refine zh ?_ | refine dN (by decide +kernel) ?_ | refine dC (by decide +kernel) ?_ | refine uP (zhQ) ?_ | refine .inl ⟨_, .inl (zhQ), ?_⟩ | refine uP (h) ?_ | refine .inl ⟨_, .inl (h), ?_⟩ | (refine za ?_ ?_ <;> (intro hg; simp only [hg])) | fail) <;> simp [-cellOK]) | refine zg ?_ | refine zc ?_ | (refine zs ?_; simp only [zt]; try simp) | (refine zb (fun hc => ?_) (fun hc => ?_) <;> try simp at hc) | fail)
  refine zbk (x := .rp ⟨11, σ.nx 11, 3⟩ 0 0) (.inr rfl) (by repeat (first | assumption | exact Ext.refl _ | refine zu ?_ | refine Ext.setF ?_ (by first | assumption | (simp [ze, St.set, zf]; done) | exact zp (by assumption)))) ?_ ?_
  · simp [ze]
  · simp [zak, zD, zf, zz, ze]
theorem ze7 (T : Option Tab) : PCalls Tryz.prog 132 [zbn T] (zdk (T.getD zad)) := by
  refine zK Tryz.func132 rfl (N := 7) rfl rfl (by simp) (by simp [noIds]) fun σ => ?_
  cases T with
  | none => (try ((first | with_reducible refine zk ?_ | with_reducible refine zm ?_ | with_reducible refine zo ?_); simp [-cellOK, zbn])); repeat' (first | ((first | refine zd ?_ | refine zh ?_ | refine dN (by decide +kernel) ?_ | refine dC (by decide +kernel) ?_ | refine uP (zdS) ?_ | refine .inl ⟨_, .inl (zdS), ?_⟩ | (refine za ?_ ?_ <;> (intro hg; simp only [hg])) | fail) <;> simp [-cellOK, zbn]) | refine zg ?_ | refine zc ?_ | (refine zs ?_; simp only [zt]; try simp) | (refine zl (by simp) ?_; simp) | (refine zx (by simp) (by simp [noIds]) (by repeat (first | assumption | exact Ext.refl _ | refine zu ?_ | refine Ext.setF ?_ (by first | assumption | (simp [ze, St.set, zf]; done) | exact zp (by assumption)))) ?_; simp [-cellOK, zbn, zL]) | (refine zb (fun hc => ?_) (fun hc => ?_) <;> try simp at hc) | fail)
  | some T =>
    have e : zdk T = .pp [trP T.b, trP T.g, .raw (.int .i64 T.n)] 0 := rfl
    simp only [zbn, Option.getD_some, e]
    (try ((first | with_reducible refine zk ?_ | with_reducible refine zm ?_ | with_reducible refine zo ?_); simp [-cellOK])); repeat' (first | ((first | refine zd ?_ | refine zh ?_ | refine dN (by decide +kernel) ?_ | refine dC (by decide +kernel) ?_ | (refine za ?_ ?_ <;> (intro hg; simp only [hg])) | fail) <;> simp [-cellOK]) | refine zg ?_ | refine zc ?_ | (refine zs ?_; simp only [zt]; try simp) | (refine zl (by simp) ?_; simp) | (refine zx (by simp) (by simp [noIds]) (by repeat (first | assumption | exact Ext.refl _ | refine zu ?_ | refine Ext.setF ?_ (by first | assumption | (simp [ze, St.set, zf]; done) | exact zp (by assumption)))) ?_; simp [-cellOK, zL]) | (refine zb (fun hc => ?_) (fun hc => ?_) <;> try simp at hc) | fail)
def zbK (t : Tr) (k by_ : Int) : Tr := if (t.get k).getD 0 + by_ = 0 then t.without k else t.with_ k ((t.get k).getD 0 + by_)
structure MoreOK (t : Tr) (k by_ : Int) : Prop where
  sz : t.sz < 2 ^ 40
  lo : -2 ^ 40 < (t.get k).getD 0 + by_
  hi : (t.get k).getD 0 + by_ < 2 ^ 40
  drop : (t.get k).getD 0 + by_ = 0 → t.get k ≠ none
  room : t.get k = none → t.sz < 1024
theorem zi3 (t : Tr) (k by_ : Int) (h : MoreOK t k by_) : PCalls Tryz.prog 184 [trP t, .raw (.int .u64 k), .raw (.int .i64 by_)] (trP (zbK t k by_)) := by
  have hg := zft t k
  have w := zU (n := (t.get k).getD 0 + by_) (by have := h.lo; omega) (by have := h.hi; omega)
  have hsz := h.sz
  by_cases h0 : (t.get k).getD 0 + by_ = 0
  · have hd := zld t k (h.drop h0) (by omega)
    have e : zbK t k by_ = t.without k := by unfold zbK; rw [if_pos h0]
    rw [e]
    generalize t.without k = U at hd ⊢
    refine zK Tryz.func184 rfl (N := 36) rfl rfl (by simp) (by simp [noIds]) fun σ => ?_
    generalize (t.get k).getD 0 = x at *
    generalize (t.get k).isSome = b at *
    rw [h0] at w
    have h0' : IntKind.i64.wrap (x + by_) = 0 := by rw [h0, w]
    (try ((first | with_reducible refine zk ?_ | with_reducible refine zm ?_ | with_reducible refine zo ?_); simp [-cellOK, h0, h0', w])); repeat' (first | ((first | refine zd ?_ | refine zh ?_ | refine dN (by decide +kernel) ?_ | refine dC (by decide +kernel) ?_ | refine uP (hg) ?_ | refine .inl ⟨_, .inl (hg), ?_⟩ | refine uP (hd) ?_ | refine .inl ⟨_, .inl (hd), ?_⟩ | (refine za ?_ ?_ <;> (intro hg; simp only [hg])) | fail) <;> simp [-cellOK, h0, h0', w]) | refine zg ?_ | refine zc ?_ | (refine zs ?_; simp only [zt]; try simp) | (refine zl (by simp) ?_; simp) | (refine zx (by simp) (by simp [noIds]) (by repeat (first | assumption | exact Ext.refl _ | refine zu ?_ | refine Ext.setF ?_ (by first | assumption | (simp [ze, St.set, zf]; done) | exact zp (by assumption)))) ?_; simp [-cellOK, h0, h0', w, zL]) | (refine zb (fun hc => ?_) (fun hc => ?_) <;> try simp at hc) | fail)
  · have hp := zhR t k ((t.get k).getD 0 + by_) (by omega) h.room
    have e : zbK t k by_ = t.with_ k ((t.get k).getD 0 + by_) := by unfold zbK; rw [if_neg h0]
    rw [e]
    generalize t.with_ k ((t.get k).getD 0 + by_) = U at hp ⊢
    refine zK Tryz.func184 rfl (N := 36) rfl rfl (by simp) (by simp [noIds]) fun σ => ?_
    generalize (t.get k).getD 0 = x at *
    generalize (t.get k).isSome = b at *
    (try ((first | with_reducible refine zk ?_ | with_reducible refine zm ?_ | with_reducible refine zo ?_); simp [-cellOK, w, h0])); repeat' (first | ((first | refine zd ?_ | refine zh ?_ | refine dN (by decide +kernel) ?_ | refine dC (by decide +kernel) ?_ | refine uP (hg) ?_ | refine .inl ⟨_, .inl (hg), ?_⟩ | refine uP (hp) ?_ | refine .inl ⟨_, .inl (hp), ?_⟩ | (refine za ?_ ?_ <;> (intro hg; simp only [hg])) | fail) <;> simp [-cellOK, w, h0]) | refine zg ?_ | refine zc ?_ | (refine zs ?_; simp only [zt]; try simp) | (refine zl (by simp) ?_; simp) | (refine zx (by simp) (by simp [noIds]) (by repeat (first | assumption | exact Ext.refl _ | refine zu ?_ | refine Ext.setF ?_ (by first | assumption | (simp [ze, St.set, zf]; done) | exact zp (by assumption)))) ?_; simp [-cellOK, w, h0, zL]) | (refine zb (fun hc => ?_) (fun hc => ?_) <;> try simp at hc) | fail)
structure RgOK (r : Rg) : Prop where
  lo0 : 0 ≤ r.lo
  lo1 : r.lo < 4294967296
  hi0 : 0 ≤ r.hi
  hi1 : r.hi < 4294967296
def zcR (r : Rg) : Int := r.lo * 4294967296 + r.hi
theorem zT (r : Rg) : (zat r).cells = [.raw (.int .u32 r.lo), .raw (.int .u32 r.hi)] := rfl
theorem zb1 (r : Rg) : AV.agg [.raw (.int .u32 r.lo), .raw (.int .u32 r.hi)] = zat r := rfl
theorem zp1 {lo hi : Int} (h0 : 0 ≤ lo) (h1 : lo < 4294967296) (h2 : 0 ≤ hi) (h3 : hi < 4294967296) :
    (BitVec.ofInt 64 (lo * 4294967296) ||| BitVec.ofInt 64 hi).toNat = (lo * 4294967296 + hi).toNat := by
  obtain ⟨a, rfl⟩ := Int.eq_ofNat_of_zero_le h0
  obtain ⟨b, rfl⟩ := Int.eq_ofNat_of_zero_le h2
  have e1 : ((a : Int) * 4294967296) = ((a * 4294967296 : Nat) : Int) := by omega
  have e2 : ((a : Int) * 4294967296 + b) = ((a * 4294967296 + b : Nat) : Int) := by omega
  rw [BitVec.toNat_or, e2, e1, BitVec.ofInt_natCast, BitVec.ofInt_natCast, BitVec.toNat_ofNat, BitVec.toNat_ofNat, Int.toNat_natCast]
  rw [Nat.mod_eq_of_lt (by omega), Nat.mod_eq_of_lt (by omega)]
  have := Nat.shiftLeft_add_eq_or_of_lt (a := a) (b := b) (i := 32) (by omega)
  rw [Nat.shiftLeft_eq] at this
  exact this.symm
theorem znC (r : Rg) (h : RgOK r) : PCalls Tryz.prog 185 [zat r] (.raw (.int .u64 (zcR r))) := by
  obtain ⟨a1, a2, a3, a4⟩ := h
  have w1 : IntKind.u64.wrap r.lo = r.lo := zcO (by omega) (by omega)
  have w2 : IntKind.u64.wrap r.hi = r.hi := zcO (by omega) (by omega)
  have w3 : IntKind.u64.wrap (r.lo * 4294967296) = r.lo * 4294967296 := zcO (by omega) (by omega)
  have w4 : ((r.lo * 4294967296 % 18446744073709551616).toNat ||| (r.hi % 18446744073709551616).toNat) = (zcR r).toNat := by
    have := zp1 a1 a2 a3 a4
    rw [BitVec.toNat_or, BitVec.toNat_ofInt, BitVec.toNat_ofInt] at this
    exact this
  have hk : ((zcR r).toNat : Int) = zcR r := by unfold zcR; omega
  have w5 : IntKind.u64.wrap (zcR r) = zcR r := zcO (by unfold zcR; omega) (by unfold zcR; omega)
  have b1 : IntKind.u64.bits = 64 := rfl
  refine zK Tryz.func185 rfl (N := 11) rfl rfl (by simp) (by simp [noIds]) fun σ => ?_
  generalize zcR r = y at *
  (try ((first | with_reducible refine zk ?_ | with_reducible refine zm ?_ | with_reducible refine zo ?_); simp [-cellOK, zT, w1, w2, w3, w4, w5, hk, b1])); repeat' (first | ((first | refine zd ?_ | refine zh ?_ | refine dN (by decide +kernel) ?_ | refine dC (by decide +kernel) ?_ | (refine za ?_ ?_ <;> (intro hg; simp only [hg])) | fail) <;> simp [-cellOK, zT, w1, w2, w3, w4, w5, hk, b1]) | refine zg ?_ | refine zc ?_ | (refine zs ?_; simp only [zt]; try simp) | (refine zl (by simp) ?_; simp) | (refine zx (by simp) (by simp [noIds]) (by repeat (first | assumption | exact Ext.refl _ | refine zu ?_ | refine Ext.setF ?_ (by first | assumption | (simp [ze, St.set, zf]; done) | exact zp (by assumption)))) ?_; simp [-cellOK, zT, w1, w2, w3, w4, w5, hk, b1, zL]) | (refine zb (fun hc => ?_) (fun hc => ?_) <;> try simp at hc) | fail)
end Go.Proofs.YtanimmdlgmkmkaaGreat.Av
namespace Go.Proofs.YtanimmdlgmkmkaaGreat.Av
open Go
set_option linter.unusedSimpArgs false
set_option linter.unusedVariables false
set_option maxRecDepth 100000
set_option maxHeartbeats 4000000
set_option pp.maxSteps 600
def ze8 (x : Int) : AV := .raw (.int .u64 x)
def zdT (l : List Int) : AV := .sl 1 (l.map ze8) false
@[simp] theorem zt9 (K : Id → Prop) (l : List Int) : (zdT l).ids K := by simp only [zdT, AV.ids]; exact zd9 (fun x => by simp [ze8]) l
def zci (r : Rg) : List Int := if r.hi < 4294967295 then [r.lo, r.hi + 1] else [r.lo]
theorem zmQ (r : Rg) (h : RgOK r) : PCalls Tryz.prog 186 [zat r] (zdT (zci r)) := by
  obtain ⟨a1, a2, a3, a4⟩ := h
  have w1 : IntKind.u64.wrap r.lo = r.lo := zcO (by omega) (by omega)
  have w2 : IntKind.u64.wrap r.hi = r.hi := zcO (by omega) (by omega)
  have w3 : IntKind.u64.wrap (r.hi + 1) = r.hi + 1 := zcO (by omega) (by omega)
  refine zK Tryz.func186 rfl (N := 19) rfl rfl (by simp) (by simp [noIds]) fun σ => ?_
  unfold zci
  by_cases q : r.hi < 4294967295
  · rw [if_pos q]
    (try ((first | with_reducible refine zk ?_ | with_reducible refine zm ?_ | with_reducible refine zo ?_); simp [-cellOK, zT, w1, w2, w3, q, -zO])); repeat' (first | ((first | refine zd ?_ | refine zh ?_ | refine dN (by decide +kernel) ?_ | refine dC (by decide +kernel) ?_ | (refine za ?_ ?_ <;> (intro hg; simp only [hg])) | fail) <;> simp [-cellOK, zT, w1, w2, w3, q, -zO]) | refine zg ?_ | refine zc ?_ | (refine zs ?_; simp only [zt]; try simp) | (refine zl (by simp) ?_; simp) | (refine zx (by simp) (by simp [noIds]) (by repeat (first | assumption | exact Ext.refl _ | refine zu ?_ | refine Ext.setF ?_ (by first | assumption | (simp [ze, St.set, zf]; done) | exact zp (by assumption)))) ?_; simp [-cellOK, zT, w1, w2, w3, q, -zO, zL]) | (refine zb (fun hc => ?_) (fun hc => ?_) <;> try simp at hc) | fail)
    refine zaV zpU (σ0 := σ) (es := [ze8 r.lo]) (OwnL.of (j := ⟨7, σ.nx 7, 1⟩) rfl (by simp [zz, ze, ze8]) (zf _ _ _) rfl) ((by repeat (first | assumption | exact Ext.refl _ | refine zu ?_ | refine Ext.setF ?_ (by first | assumption | (simp [ze, St.set, zf]; done) | exact zp (by assumption))))) (ys := [ze8 (r.hi + 1)]) (by simp [ze8, zz, ze]) (.inr rfl) (by simp [ze8]) (by simp) ?_
    intro v' τ' hO hE _ _
    (try ((first | with_reducible refine zk ?_ | with_reducible refine zm ?_ | with_reducible refine zo ?_); simp [-cellOK])); repeat' (first | ((first | refine zd ?_ | refine zh ?_ | refine dN (by decide +kernel) ?_ | refine dC (by decide +kernel) ?_ | (refine za ?_ ?_ <;> (intro hg; simp only [hg])) | fail) <;> simp [-cellOK]) | refine zg ?_ | refine zc ?_ | (refine zs ?_; simp only [zt]; try simp) | (refine zb (fun hc => ?_) (fun hc => ?_) <;> try simp at hc) | fail)
    exact zds (.inr rfl) (by simp) hO hE
  · rw [if_neg q]
    (try ((first | with_reducible refine zk ?_ | with_reducible refine zm ?_ | with_reducible refine zo ?_); simp [-cellOK, zT, w1, w2, w3, q])); repeat' (first | ((first | refine zd ?_ | refine zh ?_ | refine dN (by decide +kernel) ?_ | refine dC (by decide +kernel) ?_ | (refine za ?_ ?_ <;> (intro hg; simp only [hg])) | fail) <;> simp [-cellOK, zT, w1, w2, w3, q]) | refine zg ?_ | refine zc ?_ | (refine zs ?_; simp only [zt]; try simp) | (refine zb (fun hc => ?_) (fun hc => ?_) <;> try simp at hc) | fail)
    refine zbk (x := .rs ⟨7, σ.nx 7, 1⟩ 0 1) (.inr rfl) (by repeat (first | assumption | exact Ext.refl _ | refine zu ?_ | refine Ext.setF ?_ (by first | assumption | (simp [ze, St.set, zf]; done) | exact zp (by assumption)))) ?_ ?_
    · simp [ze]
    · simp [zak, zD, zf, zz, ze, zdT, ze8]
def Tab.with_ (T : Tab) (r : Rg) (by_ : Int) : Tab := ⟨(zci r).foldl (fun b e => zbK b e by_) T.b, zbK T.g (zcR r) by_, T.n + by_⟩
structure WithOK (T : Tab) (r : Rg) (by_ : Int) : Prop where
  rg : RgOK r
  n0 : -2 ^ 40 < T.n + by_
  n1 : T.n + by_ < 2 ^ 40
  key : MoreOK T.g (zcR r) by_
  ends : ∀ (i : Nat) (e : Int), (zci r)[i]? = some e → MoreOK (((zci r).take i).foldl (fun b e => zbK b e by_) T.b) e by_
theorem zea (T : Tab) : zdk T = .pp [trP T.b, trP T.g, .raw (.int .i64 T.n)] 0 := rfl
theorem zfv (t : Tr) (off : Nat) (x : AV) : setPart (trP t) off [x] = x := rfl
theorem zmR (T : Tab) (r : Rg) (by_ : Int) (h : WithOK T r by_) : PCalls Tryz.prog 133 [zdk T, zat r, .raw (.int .i64 by_)] (zdk (T.with_ r by_)) := by
  have w := zU (n := T.n + by_) (by have := h.n0; omega) (by have := h.n1; omega)
  have hk := znC r h.rg
  have hm := zi3 T.g (zcR r) by_ h.key
  have he := zmQ r h.rg
  have hlen : (zci r).length ≤ 2 := by unfold zci; split <;> simp
  have hends := h.ends
  rw [zea (T.with_ r by_)]
  unfold Tab.with_
  simp only []
  generalize zbK T.g (zcR r) by_ = G at hm ⊢
  generalize zci r = E at he hlen hends ⊢
  rw [zea]
  refine zK Tryz.func133 rfl (N := 49) rfl rfl (by simp) (by simp [noIds]) fun σ => ?_
  have f29 : σ.m ⟨29, σ.nx 29, 3⟩ = none := zf _ _ _
  (try ((first | with_reducible refine zk ?_ | with_reducible refine zm ?_ | with_reducible refine zo ?_); simp [-cellOK, zT, zb1, w])); repeat' (first | ((first | refine zd ?_ | refine zh ?_ | refine dN (by decide +kernel) ?_ | refine dC (by decide +kernel) ?_ | refine uP (hk) ?_ | refine .inl ⟨_, .inl (hk), ?_⟩ | refine uP (hm) ?_ | refine .inl ⟨_, .inl (hm), ?_⟩ | refine uP (he) ?_ | refine .inl ⟨_, .inl (he), ?_⟩ | (refine za ?_ ?_ <;> (intro hg; simp only [hg])) | fail) <;> simp [-cellOK, zT, zb1, w]) | refine zg ?_ | refine zc ?_ | (refine zs ?_; simp only [zt]; try simp) | (refine zl (by simp) ?_; simp) | (refine zx (by simp) (by simp [noIds]) (by repeat (first | assumption | exact Ext.refl _ | refine zu ?_ | refine Ext.setF ?_ (by first | assumption | (simp [ze, St.set, zf]; done) | exact zp (by assumption)))) ?_; simp [-cellOK, zT, zb1, w, zL]) | (refine zb (fun hc => ?_) (fun hc => ?_) <;> try simp at hc) | fail)
  refine zab (fun n A τ => Ext σ τ ∧ A 2 = .raw (.int .i64 by_) ∧ A 7 = .rp ⟨29, σ.nx 29, 3⟩ 0 0 ∧ A 31 = zdT E ∧ A 32 = .raw (.int .i64 E.length) ∧ ∃ i : Nat, A 33 = .raw (.int .i64 i) ∧ i ≤ E.length ∧ n = E.length - i ∧ τ.m ⟨29, σ.nx 29, 3⟩ = some (.buf [.agg [trP ((E.take i).foldl (fun b e => zbK b e by_) T.b), trP G, .raw (.int .i64 (T.n + by_))]])) E.length ?_ ?_
  · exact ⟨(by repeat (first | assumption | exact Ext.refl _ | refine zu ?_ | refine Ext.setF ?_ (by first | assumption | (simp [ze, St.set, zf]; done) | exact zp (by assumption)))), by simp, by simp [ze], by simp [zdT], by simp [zdT], 0, by simp, by omega, by omega, by simp [zz, ze]⟩
  rintro n A τ ⟨hE, a2, a7, a31, a32, i, a33, hi, rfl, hmm⟩ I1 hI1
  by_cases hlt : i < E.length
  · have hx : E[i]? = some E[i] := List.getElem?_eq_getElem hlt
    have w1 : IntKind.i64.wrap ((i : Int) + 1) = ((i + 1 : Nat) : Int) := by rw [zU (by omega) (by omega)]; omega
    have hmo := zi3 _ _ by_ (hends i _ hx)
    have hf : (E.take (i + 1)).foldl (fun b e => zbK b e by_) T.b = zbK ((E.take i).foldl (fun b e => zbK b e by_) T.b) E[i] by_ := by
      rw [List.take_add_one, hx, List.foldl_append]; rfl
    rw [← hf] at hmo
    generalize (E.take i).foldl (fun b e => zbK b e by_) T.b = B at hmo hmm hf
    obtain ⟨B', hB'⟩ : ∃ x, (E.take (i + 1)).foldl (fun b e => zbK b e by_) T.b = x := ⟨_, rfl⟩
    rw [hB'] at hmo
    (try ((first | with_reducible refine zk ?_ | with_reducible refine zm ?_ | with_reducible refine zo ?_); simp [-cellOK, a2, a7, a31, a32, a33, hlt, hx, hmm, w1, zdT, ze8, zfv])); repeat' (first | ((first | refine zd ?_ | refine zh ?_ | refine dN (by decide +kernel) ?_ | refine dC (by decide +kernel) ?_ | refine uP (hmo) ?_ | refine .inl ⟨_, .inl (hmo), ?_⟩ | (refine za ?_ ?_ <;> (intro hg; simp only [hg])) | fail) <;> simp [-cellOK, a2, a7, a31, a32, a33, hlt, hx, hmm, w1, zdT, ze8, zfv]) | refine zg ?_ | refine zc ?_ | (refine zs ?_; simp only [zt]; try simp) | (refine zl (by simp) ?_; simp) | (refine zx (by simp) (by simp [noIds]) (by repeat (first | assumption | exact Ext.refl _ | refine zu ?_ | refine Ext.setF ?_ (by first | assumption | (simp [ze, St.set, zf]; done) | exact zp (by assumption)))) ?_; simp [-cellOK, a2, a7, a31, a32, a33, hlt, hx, hmm, w1, zdT, ze8, zfv, zL]) | (refine zb (fun hc => ?_) (fun hc => ?_) <;> try simp at hc) | fail)
    refine hI1 (E.length - (i + 1)) _ _ (by omega) ⟨Ext.setF hE f29, by simp [a2], by simp [a7], by simp [a31, zdT], by simp [a32], i + 1, by simp, by omega, rfl, ?_⟩
    simp [zA, hmm, hB']
  · have : i = E.length := by omega
    subst this
    rw [List.take_length] at hmm
    generalize E.foldl (fun b e => zbK b e by_) T.b = B at hmm ⊢
    (try ((first | with_reducible refine zk ?_ | with_reducible refine zm ?_ | with_reducible refine zo ?_); simp [-cellOK, a2, a7, a31, a32, a33])); repeat' (first | ((first | refine zd ?_ | refine zh ?_ | refine dN (by decide +kernel) ?_ | refine dC (by decide +kernel) ?_ | (refine za ?_ ?_ <;> (intro hg; simp only [hg])) | fail) <;> simp [-cellOK, a2, a7, a31, a32, a33]) | refine zg ?_ | refine zc ?_ | (refine zs ?_; simp only [zt]; try simp) | (refine zb (fun hc => ?_) (fun hc => ?_) <;> try simp at hc) | fail)
    refine zbk (x := .rp ⟨29, σ.nx 29, 3⟩ 0 0) (.inr rfl) hE ?_ ?_
    · simp
    · simp [zak, zD, f29, hmm]
def zg5 (T : Option Tab) (r : Rg) : Option Tab × Int := if r.hi < r.lo then (none, 51) else if 500 ≤ (T.getD zad).n then (none, 41) else (some ((T.getD zad).with_ r 1), 0)
theorem znD (T : Option Tab) (r : Rg) (h : r.lo ≤ r.hi → (T.getD zad).n < 500 → WithOK (T.getD zad) r 1) : PCalls Tryz.prog 77 [zbn T, zat r] (.tup [zbn (zg5 T r).1, .raw (.int .i64 (zg5 T r).2)]) := by
  have ho := ze7 T
  unfold zg5
  refine zK Tryz.func77 rfl (N := 23) rfl rfl (by simp) (by simp [noIds]) fun σ => ?_
  by_cases q1 : r.hi < r.lo
  · rw [if_pos q1]
    rw [zea] at ho
    (try ((first | with_reducible refine zk ?_ | with_reducible refine zm ?_ | with_reducible refine zo ?_); simp [-cellOK, zT, zb1, q1, zbn])); repeat' (first | ((first | refine zd ?_ | refine zh ?_ | refine dN (by decide +kernel) ?_ | refine dC (by decide +kernel) ?_ | refine uP (ho) ?_ | refine .inl ⟨_, .inl (ho), ?_⟩ | (refine za ?_ ?_ <;> (intro hg; simp only [hg])) | fail) <;> simp [-cellOK, zT, zb1, q1, zbn]) | refine zg ?_ | refine zc ?_ | (refine zs ?_; simp only [zt]; try simp) | (refine zl (by simp) ?_; simp) | (refine zx (by simp) (by simp [noIds]) (by repeat (first | assumption | exact Ext.refl _ | refine zu ?_ | refine Ext.setF ?_ (by first | assumption | (simp [ze, St.set, zf]; done) | exact zp (by assumption)))) ?_; simp [-cellOK, zT, zb1, q1, zbn, zL]) | (refine zb (fun hc => ?_) (fun hc => ?_) <;> try simp at hc) | fail)
  · rw [if_neg q1]
    by_cases q2 : 500 ≤ (T.getD zad).n
    · rw [if_pos q2]
      rw [zea] at ho
      (try ((first | with_reducible refine zk ?_ | with_reducible refine zm ?_ | with_reducible refine zo ?_); simp [-cellOK, zT, zb1, q1, q2, zbn])); repeat' (first | ((first | refine zd ?_ | refine zh ?_ | refine dN (by decide +kernel) ?_ | refine dC (by decide +kernel) ?_ | refine uP (ho) ?_ | refine .inl ⟨_, .inl (ho), ?_⟩ | (refine za ?_ ?_ <;> (intro hg; simp only [hg])) | fail) <;> simp [-cellOK, zT, zb1, q1, q2, zbn]) | refine zg ?_ | refine zc ?_ | (refine zs ?_; simp only [zt]; try simp) | (refine zl (by simp) ?_; simp) | (refine zx (by simp) (by simp [noIds]) (by repeat (first | assumption | exact Ext.refl _ | refine zu ?_ | refine Ext.setF ?_ (by first | assumption | (simp [ze, St.set, zf]; done) | exact zp (by assumption)))) ?_; simp [-cellOK, zT, zb1, q1, q2, zbn, zL]) | (refine zb (fun hc => ?_) (fun hc => ?_) <;> try simp at hc) | fail)
    · rw [if_neg q2]
      have hw := zmR (T.getD zad) r 1 (h (by omega) (by omega))
      generalize (T.getD zad).with_ r 1 = U at hw ⊢
      rw [zea (T.getD zad)] at ho hw
      (try ((first | with_reducible refine zk ?_ | with_reducible refine zm ?_ | with_reducible refine zo ?_); simp [-cellOK, zT, zb1, q1, q2, zbn])); repeat' (first | ((first | refine zd ?_ | refine zh ?_ | refine dN (by decide +kernel) ?_ | refine dC (by decide +kernel) ?_ | refine uP (ho) ?_ | refine .inl ⟨_, .inl (ho), ?_⟩ | refine uP (hw) ?_ | refine .inl ⟨_, .inl (hw), ?_⟩ | (refine za ?_ ?_ <;> (intro hg; simp only [hg])) | fail) <;> simp [-cellOK, zT, zb1, q1, q2, zbn]) | refine zg ?_ | refine zc ?_ | (refine zs ?_; simp only [zt]; try simp) | (refine zl (by simp) ?_; simp) | (refine zx (by simp) (by simp [noIds]) (by repeat (first | assumption | exact Ext.refl _ | refine zu ?_ | refine Ext.setF ?_ (by first | assumption | (simp [ze, St.set, zf]; done) | exact zp (by assumption)))) ?_; simp [-cellOK, zT, zb1, q1, q2, zbn, zL]) | (refine zb (fun hc => ?_) (fun hc => ?_) <;> try simp at hc) | fail)
def ztd (T : Option Tab) (r : Rg) : Int := ((T.getD zad).g.get (zcR r)).getD 0
def zrN (T : Option Tab) (r : Rg) : Option Tab × Int := if ztd T r = 0 then (none, 51) else (some ((T.getD zad).with_ r (-1)), 0)
def zgo (T : Option Tab) (i : Int) : Option Rg := ((T.getD zad).b.atI i).map fun p => ⟨IntKind.u32.wrap p.1, IntKind.u32.wrap (match (T.getD zad).b.atI (i + 1) with | some q => IntKind.u64.wrap (q.1 - 1) | none => 4294967295)⟩
theorem zmS (T : Option Tab) (i : Int) (hz : (T.getD zad).b.sz < 2 ^ 40) : PCalls Tryz.prog 107 [zbn T, .raw (.int .i64 i)] (.tup [zat ((zgo T i).getD ⟨0, 0⟩), .raw (.bool (zgo T i).isSome)]) := by
  have ho := ze7 T
  have h1 := zi2 (T.getD zad).b i (by omega)
  have h2 := zi2 (T.getD zad).b (i + 1) (by omega)
  rw [zea] at ho
  unfold zgo
  have hrp : ∀ x y : Int, setPart (AV.agg [.raw (.int .u32 0), .raw (.int .u32 0)]) 0 [.raw (.int .u32 x), .raw (.int .u32 y)] = zat ⟨x, y⟩ := fun _ _ => rfl
  have hrf : ∀ x y : Int, AV.agg [.raw (.int .u32 x), .raw (.int .u32 y)] = zat ⟨x, y⟩ := fun _ _ => rfl
  have hrq : ∀ x y : Int, setPart (zat ⟨0, 0⟩) 0 [.raw (.int .u32 x), .raw (.int .u32 y)] = zat ⟨x, y⟩ := fun _ _ => rfl
  refine zK Tryz.func107 rfl (N := 43) rfl rfl (by simp) (by simp [noIds]) fun σ => ?_
  cases hq : (T.getD zad).b.atI i with
  | none =>
    rw [hq] at h1
    (try ((first | with_reducible refine zk ?_ | with_reducible refine zm ?_ | with_reducible refine zo ?_); simp [-cellOK, zT, hrf, hrq, hrp, zI, zJ, zaM, zaI, zbn])); repeat' (first | ((first | refine zd ?_ | refine zh ?_ | refine dN (by decide +kernel) ?_ | refine dC (by decide +kernel) ?_ | refine uP (ho) ?_ | refine .inl ⟨_, .inl (ho), ?_⟩ | refine uP (h1) ?_ | refine .inl ⟨_, .inl (h1), ?_⟩ | (refine za ?_ ?_ <;> (intro hg; simp only [hg])) | fail) <;> simp [-cellOK, zT, hrf, hrq, hrp, zI, zJ, zaM, zaI, zbn]) | refine zg ?_ | refine zc ?_ | (refine zs ?_; simp only [zt]; try simp) | (refine zl (by simp) ?_; simp) | (refine zx (by simp) (by simp [noIds]) (by repeat (first | assumption | exact Ext.refl _ | refine zu ?_ | refine Ext.setF ?_ (by first | assumption | (simp [ze, St.set, zf]; done) | exact zp (by assumption)))) ?_; simp [-cellOK, zT, hrf, hrq, hrp, zI, zJ, zaM, zaI, zbn, zL]) | (refine zb (fun hc => ?_) (fun hc => ?_) <;> try simp at hc) | fail)
  | some p =>
    rw [hq] at h1
    have hi : 0 ≤ i ∧ i < (T.getD zad).b.sz := by
      unfold Tr.atI at hq
      split at hq
      · rename_i h0
        refine ⟨h0, ?_⟩
        apply Classical.byContradiction
        intro hn
        rw [Tr.at_none _ _ (by omega)] at hq; cases hq
      · cases hq
    have w := zU (n := i + 1) (by omega) (by omega)
    cases hq2 : (T.getD zad).b.atI (i + 1) with
    | none =>
      rw [hq2] at h2
      (try ((first | with_reducible refine zk ?_ | with_reducible refine zm ?_ | with_reducible refine zo ?_); simp [-cellOK, zT, hrf, hrq, hrp, zI, zJ, zaM, zaI, zbn, w])); repeat' (first | ((first | refine zd ?_ | refine zh ?_ | refine dN (by decide +kernel) ?_ | refine dC (by decide +kernel) ?_ | refine uP (ho) ?_ | refine .inl ⟨_, .inl (ho), ?_⟩ | refine uP (h1) ?_ | refine .inl ⟨_, .inl (h1), ?_⟩ | refine uP (h2) ?_ | refine .inl ⟨_, .inl (h2), ?_⟩ | (refine za ?_ ?_ <;> (intro hg; simp only [hg])) | fail) <;> simp [-cellOK, zT, hrf, hrq, hrp, zI, zJ, zaM, zaI, zbn, w]) | refine zg ?_ | refine zc ?_ | (refine zs ?_; simp only [zt]; try simp) | (refine zl (by simp) ?_; simp) | (refine zx (by simp) (by simp [noIds]) (by repeat (first | assumption | exact Ext.refl _ | refine zu ?_ | refine Ext.setF ?_ (by first | assumption | (simp [ze, St.set, zf]; done) | exact zp (by assumption)))) ?_; simp [-cellOK, zT, hrf, hrq, hrp, zI, zJ, zaM, zaI, zbn, w, zL]) | (refine zb (fun hc => ?_) (fun hc => ?_) <;> try simp at hc) | fail)
    | some q =>
      rw [hq2] at h2
      (try ((first | with_reducible refine zk ?_ | with_reducible refine zm ?_ | with_reducible refine zo ?_); simp [-cellOK, zT, hrf, hrq, hrp, zI, zJ, zaM, zaI, zbn, w])); repeat' (first | ((first | refine zd ?_ | refine zh ?_ | refine dN (by decide +kernel) ?_ | refine dC (by decide +kernel) ?_ | refine uP (ho) ?_ | refine .inl ⟨_, .inl (ho), ?_⟩ | refine uP (h1) ?_ | refine .inl ⟨_, .inl (h1), ?_⟩ | refine uP (h2) ?_ | refine .inl ⟨_, .inl (h2), ?_⟩ | (refine za ?_ ?_ <;> (intro hg; simp only [hg])) | fail) <;> simp [-cellOK, zT, hrf, hrq, hrp, zI, zJ, zaM, zaI, zbn, w]) | refine zg ?_ | refine zc ?_ | (refine zs ?_; simp only [zt]; try simp) | (refine zl (by simp) ?_; simp) | (refine zx (by simp) (by simp [noIds]) (by repeat (first | assumption | exact Ext.refl _ | refine zu ?_ | refine Ext.setF ?_ (by first | assumption | (simp [ze, St.set, zf]; done) | exact zp (by assumption)))) ?_; simp [-cellOK, zT, hrf, hrq, hrp, zI, zJ, zaM, zaI, zbn, w, zL]) | (refine zb (fun hc => ?_) (fun hc => ?_) <;> try simp at hc) | fail)
def zez (T : Tab) (b : Int) : Int := (T.b.cut b).1.sz
theorem zl4 (T : Tab) (b : Int) (hz : T.b.sz < 2 ^ 40) : PCalls Tryz.prog 155 [zdk T, .raw (.int .u64 b)] (.raw (.int .i64 (zez T b))) := by
  have hs := zkm T.b b (by omega)
  have hl := zbx (T.b.cut b).1
  unfold zez
  generalize (T.b.cut b).1 = U at hs hl ⊢
  generalize (T.b.cut b).2 = V at hs
  rw [zea]
  refine zK Tryz.func155 rfl (N := 18) rfl rfl (by simp) (by simp [noIds]) fun σ => ?_
  (try ((first | with_reducible refine zk ?_ | with_reducible refine zm ?_ | with_reducible refine zo ?_); simp [-cellOK])); repeat' (first | ((first | refine zd ?_ | refine zh ?_ | refine dN (by decide +kernel) ?_ | refine dC (by decide +kernel) ?_ | refine uP (hs) ?_ | refine .inl ⟨_, .inl (hs), ?_⟩ | refine uP (hl) ?_ | refine .inl ⟨_, .inl (hl), ?_⟩ | (refine za ?_ ?_ <;> (intro hg; simp only [hg])) | fail) <;> simp [-cellOK]) | refine zg ?_ | refine zc ?_ | (refine zs ?_; simp only [zt]; try simp) | (refine zl (by simp) ?_; simp) | (refine zx (by simp) (by simp [noIds]) (by repeat (first | assumption | exact Ext.refl _ | refine zu ?_ | refine Ext.setF ?_ (by first | assumption | (simp [ze, St.set, zf]; done) | exact zp (by assumption)))) ?_; simp [-cellOK, zL]) | (refine zb (fun hc => ?_) (fun hc => ?_) <;> try simp at hc) | fail)
def ofT (T : Option Tab) (a : Int) : Int := zez (T.getD zad) (a + 1) - 1
theorem zhS (T : Option Tab) (a : Int) (h0 : 0 ≤ a) (h1 : a < 4294967296) (hz : (T.getD zad).b.sz < 2 ^ 40) : PCalls Tryz.prog 106 [zbn T, .raw (.int .u32 a)] (.raw (.int .i64 (ofT T a))) := by
  have ho := ze7 T
  have hp := zl4 (T.getD zad) (a + 1) hz
  have hpn : 0 ≤ zez (T.getD zad) (a + 1) := Tr.sz_nn _
  have hpz : zez (T.getD zad) (a + 1) < 2 ^ 40 := by
    have := Tr.cut_sz (a + 1) (T.getD zad).b
    have h2 := ((T.getD zad).b.cut (a + 1)).2.sz_nn
    unfold zez; omega
  unfold ofT
  generalize zez (T.getD zad) (a + 1) = x at *
  have w1 : IntKind.u64.wrap a = a := zcO (by omega) (by omega)
  have w2 : IntKind.u64.wrap (a + 1) = a + 1 := zcO (by omega) (by omega)
  have w3 := zU (n := x - 1) (by omega) (by omega)
  refine zK Tryz.func106 rfl (N := 12) rfl rfl (by simp) (by simp [noIds]) fun σ => ?_
  (try ((first | with_reducible refine zk ?_ | with_reducible refine zm ?_ | with_reducible refine zo ?_); simp [-cellOK, w1, w2, w3])); repeat' (first | ((first | refine zd ?_ | refine zh ?_ | refine dN (by decide +kernel) ?_ | refine dC (by decide +kernel) ?_ | refine uP (ho) ?_ | refine .inl ⟨_, .inl (ho), ?_⟩ | refine uP (hp) ?_ | refine .inl ⟨_, .inl (hp), ?_⟩ | (refine za ?_ ?_ <;> (intro hg; simp only [hg])) | fail) <;> simp [-cellOK, w1, w2, w3]) | refine zg ?_ | refine zc ?_ | (refine zs ?_; simp only [zt]; try simp) | (refine zl (by simp) ?_; simp) | (refine zx (by simp) (by simp [noIds]) (by repeat (first | assumption | exact Ext.refl _ | refine zu ?_ | refine Ext.setF ?_ (by first | assumption | (simp [ze, St.set, zf]; done) | exact zp (by assumption)))) ?_; simp [-cellOK, w1, w2, w3, zL]) | (refine zb (fun hc => ?_) (fun hc => ?_) <;> try simp at hc) | fail)
end Go.Proofs.YtanimmdlgmkmkaaGreat.Av
namespace Go.Proofs.YtanimmdlgmkmkaaGreat.Av
set_option linter.unusedSimpArgs false
set_option linter.unusedVariables false
theorem zeb {α : Type} [DecidableEq α] : ∀ {l m : List α}, l.Nodup → (∀ x ∈ l, x ∈ m) → l.length ≤ m.length
  | [], _, _, _ => by simp
  | a :: l, m, h, hs => by
    have h' := List.nodup_cons.1 h
    have := zeb (m := m.erase a) h'.2 fun x hx => by
      have hne : x ≠ a := fun e => h'.1 (e ▸ hx)
      exact (List.mem_erase_of_ne hne).2 (hs x (by simp [hx]))
    have hl := List.length_erase_of_mem (hs a (by simp))
    have hpos : 0 < m.length := List.length_pos_of_mem (hs a (by simp))
    simp only [List.length_cons]
    omega
def zeA (n : Nat) : Option Int := if n = 0 then none else some n
theorem znF (n : Nat) : (zeA n).getD 0 = n := by
  unfold zeA
  split
  · rename_i h; subst h; rfl
  · rfl
theorem znG (n : Nat) : zeA n = none ↔ n = 0 := by
  unfold zeA
  split
  · rename_i h; simp [h]
  · rename_i h; simp [h]
structure KeyRep (t : Tr) (l : List Int) : Prop where
  srt : Tr.Srt t.toL
  get : ∀ k, t.get k = zeA (l.count k)
theorem KeyRep.mem {t : Tr} {l : List Int} (h : KeyRep t l) (k : Int) : k ∈ t.toL.map (·.1) ↔ k ∈ l := by
  have := Tr.get_none h.srt k
  rw [h.get, znG, List.count_eq_zero] at this
  constructor
  · intro hk
    apply Classical.byContradiction
    intro hn
    exact this.1 hn hk
  · intro hk
    apply Classical.byContradiction
    intro hn
    exact this.2 hn hk
theorem Tr.Srt.nodup {l : List (Int × Int)} (h : Tr.Srt l) : (l.map (·.1)).Nodup := by
  unfold Tr.Srt at h
  unfold List.Nodup
  rw [List.pairwise_map]
  exact h.imp fun hab => by omega
theorem KeyRep.sz {t : Tr} {l : List Int} (h : KeyRep t l) : t.sz ≤ l.length := by
  have := zeb h.srt.nodup fun x hx => (h.mem x).1 hx
  rw [Tr.sz_toL]
  simp at this
  omega
theorem KeyRep.perm {t : Tr} {l m : List Int} (h : KeyRep t l) (p : l.Perm m) : KeyRep t m := ⟨h.srt, fun k => by rw [h.get, p.count_eq]⟩
theorem KeyRep.more {t : Tr} {l : List Int} (h : KeyRep t l) (k : Int) (hl : l.length < 1024) : MoreOK t k 1 ∧ KeyRep (zbK t k 1) (k :: l) := by
  have hs := h.sz
  have hc := List.count_le_length (a := k) (l := l)
  have hg : (t.get k).getD 0 = (l.count k : Nat) := by rw [h.get, znF]
  have hne : ¬ (t.get k).getD 0 + 1 = 0 := by omega
  refine ⟨⟨by omega, by omega, by omega, fun e => absurd e hne, fun _ => by omega⟩, ?_⟩
  unfold zbK
  rw [if_neg hne]
  refine ⟨by rw [Tr.with_toL t _ _ h.srt]; exact Tr.put_srt h.srt _ _, fun k2 => ?_⟩
  rw [Tr.get_with h.srt, List.count_cons, hg]
  by_cases e : k2 = k
  · subst e
    rw [if_pos rfl]
    unfold zeA
    simp
  · rw [if_neg e, h.get]
    have : (k == k2) = false := by simp; omega
    simp [this]
theorem Tr.get_without {t : Tr} (h : Tr.Srt t.toL) (k k2 : Int) : (t.without k).get k2 = if k2 = k then none else t.get k2 := by
  have hs : Tr.Srt (t.without k).toL := by rw [Tr.without_toL t k h]; exact h.filter _
  rw [Tr.get_eq _ _ hs, Tr.without_toL t k h, Tr.get_eq _ _ h, List.find?_filter]
  by_cases e : k2 = k
  · subst e
    rw [if_pos rfl]
    have : t.toL.find? (fun a => decide ((!decide (a.1 = k2)) = true ∧ decide (a.1 = k2) = true)) = none := List.find?_eq_none.2 fun e he => by simp
    rw [this]; rfl
  · rw [if_neg e]
    congr 2
    funext a
    by_cases q : a.1 = k2
    · have : ¬ a.1 = k := by omega
      simp [q]; omega
    · simp [q]
theorem KeyRep.less {t : Tr} {l : List Int} {k : Int} (h : KeyRep t (k :: l)) (hl : l.length < 2 ^ 30) : MoreOK t k (-1) ∧ KeyRep (zbK t k (-1)) l := by
  have hs := h.sz
  have hc := List.count_le_length (a := k) (l := l)
  have hg0 : t.get k = some ((l.count k : Nat) + 1) := by
    rw [h.get, List.count_cons_self]; unfold zeA; simp
  have hg : (t.get k).getD 0 = (l.count k : Nat) + 1 := by rw [hg0]; rfl
  simp only [List.length_cons] at hs
  refine ⟨⟨by omega, by omega, by omega, fun _ => by simp [hg0], fun e => by simp [hg0] at e⟩, ?_⟩
  unfold zbK
  rw [hg]
  split
  · rename_i h0
    refine ⟨by rw [Tr.without_toL t k h.srt]; exact h.srt.filter _, fun k2 => ?_⟩
    rw [Tr.get_without h.srt, h.get, List.count_cons]
    by_cases e : k2 = k
    · subst e
      rw [if_pos rfl]
      have : l.count k2 = 0 := by omega
      rw [this]; rfl
    · rw [if_neg e]
      have : (k == k2) = false := by simp; omega
      simp [this]
  · rename_i h0
    refine ⟨by rw [Tr.with_toL t _ _ h.srt]; exact Tr.put_srt h.srt _ _, fun k2 => ?_⟩
    rw [Tr.get_with h.srt, h.get, List.count_cons]
    by_cases e : k2 = k
    · subst e
      rw [if_pos rfl]
      have : ¬ l.count k2 = 0 := by omega
      unfold zeA
      rw [if_neg this]
      congr 1; omega
    · rw [if_neg e]
      have : (k == k2) = false := by simp; omega
      simp [this]
def zcT (L : List Rg) : List Int := L.flatMap zci
structure TabRep (T : Tab) (L : List Rg) : Prop where
  b : KeyRep T.b (0 :: zcT L)
  g : KeyRep T.g (L.map zcR)
  n : T.n = L.length
  ok : ∀ r ∈ L, RgOK r
theorem zmh : TabRep zad [] where
  b := ⟨by simp [zad, Tr.toL, Tr.Srt], fun k => by
    simp only [zad, Tr.get, zcT, List.flatMap_nil]
    by_cases h1 : k < 0
    · have : ((0 : Int) == k) = false := by simp; omega
      simp [h1, List.count_cons, this, zeA]
    · by_cases h2 : 0 < k
      · have : ((0 : Int) == k) = false := by simp; omega
        simp [h1, h2, List.count_cons, this, zeA]
      · have : k = 0 := by omega
        subst this; simp [zeA]⟩
  g := ⟨by simp [zad, Tr.toL, Tr.Srt], fun k => by simp [zad, Tr.get, zeA]⟩
  n := rfl
  ok := by simp
theorem zj0 (r : Rg) : (zci r).length ≤ 2 := by unfold zci; split <;> simp
theorem zg6 (L : List Rg) : (zcT L).length ≤ 2 * L.length := by
  induction L with
  | nil => simp [zcT]
  | cons r L ih =>
    have := zj0 r
    simp only [zcT, List.flatMap_cons, List.length_append, List.length_cons] at ih ⊢
    omega
theorem zj1 : ∀ (E : List Int) {t : Tr} {l : List Int}, KeyRep t l → l.length + E.length < 1024 →
    KeyRep (E.foldl (fun b e => zbK b e 1) t) (E ++ l) ∧ ∀ (i : Nat) (e : Int), E[i]? = some e → MoreOK ((E.take i).foldl (fun b e => zbK b e 1) t) e 1
  | [], t, l, h, _ => ⟨h, fun i e he => by simp at he⟩
  | x :: E, t, l, h, hl => by
    simp only [List.length_cons] at hl
    obtain ⟨h1, h2⟩ := h.more x (by omega)
    obtain ⟨h3, h4⟩ := zj1 E h2 (by simp only [List.length_cons]; omega)
    refine ⟨h3.perm ?_, fun i e he => ?_⟩
    · exact List.perm_middle
    · cases i with
      | zero => simp only [List.getElem?_cons_zero, Option.some.injEq] at he; subst he; exact h1
      | succ i => exact h4 i e (by simpa using he)
theorem zmi {T : Tab} {L : List Rg} (h : TabRep T L) {r : Rg} (hr : RgOK r) (hl : L.length < 500) : WithOK T r 1 ∧ TabRep (T.with_ r 1) (r :: L) := by
  have he := zg6 L
  have hr2 := zj0 r
  obtain ⟨g1, g2⟩ := h.g.more (zcR r) (by simp only [List.length_map]; omega)
  obtain ⟨b1, b2⟩ := zj1 (zci r) h.b (by simp only [List.length_cons]; omega)
  have hn := h.n
  refine ⟨⟨hr, by omega, by omega, g1, b2⟩, ⟨?_, g2, ?_, ?_⟩⟩
  · refine b1.perm ?_
    simp only [zcT, List.flatMap_cons]
    exact List.perm_middle
  · show T.n + 1 = _
    simp only [List.length_cons]; omega
  · intro x hx
    rcases List.mem_cons.1 hx with rfl | hx
    · exact hr
    · exact h.ok x hx
theorem TabRep.perm {T : Tab} {L M : List Rg} (h : TabRep T L) (p : L.Perm M) : TabRep T M where
  b := h.b.perm ((p.flatMap_right zci).cons 0)
  g := h.g.perm (p.map zcR)
  n := by rw [h.n, p.length_eq]
  ok := fun r hr => h.ok r (p.mem_iff.2 hr)
structure Cuts (c : List Int) (L : List Rg) : Prop where
  srt : c.Pairwise (· < ·)
  mem : ∀ x, x ∈ c ↔ x = 0 ∨ ∃ r ∈ L, x ∈ zci r
theorem zeo : ∀ {c d : List Int}, c.Pairwise (· < ·) → d.Pairwise (· < ·) → (∀ x, x ∈ c ↔ x ∈ d) → c = d
  | [], [], _, _, _ => rfl
  | [], y :: d, _, _, h => by have := (h y).2 (by simp); simp at this
  | x :: c, [], _, _, h => by have := (h x).1 (by simp); simp at this
  | x :: c, y :: d, hc, hd, h => by
    obtain ⟨h1, h2⟩ := List.pairwise_cons.1 hc
    obtain ⟨h3, h4⟩ := List.pairwise_cons.1 hd
    have hxy : x = y := by
      rcases List.mem_cons.1 ((h x).1 (by simp)) with e | e
      · exact e
      · rcases List.mem_cons.1 ((h y).2 (by simp)) with e2 | e2
        · exact e2.symm
        · have := h1 y e2; have := h3 x e; omega
    subst hxy
    congr 1
    refine zeo h2 h4 fun z => ?_
    constructor
    · intro hz
      rcases List.mem_cons.1 ((h z).1 (by simp [hz])) with e | e
      · subst e; have := h1 z hz; omega
      · exact e
    · intro hz
      rcases List.mem_cons.1 ((h z).2 (by simp [hz])) with e | e
      · subst e; have := h3 z hz; omega
      · exact e
def zep (T : Tab) : List Int := T.b.toL.map (·.1)
theorem zid {T : Tab} {L : List Rg} (h : TabRep T L) : Cuts (zep T) L where
  srt := by
    have := h.b.srt
    unfold zep
    rw [List.pairwise_map]
    exact this
  mem := fun x => by
    unfold zep
    rw [h.b.mem, List.mem_cons]
    simp only [zcT, List.mem_flatMap]
theorem znH {r : Rg} (hr : RgOK r) {x : Int} (hx : x ∈ zci r) : 0 ≤ x ∧ x < 4294967296 := by
  obtain ⟨a1, a2, a3, a4⟩ := hr
  unfold zci at hx
  split at hx
  · simp only [List.mem_cons, List.not_mem_nil, or_false] at hx; omega
  · simp only [List.mem_cons, List.not_mem_nil, or_false] at hx; omega
theorem Cuts.range {c : List Int} {L : List Rg} (h : Cuts c L) (ok : ∀ r ∈ L, RgOK r) {x : Int} (hx : x ∈ c) : 0 ≤ x ∧ x < 4294967296 := by
  rcases (h.mem x).1 hx with rfl | ⟨r, hr, hx⟩
  · omega
  · exact znH (ok r hr) hx
def zbc : List Int → List Rg
  | [] => []
  | [x] => [⟨x, 4294967295⟩]
  | x :: y :: l => ⟨x, y - 1⟩ :: zbc (y :: l)
theorem zdd : ∀ c : List Int, (zbc c).length = c.length
  | [] => rfl
  | [x] => rfl
  | x :: y :: l => by simp only [zbc, List.length_cons, zdd (y :: l)]
theorem zdU : ∀ (c : List Int) (i : Nat), (zbc c)[i]? = (c[i]?).map fun x => ⟨x, match c[i + 1]? with | some y => y - 1 | none => 4294967295⟩
  | [], i => by simp [zbc]
  | [x], 0 => by simp [zbc]
  | [x], i + 1 => by simp [zbc]
  | x :: y :: l, 0 => by simp [zbc]
  | x :: y :: l, i + 1 => by simp only [zbc, List.getElem?_cons_succ, zdU (y :: l) i]
def zby (r a : Rg) : Option Rg := if max a.lo r.lo ≤ min a.hi r.hi then some ⟨max a.lo r.lo, min a.hi r.hi⟩ else none
def zfw (c : List Int) (r : Rg) : List Rg := (zbc c).filterMap (zby r)
theorem zgp {c : List Int} (h : c.Pairwise (· < ·)) (a : Int) : ∀ (i : Nat) (x : Int), c[i]? = some x → (x ≤ a ↔ i < c.countP fun y => decide (y ≤ a)) := by
  induction c with
  | nil => intro i x hx; simp at hx
  | cons y c ih =>
    obtain ⟨h1, h2⟩ := List.pairwise_cons.1 h
    intro i x hx
    cases i with
    | zero =>
      simp only [List.getElem?_cons_zero, Option.some.injEq] at hx
      subst hx
      rw [List.countP_cons]
      by_cases q : y ≤ a
      · simp [q]
      · have : c.countP (fun y => decide (y ≤ a)) = 0 := List.countP_eq_zero.2 fun z hz => by have := h1 z hz; simp; omega
        simp [q, this]
    | succ i =>
      simp only [List.getElem?_cons_succ] at hx
      have := ih h2 i x hx
      rw [List.countP_cons]
      by_cases q : y ≤ a
      · simp only [q, decide_true, if_true]; rw [this]; omega
      · have h3 := h1 x (List.mem_of_getElem? hx)
        have : c.countP (fun y => decide (y ≤ a)) = 0 := List.countP_eq_zero.2 fun z hz => by have := h1 z hz; simp; omega
        rw [this]
        simp only [q, decide_false, Bool.false_eq_true, if_false]
        omega
end Go.Proofs.YtanimmdlgmkmkaaGreat.Av
namespace Go.Proofs.YtanimmdlgmkmkaaGreat.Av
set_option linter.unusedSimpArgs false
set_option linter.unusedVariables false
def zbt (n : Nw) (p : Pt) : Int := ((zb8 n.t p).getD ⟨0, 0⟩).dev
def zdr (n : Nw) (a : Int) : Nat → Int → List Int → Tk
  | 0, _, p => ⟨p, 4, ⟨0, 0⟩⟩
  | f + 1, d, p => if d ∈ p then ⟨p ++ [d], 4, ⟨0, 0⟩⟩ else if (zZ n d a).1 = 4 then zdr n a f (zbt n (zZ n d a).2) (p ++ [d]) else ⟨p ++ [d], (zZ n d a).1, (zZ n d a).2⟩
def zfh (n : Nw) (d : Int) : List Int := d :: n.t.links.flatMap fun l => [l.a.dev, l.b.dev]
theorem znI (n : Nw) (d : Int) : (zfh n d).length = 1 + 2 * n.t.links.length := by
  unfold zfh
  generalize n.t.links = L
  induction L with
  | nil => rfl
  | cons l L ih => simp only [List.flatMap_cons, List.length_cons, List.length_append, List.length_nil] at ih ⊢; omega
def zaa (n : Nw) (d a : Int) : Tk := zdr n a (2 + 2 * n.t.links.length) d []
theorem zmT (L : List Lk) : ∀ e ∈ zb7 L, ∃ l ∈ L, e.2 = l.a ∨ e.2 = l.b := by
  have : ∀ (L M : List Lk) (m : List (Pt × Pt)), (∀ e ∈ m, ∃ l ∈ M, e.2 = l.a ∨ e.2 = l.b) → ∀ e ∈ L.foldl (fun m l => upd (upd m l.a l.b) l.b l.a) m, ∃ l ∈ M ++ L, e.2 = l.a ∨ e.2 = l.b := by
    intro L
    induction L with
    | nil => intro M m h e he; simpa using h e he
    | cons l L ih =>
      intro M m h e he
      rw [List.foldl_cons] at he
      have := ih (M ++ [l]) (upd (upd m l.a l.b) l.b l.a) ?_ e he
      · simpa using this
      · intro e he
        unfold upd at he
        rcases List.mem_append.1 he with he | he
        · rcases List.mem_append.1 (List.mem_filter.1 he).1 with he | he
          · obtain ⟨k, hk, h2⟩ := h e (List.mem_filter.1 he).1
            exact ⟨k, by simp [hk], h2⟩
          · simp only [List.mem_singleton] at he; subst he
            exact ⟨l, by simp, .inr rfl⟩
        · simp only [List.mem_singleton] at he; subst he
          exact ⟨l, by simp, .inl rfl⟩
  have := this L [] [] (by simp)
  rw [List.nil_append] at this
  exact this
theorem zl5 {n : Nw} {p : Pt} {d : Int} (h : (zb8 n.t p).isSome = true) : zbt n p ∈ zfh n d := by
  unfold zbt
  obtain ⟨q, hq⟩ := Option.isSome_iff_exists.1 h
  rw [hq]
  unfold zb8 at hq
  rw [Option.map_eq_some_iff] at hq
  obtain ⟨e, he, rfl⟩ := hq
  obtain ⟨l, hl, h2⟩ := zmT _ e (List.mem_of_find?_eq_some he)
  unfold zfh
  rw [List.mem_cons, List.mem_flatMap]
  right
  refine ⟨l, hl, ?_⟩
  rcases h2 with h2 | h2 <;> simp [h2]
theorem znJ {n : Nw} {d a : Int} (h : (zZ n d a).1 = 4) : (zb8 n.t (zZ n d a).2).isSome = true := by
  unfold zZ at *
  repeat' split at h
  all_goals first | (simp at h; done) | skip
  rename_i h1 h2 h3 h4
  simp [h1, h2, h3, h4]
structure Way (n : Nw) (a d0 : Int) (d : Int) (p : List Int) : Prop where
  nd : p.Nodup
  sub : ∀ x ∈ p, x ∈ zfh n d0
  at_ : d ∈ zfh n d0
  res : zdr n a (2 + 2 * n.t.links.length - p.length) d p = zaa n d0 a
theorem Way.len {n : Nw} {a d0 d : Int} {p : List Int} (h : Way n a d0 d p) : p.length ≤ 1 + 2 * n.t.links.length := by
  have := zeb h.nd h.sub
  rwa [znI] at this
theorem Way.start (n : Nw) (a d0 : Int) : Way n a d0 d0 [] := ⟨by simp, by simp, by simp [zfh], rfl⟩
theorem Way.again {n : Nw} {a d0 d : Int} {p : List Int} (h : Way n a d0 d p) (hd : d ∈ p) : zaa n d0 a = ⟨p ++ [d], 4, ⟨0, 0⟩⟩ := by
  have hl := h.len
  have hr := h.res
  rw [show 2 + 2 * n.t.links.length - p.length = (1 + 2 * n.t.links.length - p.length) + 1 by omega, zdr, if_pos hd] at hr
  exact hr.symm
theorem Way.fin {n : Nw} {a d0 d : Int} {p : List Int} (h : Way n a d0 d p) (hd : d ∉ p) (hs : (zZ n d a).1 ≠ 4) : zaa n d0 a = ⟨p ++ [d], (zZ n d a).1, (zZ n d a).2⟩ := by
  have hl := h.len
  have hr := h.res
  rw [show 2 + 2 * n.t.links.length - p.length = (1 + 2 * n.t.links.length - p.length) + 1 by omega, zdr, if_neg hd, if_neg hs] at hr
  exact hr.symm
theorem Way.on {n : Nw} {a d0 d : Int} {p : List Int} (h : Way n a d0 d p) (hd : d ∉ p) (hs : (zZ n d a).1 = 4) : Way n a d0 (zbt n (zZ n d a).2) (p ++ [d]) := by
  have hl := h.len
  have hr := h.res
  rw [show 2 + 2 * n.t.links.length - p.length = (1 + 2 * n.t.links.length - p.length) + 1 by omega, zdr, if_neg hd, if_pos hs] at hr
  refine ⟨?_, ?_, zl5 (znJ hs), ?_⟩
  · rw [List.nodup_append]
    refine ⟨h.nd, by simp, fun x hx y hy e => ?_⟩
    simp only [List.mem_singleton] at hy
    subst hy; subst e; exact hd hx
  · intro x hx
    rcases List.mem_append.1 hx with hx | hx
    · exact h.sub x hx
    · simp only [List.mem_singleton] at hx; subst hx; exact h.at_
  · rw [List.length_append, List.length_singleton, ← hr]
    congr 1; omega
end Go.Proofs.YtanimmdlgmkmkaaGreat.Av
namespace Go.Proofs.YtanimmdlgmkmkaaGreat.Av
set_option linter.unusedSimpArgs false
set_option linter.unusedVariables false
def zgq (x : Int) : List Int → List Int
  | [] => [x]
  | y :: l => if x < y then x :: y :: l else if y < x then y :: zgq x l else y :: l
theorem zie (x z : Int) : ∀ l : List Int, z ∈ zgq x l ↔ z = x ∨ z ∈ l
  | [] => by simp [zgq]
  | y :: l => by
    simp only [zgq]
    split
    · simp
    · split
      · simp only [List.mem_cons, zie x z l]
        constructor
        · rintro (h | h | h)
          · exact .inr (.inl h)
          · exact .inl h
          · exact .inr (.inr h)
        · rintro (h | h | h)
          · exact .inr (.inl h)
          · exact .inl h
          · exact .inr (.inr h)
      · have : x = y := by omega
        subst this; simp
theorem zle (x : Int) : ∀ l : List Int, l.Pairwise (· < ·) → (zgq x l).Pairwise (· < ·)
  | [], _ => by simp [zgq]
  | y :: l, h => by
    obtain ⟨h1, h2⟩ := List.pairwise_cons.1 h
    simp only [zgq]
    split
    · rename_i hx
      refine List.pairwise_cons.2 ⟨fun z hz => ?_, h⟩
      rcases List.mem_cons.1 hz with rfl | hz
      · exact hx
      · have := h1 z hz; omega
    · split
      · rename_i hx
        refine List.pairwise_cons.2 ⟨fun z hz => ?_, zle x l h2⟩
        rcases (zie x z l).1 hz with rfl | hz
        · exact hx
        · exact h1 z hz
      · exact h
def zaZ (L : List Rg) : List Int := (0 :: zcT L).foldr zgq []
theorem zbo (L : List Rg) : Cuts (zaZ L) L where
  srt := by
    unfold zaZ
    generalize 0 :: zcT L = l
    induction l with
    | nil => simp
    | cons x l ih => exact zle x _ ih
  mem := fun x => by
    have : ∀ l : List Int, x ∈ l.foldr zgq [] ↔ x ∈ l := fun l => by
      induction l with
      | nil => simp
      | cons y l ih => rw [List.foldr_cons, zie, ih, List.mem_cons]
    unfold zaZ
    rw [this, List.mem_cons]
    simp only [zcT, List.mem_flatMap]
theorem Cuts.eq {c : List Int} {L : List Rg} (h : Cuts c L) : c = zaZ L := zeo h.srt (zbo L).srt fun x => by rw [h.mem, (zbo L).mem]
theorem zl6 {c : List Int} {a b : Int} (h : a ≤ b) : c.countP (fun y => decide (y ≤ a)) ≤ c.countP (fun y => decide (y ≤ b)) := by
  induction c with
  | nil => simp
  | cons y c ih =>
    simp only [List.countP_cons]
    by_cases q : y ≤ a
    · have : y ≤ b := by omega
      simp [q, this]; exact ih
    · by_cases q2 : y ≤ b
      · simp [q, q2]; omega
      · simp [q, q2]; exact ih
theorem Cuts.pos {c : List Int} {L : List Rg} (h : Cuts c L) {a : Int} (ha : 0 ≤ a) : 0 < c.countP (fun y => decide (y ≤ a)) :=
  List.countP_pos_iff.2 ⟨0, (h.mem 0).2 (.inl rfl), by simpa using ha⟩
theorem zlf {c : List Int} {L : List Rg} (h : Cuts c L) {r : Rg} (hr : RgOK r) (hle : r.lo ≤ r.hi) {p q : Nat} (hp : c.countP (fun y => decide (y ≤ r.lo)) = p + 1) (hq : c.countP (fun y => decide (y ≤ r.hi)) = q + 1) :
    p ≤ q ∧ q < (zbc c).length ∧ zfw c r = (List.range (q + 1 - p)).map fun k => ⟨max ((zbc c).getD (p + k) ⟨0, 0⟩).lo r.lo, min ((zbc c).getD (p + k) ⟨0, 0⟩).hi r.hi⟩ := by
  have hmono := zl6 (c := c) hle
  have hlen : c.countP (fun y => decide (y ≤ r.hi)) ≤ c.length := List.countP_le_length
  have hA := zdd c
  have hpq : p ≤ q := by omega
  have hqc : q < c.length := by omega
  refine ⟨hpq, by omega, ?_⟩
  obtain ⟨a1, a2, a3, a4⟩ := hr
  have hlo := zgp h.srt r.lo
  have hhi := zgp h.srt r.hi
  rw [hp] at hlo
  rw [hq] at hhi
  have get := zdU c
  generalize hAe : zbc c = A at *
  unfold zfw
  rw [hAe]
  have split3 : A = A.take p ++ ((A.drop p).take (q + 1 - p) ++ A.drop (q + 1)) := by
    have e : A.drop (q + 1) = (A.drop p).drop (q + 1 - p) := by rw [List.drop_drop]; congr 1; omega
    rw [e, List.take_append_drop, List.take_append_drop]
  have f1 : (A.take p).filterMap (zby r) = [] := by
    rw [List.filterMap_eq_nil_iff]
    intro a ha
    obtain ⟨i, hi⟩ := List.mem_iff_getElem?.1 ha
    rw [List.getElem?_take] at hi
    split at hi
    · rename_i hip
      rw [get i] at hi
      have hi1 : c[i + 1]? = some c[i + 1] := List.getElem?_eq_getElem (by omega)
      have hi0 : c[i]? = some c[i] := List.getElem?_eq_getElem (by omega)
      have := (hlo (i + 1) _ hi1).2 (by omega)
      rw [hi0, hi1] at hi
      simp only [Option.map_some, Option.some.injEq] at hi
      subst hi
      unfold zby
      rw [if_neg]
      simp only []
      omega
    · cases hi
  have f3 : (A.drop (q + 1)).filterMap (zby r) = [] := by
    rw [List.filterMap_eq_nil_iff]
    intro a ha
    obtain ⟨i, hi⟩ := List.mem_iff_getElem?.1 ha
    rw [List.getElem?_drop, get] at hi
    cases hc : c[q + 1 + i]? with
    | none => rw [hc] at hi; cases hi
    | some x =>
      have := hhi _ _ hc
      rw [hc] at hi
      simp only [Option.map_some, Option.some.injEq] at hi
      subst hi
      unfold zby
      rw [if_neg]
      simp only []
      omega
  rw [split3, List.filterMap_append, List.filterMap_append, f1, f3, List.nil_append, List.append_nil, ← split3]
  have hn : ((A.drop p).take (q + 1 - p)).length = q + 1 - p := by rw [List.length_take, List.length_drop]; omega
  have g : ∀ k, k < q + 1 - p → ∀ a, A[p + k]? = some a → zby r a = some ⟨max a.lo r.lo, min a.hi r.hi⟩ := by
    intro k hk a ha
    rw [get] at ha
    have hi0 : c[p + k]? = some c[p + k] := List.getElem?_eq_getElem (by omega)
    have b1 := (hhi (p + k) _ hi0).2 (by omega)
    rw [hi0] at ha
    simp only [Option.map_some, Option.some.injEq] at ha
    subst ha
    unfold zby
    rw [if_pos]
    simp only []
    cases hc : c[p + k + 1]? with
    | none => simp only []; omega
    | some y =>
      have := (hlo (p + k + 1) y hc)
      simp only []
      have hs := List.pairwise_iff_getElem.1 h.srt (p + k) (p + k + 1) (by omega) (by have := (List.getElem?_eq_some_iff.1 hc).1; omega) (by omega)
      have hy := (List.getElem?_eq_some_iff.1 hc).2
      omega
  have hfm : ∀ (G : Rg → Rg) (l : List Rg), (∀ a ∈ l, zby r a = some (G a)) → l.filterMap (zby r) = l.map G := by
    intro G l
    induction l with
    | nil => intro _; rfl
    | cons a l ih =>
      intro hx
      rw [List.filterMap_cons, hx a (by simp), List.map_cons, ih fun b hb => hx b (by simp [hb])]
  rw [hfm (fun a => ⟨max a.lo r.lo, min a.hi r.hi⟩) _ fun a ha => ?_]
  · apply List.ext_getElem?
    intro k
    rw [List.getElem?_map, List.getElem?_map, List.getElem?_take, List.getElem?_drop]
    by_cases hk : k < q + 1 - p
    · rw [if_pos hk, List.getElem?_range hk]
      have hx : A[p + k]? = some A[p + k] := List.getElem?_eq_getElem (by omega)
      simp only [hx, Option.map_some, List.getD_eq_getElem?_getD, Option.getD_some]
    · rw [if_neg hk, List.getElem?_eq_none (by simp; omega)]
      rfl
  · obtain ⟨k, hk⟩ := List.mem_iff_getElem?.1 ha
    rw [List.getElem?_take] at hk
    split at hk
    · rename_i hkk
      rw [List.getElem?_drop] at hk
      exact g k hkk a hk
    · cases hk
def zde (s : Option (List Rg)) (r : Rg) : Option (List Rg) := if r.hi < r.lo then none else if 500 ≤ (s.getD []).length then none else some (r :: s.getD [])
def RepO : Option Tab → Option (List Rg) → Prop
  | none, none => True
  | some T, some L => TabRep T L ∧ L.length ≤ 500
  | _, _ => False
theorem RepO.get {T : Option Tab} {s : Option (List Rg)} (h : RepO T s) : TabRep (T.getD zad) (s.getD []) ∧ (s.getD []).length ≤ 500 := by
  cases T with
  | none => cases s with
    | none => exact ⟨zmh, by simp⟩
    | some L => exact h.elim
  | some T => cases s with
    | none => exact h.elim
    | some L => exact h
theorem RepO.step {T : Option Tab} {s : Option (List Rg)} (h : RepO T s) {r : Rg} (hr : RgOK r) :
    (r.lo ≤ r.hi → (T.getD zad).n < 500 → WithOK (T.getD zad) r 1) ∧ RepO (zg5 T r).1 (zde s r) := by
  obtain ⟨h1, h2⟩ := h.get
  have hn := h1.n
  refine ⟨fun _ hlt => (zmi h1 hr (by omega)).1, ?_⟩
  unfold zg5 zde
  by_cases q1 : r.hi < r.lo
  · rw [if_pos q1, if_pos q1]; trivial
  · rw [if_neg q1, if_neg q1]
    by_cases q2 : 500 ≤ (s.getD []).length
    · rw [if_pos q2, if_pos (by omega)]; trivial
    · rw [if_neg q2, if_neg (by omega)]
      exact ⟨(zmi h1 hr (by omega)).2, by simp only [List.length_cons]; omega⟩
def zeK (L : List Rg) : List Rg := (L.foldl zde (some [])).getD []
theorem zlg {L : List Rg} (hle : ∀ r ∈ L, r.lo ≤ r.hi) (hl : L.length ≤ 500) : zeK L = L.reverse := by
  have : ∀ (L M : List Rg), (∀ r ∈ L, r.lo ≤ r.hi) → L.length + M.length ≤ 500 → L.foldl zde (some M) = some (L.reverse ++ M) := by
    intro L
    induction L with
    | nil => intro M _ _; rfl
    | cons r L ih =>
      intro M h1 h2
      have := h1 r (by simp)
      simp only [List.length_cons] at h2
      have e : zde (some M) r = some (r :: M) := by
        unfold zde
        rw [if_neg (by omega), if_neg (by simp only [Option.getD_some]; omega)]; rfl
      rw [List.foldl_cons, e, ih _ (fun x hx => h1 x (by simp [hx])) (by simp only [List.length_cons]; omega)]
      simp
  unfold zeK
  rw [this L [] hle (by simpa using hl)]
  simp
theorem Cuts.perm {c : List Int} {L M : List Rg} (h : Cuts c L) (p : L.Perm M) : Cuts c M := ⟨h.srt, fun x => by
  rw [h.mem]
  constructor
  · rintro (h | ⟨r, hr, hx⟩)
    · exact .inl h
    · exact .inr ⟨r, p.mem_iff.1 hr, hx⟩
  · rintro (h | ⟨r, hr, hx⟩)
    · exact .inl h
    · exact .inr ⟨r, p.mem_iff.2 hr, hx⟩⟩
theorem zi4 {L M : List Rg} (p : L.Perm M) : zaZ L = zaZ M := ((zbo L).perm p).eq
theorem znK {T : Option Tab} {L : List Rg} (h : TabRep (T.getD zad) L) (a : Int) : ofT T a = ((zaZ L).countP (fun y => decide (y ≤ a)) : Nat) - 1 := by
  unfold ofT zez
  rw [Tr.cut_len _ _ h.b.srt, ← (zid h).eq]
  unfold zep
  rw [List.countP_map]
  congr 2
  apply List.countP_congr
  intro e _
  simp only [Function.comp_apply, decide_eq_true_eq]
  omega
theorem zo4 {T : Option Tab} {L : List Rg} (h : TabRep (T.getD zad) L) : (T.getD zad).b.sz = (zaZ L).length := by
  rw [Tr.sz_toL, ← (zid h).eq]; unfold zep; simp
theorem zow {T : Option Tab} {L : List Rg} (h : TabRep (T.getD zad) L) (i : Int) : zgo T i = if 0 ≤ i then (zbc (zaZ L))[i.toNat]? else none := by
  have hc := zid h
  have hr : ∀ {x}, x ∈ zep (T.getD zad) → 0 ≤ x ∧ x < 4294967296 := fun hx => hc.range h.ok hx
  rw [← hc.eq]
  unfold zgo
  by_cases h0 : 0 ≤ i
  · rw [if_pos h0]
    have e1 : (T.getD zad).b.atI i = (T.getD zad).b.toL[i.toNat]? := by unfold Tr.atI; rw [if_pos h0, Tr.at_eq _ _ h0]
    have e2 : (T.getD zad).b.atI (i + 1) = (T.getD zad).b.toL[i.toNat + 1]? := by
      unfold Tr.atI; rw [if_pos (by omega), Tr.at_eq _ _ (by omega)]; congr 1; omega
    have e3 : ∀ j : Nat, (zep (T.getD zad))[j]? = ((T.getD zad).b.toL[j]?).map fun e : Int × Int => e.1 := fun j => by unfold zep; rw [List.getElem?_map]
    rw [e1, e2, zdU, e3, e3]
    cases hp : (T.getD zad).b.toL[i.toNat]? with
    | none => rfl
    | some p =>
      have hpm : p.1 ∈ zep (T.getD zad) := List.mem_map.2 ⟨p, List.mem_of_getElem? hp, rfl⟩
      have hpr := hr hpm
      simp only [Option.map_some, Option.some.injEq, Rg.mk.injEq]
      refine ⟨zfK (by omega) (by omega), ?_⟩
      cases hq : (T.getD zad).b.toL[i.toNat + 1]? with
      | none =>
        show IntKind.u32.wrap 4294967295 = 4294967295
        exact zfK (by omega) (by omega)
      | some q =>
        have hqm : q.1 ∈ zep (T.getD zad) := List.mem_map.2 ⟨q, List.mem_of_getElem? hq, rfl⟩
        have hqr := hr hqm
        have hlt := List.pairwise_iff_getElem.1 h.b.srt i.toNat (i.toNat + 1) (List.getElem?_eq_some_iff.1 hp).1 (List.getElem?_eq_some_iff.1 hq).1 (by omega)
        rw [(List.getElem?_eq_some_iff.1 hp).2, (List.getElem?_eq_some_iff.1 hq).2] at hlt
        simp only [Option.map_some]
        rw [zcO (by omega) (by omega), zfK (by omega) (by omega)]
  · rw [if_neg h0]
    have e1 : (T.getD zad).b.atI i = none := by unfold Tr.atI; rw [if_neg h0]
    rw [e1]; rfl
end Go.Proofs.YtanimmdlgmkmkaaGreat.Av
namespace Go.Proofs.YtanimmdlgmkmkaaGreat.Av
open Go
set_option linter.unusedSimpArgs false
set_option linter.unusedVariables false
set_option maxRecDepth 100000
set_option maxHeartbeats 4000000
set_option pp.maxSteps 600
def za0 (l : List (Nw × Fl)) (f : Bool) : AV := .sl 3 (l.map fun p => z7 p.1 p.2) f
def zN (l : List Rg) (f : Bool) : AV := .sl 2 (l.map zat) f
@[simp] theorem zo5 (K : Id → Prop) (l : List Rg) (f : Bool) : (zN l f).ids K := by simp only [zN, AV.ids]; exact zd9 (zpZ K) l
def zaw (l : List Nw) : List Rg := l.flatMap fun n => n.rules.map (·.r)
def zbZ (l : List Nw) (r : Rg) : List Rg := if r.hi < r.lo then [] else zfw (zaZ (zeK (zaw l))) r
structure NwOK (n : Nw) : Prop where
  rg : ∀ r ∈ n.rules, RgOK r.r
  ports : n.t.ports.length < 2 ^ 44
  links : n.t.links.length < 2 ^ 42
  rules : n.rules.length < 2932031007403
  id : ∀ r ∈ n.rules, -9223372036854775808 ≤ r.id ∧ r.id < 9223372036854775808
theorem zj2 (l : List (Nw × Fl)) (f : Bool) (r : Rg) (hr : RgOK r) (hn : ∀ p ∈ l, NwOK p.1) (hl : l.length < 2 ^ 40) :
    PCalls Tryz.prog 54 [za0 l f, zat r] (.tup [zN (zbZ (l.map (·.1)) r) false, .raw (.int .i64 (if r.hi < r.lo then 31 else 0))]) := by
  refine zK Tryz.func54 rfl (N := 76) rfl rfl (by simp) (by simp [noIds]) fun σ => ?_
  have hrf : ∀ x y : Int, AV.agg [.raw (.int .u32 x), .raw (.int .u32 y)] = zat ⟨x, y⟩ := fun _ _ => rfl
  have f3 : σ.m ⟨3, σ.nx 3, 2⟩ = none := zf _ _ _
  by_cases q0 : r.hi < r.lo
  · unfold zbZ
    rw [if_pos q0, if_pos q0]
    (try ((first | with_reducible refine zk ?_ | with_reducible refine zm ?_ | with_reducible refine zo ?_); simp [-cellOK, zT, hrf, q0])); repeat' (first | ((first | refine zd ?_ | refine zh ?_ | refine dN (by decide +kernel) ?_ | refine dC (by decide +kernel) ?_ | (refine za ?_ ?_ <;> (intro hg; simp only [hg])) | fail) <;> simp [-cellOK, zT, hrf, q0]) | refine zg ?_ | refine zc ?_ | (refine zs ?_; simp only [zt]; try simp) | (refine zb (fun hc => ?_) (fun hc => ?_) <;> try simp at hc) | fail)
    refine zcF (x := .tup [.sl 0 [] true, .raw (.int .i64 31)]) (.inr rfl) (by repeat (first | assumption | exact Ext.refl _ | refine zu ?_ | refine Ext.setF ?_ (by first | assumption | (simp [ze, St.set, zf]; done) | exact zp (by assumption)))) ?_ ?_
    · simp
    · simp only [zak, List.map_cons, List.map_nil, zD]
      exact zdM zbD
  rw [if_neg q0]
  refine zg ?_
  (try ((first | with_reducible refine zk ?_ | with_reducible refine zm ?_ | with_reducible refine zo ?_); simp [-cellOK, zT, hrf, q0])); repeat' (first | ((first | refine zd ?_ | refine zh ?_ | refine dN (by decide +kernel) ?_ | refine dC (by decide +kernel) ?_ | refine uP (zdS) ?_ | refine .inl ⟨_, .inl (zdS), ?_⟩ | (refine za ?_ ?_ <;> (intro hg; simp only [hg])) | fail) <;> simp [-cellOK, zT, hrf, q0]) | refine zg ?_ | refine zc ?_ | (refine zs ?_; simp only [zt]; try simp) | (refine zb (fun hc => ?_) (fun hc => ?_) <;> try simp at hc) | fail)
  refine zY ⟨3, σ.nx 3, 2⟩ ?_
  generalize hτ : St.del _ _ = τ
  generalize hA : (fun t => zD _ _ _) = A
  have a3 : A 3 = .pp [.raw (.int .u32 r.lo), .raw (.int .u32 r.hi)] 0 := by rw [← hA, ← hτ]; simp [zD, St.new, St.del, zT]
  have a6 : A 6 = zbn (some zad) := by rw [← hA]; simp [zbn, zdk]
  have a21 : A 21 = za0 l f := by rw [← hA]; simp [za0]
  have a22 : A 22 = .raw (.int .i64 l.length) := by rw [← hA]; simp [za0]
  have a23 : A 23 = .raw (.int .i64 0) := by rw [← hA]; simp
  have hE : Ext σ τ := by
    rw [← hτ]
    refine ⟨fun i o h => ?_, fun s => ?_⟩
    · rw [zag (fun e => by rw [e, zf] at h; cases h)]
      exact zaR _ _ h
    · exact St.new_le σ 3 2 (.buf [zat r]) s
  clear hτ hA
  refine zab (fun n B ρ => Ext σ ρ ∧ B 3 = .pp [.raw (.int .u32 r.lo), .raw (.int .u32 r.hi)] 0 ∧ B 21 = za0 l f ∧ B 22 = .raw (.int .i64 l.length) ∧ ∃ (i : Nat) (T : Option Tab) (s : Option (List Rg)), B 23 = .raw (.int .i64 i) ∧ i ≤ l.length ∧ n = l.length - i ∧ B 6 = zbn T ∧ RepO T s ∧ s = (zaw ((l.take i).map (·.1))).foldl zde (some [])) l.length ?_ ?_
  · exact ⟨hE, a3, a21, a22, 0, some zad, some [], a23, by omega, by omega, a6, ⟨zmh, by simp⟩, by simp [zaw]⟩
  clear hE a3 a6 a21 a22 a23
  rintro n B ρ ⟨hE, a3, a21, a22, i, T, s, a23, hi, rfl, a6, hrep, hs⟩ I1 hI1
  by_cases hlt : i < l.length
  · have hx : l[i]? = some l[i] := List.getElem?_eq_getElem hlt
    have w1 : IntKind.i64.wrap ((i : Int) + 1) = ((i + 1 : Nat) : Int) := by rw [zU (by omega) (by omega)]; omega
    obtain ⟨nf, hnf⟩ : ∃ nf, l[i] = nf := ⟨_, rfl⟩
    have hok : NwOK nf.1 := hn nf (by rw [← hnf]; exact List.getElem_mem hlt)
    have hsum : zaw ((l.take (i + 1)).map (·.1)) = zaw ((l.take i).map (·.1)) ++ nf.1.rules.map (·.r) := by
      rw [List.take_add_one, hx, hnf]; simp [zaw]
    obtain ⟨N, fl⟩ := nf
    have hrl : N.rules.length < 2932031007403 := hok.rules
    have hnn : z7 N fl = .agg [zq N.t.ports fl.p, zy N.t.links fl.l, zE N.rules fl.r] := rfl
    have hnp : ∀ z : AV, z.cells.length = 3 → setPart (AV.agg [.sl 0 [] true, .sl 0 [] true, .sl 0 [] true]) 0 z.cells = .agg z.cells := fun z hz => by
      obtain ⟨a, b, c, h⟩ : ∃ a b c, z.cells = [a, b, c] := by
        match hh : z.cells with
        | [a, b, c] => exact ⟨a, b, c, rfl⟩
        | [] => rw [hh] at hz; cases hz
        | [_] => rw [hh] at hz; cases hz
        | [_, _] => rw [hh] at hz; cases hz
        | _ :: _ :: _ :: _ :: _ => rw [hh] at hz; simp at hz
      rw [h]; rfl
    (try ((first | with_reducible refine zk ?_ | with_reducible refine zm ?_ | with_reducible refine zo ?_); simp [-cellOK, a3, a6, a21, a22, a23, za0, hlt, hx, hnf, hnn, zr])); repeat' (first | ((first | refine zd ?_ | refine zh ?_ | refine dN (by decide +kernel) ?_ | refine dC (by decide +kernel) ?_ | (refine za ?_ ?_ <;> (intro hg; simp only [hg])) | fail) <;> simp [-cellOK, a3, a6, a21, a22, a23, za0, hlt, hx, hnf, hnn, zr]) | refine zg ?_ | refine zc ?_ | (refine zs ?_; simp only [zt]; try simp) | (refine zl (by simp) ?_; simp) | (refine zx (by simp) (by simp [noIds]) (by repeat (first | assumption | exact Ext.refl _ | refine zu ?_ | refine Ext.setF ?_ (by first | assumption | (simp [ze, St.set, zf]; done) | exact zp (by assumption)))) ?_; simp [-cellOK, a3, a6, a21, a22, a23, za0, hlt, hx, hnf, hnn, zr, zL]) | (refine zb (fun hc => ?_) (fun hc => ?_) <;> try simp at hc) | fail)
    refine zab (fun n C τ => Ext σ τ ∧ C 3 = .pp [.raw (.int .u32 r.lo), .raw (.int .u32 r.hi)] 0 ∧ C 21 = za0 l f ∧ C 22 = .raw (.int .i64 l.length) ∧ C 23 = .raw (.int .i64 i) ∧ C 28 = zE N.rules fl.r ∧ C 29 = .raw (.int .i64 N.rules.length) ∧ ∃ (j : Nat) (T : Option Tab) (s' : Option (List Rg)), C 30 = .raw (.int .i64 j) ∧ j ≤ N.rules.length ∧ n = N.rules.length - j ∧ C 6 = zbn T ∧ RepO T s' ∧ s' = ((N.rules.take j).map (·.r)).foldl zde s) N.rules.length ?_ ?_
    · exact ⟨(by repeat (first | assumption | exact Ext.refl _ | refine zu ?_ | refine Ext.setF ?_ (by first | assumption | (simp [ze, St.set, zf]; done) | exact zp (by assumption)))), by simp [a3], by simp [a21, za0], by simp [a22], by simp [a23], by simp [zE], by simp [zE], 0, T, s, by simp, by omega, by omega, by simp [a6], hrep, by simp⟩
    clear hE a3 a6 a21 a22 a23 hrep
    rintro n C τ ⟨hE, a3, a21, a22, a23, a28, a29, j, T, s', a30, hj, rfl, a6, hrep, hs'⟩ J1 hJ1
    by_cases hjl : j < N.rules.length
    · have hxj : N.rules[j]? = some N.rules[j] := List.getElem?_eq_getElem hjl
      have w2 : IntKind.i64.wrap ((j : Int) + 1) = ((j + 1 : Nat) : Int) := by rw [zU (by omega) (by omega)]; omega
      have hrk := hok.rg _ (List.getElem_mem hjl)
      have hst : ((N.rules.take (j + 1)).map (·.r)).foldl zde s = zde s' N.rules[j].r := by
        rw [List.take_add_one, hxj, List.map_append, List.foldl_append, ← hs']; rfl
      obtain ⟨x, hxe⟩ : ∃ x, N.rules[j] = x := ⟨_, rfl⟩
      rw [hxe] at hrk hst
      obtain ⟨g1, g2⟩ := hrep.step hrk
      have hadd := znD T x.r g1
      have hxr : AV.agg [.raw (.int .u32 x.r.lo), .raw (.int .u32 x.r.hi)] = zat x.r := rfl
      generalize (zg5 T x.r).1 = T' at hadd g2
      generalize (zg5 T x.r).2 = e' at hadd
      (try ((first | with_reducible refine zk ?_ | with_reducible refine zm ?_ | with_reducible refine zo ?_); simp [-cellOK, a3, a6, a21, a22, a23, a28, a29, a30, zE, hjl, hxj, hxe, zF, hxr, w2])); repeat' (first | ((first | refine zd ?_ | refine zh ?_ | refine dN (by decide +kernel) ?_ | refine dC (by decide +kernel) ?_ | refine uP (hadd) ?_ | refine .inl ⟨_, .inl (hadd), ?_⟩ | (refine za ?_ ?_ <;> (intro hg; simp only [hg])) | fail) <;> simp [-cellOK, a3, a6, a21, a22, a23, a28, a29, a30, zE, hjl, hxj, hxe, zF, hxr, w2]) | refine zg ?_ | refine zc ?_ | (refine zs ?_; simp only [zt]; try simp) | (refine zl (by simp) ?_; simp) | (refine zx (by simp) (by simp [noIds]) (by repeat (first | assumption | exact Ext.refl _ | refine zu ?_ | refine Ext.setF ?_ (by first | assumption | (simp [ze, St.set, zf]; done) | exact zp (by assumption)))) ?_; simp [-cellOK, a3, a6, a21, a22, a23, a28, a29, a30, zE, hjl, hxj, hxe, zF, hxr, w2, zL]) | (refine zb (fun hc => ?_) (fun hc => ?_) <;> try simp at hc) | fail)
      refine hJ1 (N.rules.length - (j + 1)) _ _ (by omega) ⟨(by repeat (first | assumption | exact Ext.refl _ | refine zu ?_ | refine Ext.setF ?_ (by first | assumption | (simp [ze, St.set, zf]; done) | exact zp (by assumption)))), by simp [a3], by simp [a21], by simp [a22], by simp [a23], by simp [a28], by simp [a29], j + 1, T', zde s' x.r, by simp, by omega, rfl, by simp, g2, hst.symm⟩
    · have : j = N.rules.length := by omega
      subst this
      rw [List.take_length] at hs'
      (try ((first | with_reducible refine zk ?_ | with_reducible refine zm ?_ | with_reducible refine zo ?_); simp [-cellOK, a3, a6, a21, a22, a23, a28, a29, a30, w1])); repeat' (first | ((first | refine zd ?_ | refine zh ?_ | refine dN (by decide +kernel) ?_ | refine dC (by decide +kernel) ?_ | (refine za ?_ ?_ <;> (intro hg; simp only [hg])) | fail) <;> simp [-cellOK, a3, a6, a21, a22, a23, a28, a29, a30, w1]) | refine zg ?_ | refine zc ?_ | (refine zs ?_; simp only [zt]; try simp) | (refine zl (by simp) ?_; simp) | (refine zx (by simp) (by simp [noIds]) (by repeat (first | assumption | exact Ext.refl _ | refine zu ?_ | refine Ext.setF ?_ (by first | assumption | (simp [ze, St.set, zf]; done) | exact zp (by assumption)))) ?_; simp [-cellOK, a3, a6, a21, a22, a23, a28, a29, a30, w1, zL]) | (refine zb (fun hc => ?_) (fun hc => ?_) <;> try simp at hc) | fail)
      refine hI1 (l.length - (i + 1)) _ _ (by omega) ⟨hE, by simp [a3], by simp [a21], by simp [a22], i + 1, T, s', by simp, by omega, rfl, by simp [a6], hrep, ?_⟩
      rw [hsum, List.foldl_append, ← hs, hs']
  · have : i = l.length := by omega
    subst this
    rw [List.take_length] at hs
    have hL : zeK (zaw (l.map (·.1))) = s.getD [] := by rw [hs]; rfl
    obtain ⟨hrp, hsl⟩ := hrep.get
    unfold zbZ
    rw [if_neg q0, hL]
    clear hs hL hI1 hrep
    generalize s.getD [] = L at hrp hsl ⊢
    obtain ⟨r0, r1, r2, r3⟩ := hr
    have hcc := zbo L
    have hcl : (zaZ L).length ≤ 1 + 2 * L.length := by
      have := zeb (m := 0 :: zcT L) (hcc.srt.imp fun h => by omega) fun x hx => by
        rw [List.mem_cons]; simp only [zcT, List.mem_flatMap]; exact (hcc.mem x).1 hx
      have := zg6 L
      simp only [List.length_cons] at *
      omega
    have hbz : (T.getD zad).b.sz < 2 ^ 40 := by rw [zo4 hrp]; omega
    have k1 := hcc.pos (a := r.lo) r0
    have k2 := hcc.pos (a := r.hi) r2
    obtain ⟨p, hp⟩ : ∃ p, (zaZ L).countP (fun y => decide (y ≤ r.lo)) = p + 1 := ⟨_, (Nat.succ_pred_eq_of_pos k1).symm⟩
    obtain ⟨q, hq⟩ : ∃ p, (zaZ L).countP (fun y => decide (y ≤ r.hi)) = p + 1 := ⟨_, (Nat.succ_pred_eq_of_pos k2).symm⟩
    obtain ⟨hpq, hqA, hcut⟩ := zlf hcc ⟨r0, r1, r2, r3⟩ (by omega) hp hq
    have ho1 := zhS T r.lo r0 r1 hbz
    have ho2 := zhS T r.hi r2 r3 hbz
    rw [znK hrp, hp, show (((p + 1 : Nat) : Int) - 1) = (p : Int) by omega] at ho1
    rw [znK hrp, hq, show (((q + 1 : Nat) : Int) - 1) = (q : Int) by omega] at ho2
    rw [hcut]
    have hA := zdd (zaZ L)
    have hat := fun i => zow hrp i
    generalize zbc (zaZ L) = Al at *
    generalize zaZ L = c at *
    obtain ⟨G, hG⟩ : ∃ G : Nat → Rg, G = fun k => ⟨max (Al.getD (p + k) ⟨0, 0⟩).lo r.lo, min (Al.getD (p + k) ⟨0, 0⟩).hi r.hi⟩ := ⟨_, rfl⟩
    rw [← hG]
    (try ((first | with_reducible refine zk ?_ | with_reducible refine zm ?_ | with_reducible refine zo ?_); simp [-cellOK, a3, a6, a21, a22, a23])); repeat' (first | ((first | refine zd ?_ | refine zh ?_ | refine dN (by decide +kernel) ?_ | refine dC (by decide +kernel) ?_ | refine uP (ho1) ?_ | refine .inl ⟨_, .inl (ho1), ?_⟩ | (refine za ?_ ?_ <;> (intro hg; simp only [hg])) | fail) <;> simp [-cellOK, a3, a6, a21, a22, a23]) | refine zg ?_ | refine zc ?_ | (refine zs ?_; simp only [zt]; try simp) | (refine zl (by simp) ?_; simp) | (refine zx (by simp) (by simp [noIds]) (by repeat (first | assumption | exact Ext.refl _ | refine zu ?_ | refine Ext.setF ?_ (by first | assumption | (simp [ze, St.set, zf]; done) | exact zp (by assumption)))) ?_; simp [-cellOK, a3, a6, a21, a22, a23, zL]) | (refine zb (fun hc => ?_) (fun hc => ?_) <;> try simp at hc) | fail)
    refine zab (fun n B ρ => Ext σ ρ ∧ B 3 = .pp [.raw (.int .u32 r.lo), .raw (.int .u32 r.hi)] 0 ∧ B 6 = zbn T ∧ ∃ (j : Nat) (k : Int) (v : AV), B 12 = .raw (.int .i64 k) ∧ k = (p + j : Nat) ∧ j ≤ q + 1 - p ∧ n = q + 1 - p - j ∧ B 11 = v ∧ OwnL σ ρ 2 v (((List.range j).map G).map zat)) (q + 1 - p) ?_ ?_
    · exact ⟨hE, by simp [a3], by simp [a6], 0, p, .sl 0 [] true, by simp, by omega, by omega, by omega, by simp, .inl ⟨by simp, rfl⟩⟩
    clear hE a3 a6 a21 a22 a23
    rintro n B ρ ⟨hE, a3, a6, j, k, v, a12, hk, hj, rfl, a11, hO⟩ I1 hI1
    by_cases hjl : j < q + 1 - p
    · have hxa : Al[p + j]? = some Al[p + j] := List.getElem?_eq_getElem (by omega)
      have w1 : IntKind.i64.wrap (k + 1) = k + 1 := zU (by omega) (by omega)
      have hac := zmS T k hbz
      rw [hat, if_pos (by omega), show k.toNat = p + j by omega, hxa] at hac
      have hGj : G j = ⟨max Al[p + j].lo r.lo, min Al[p + j].hi r.hi⟩ := by
        rw [hG]; simp only [List.getD_eq_getElem?_getD, hxa, Option.getD_some]
      simp only [Option.getD_some, Option.isSome_some] at hac
      generalize Al[p + j] = a at hac hGj
      have m1 : (if a.lo < r.lo then r.lo else a.lo) = (G j).lo := by rw [hGj]; simp only []; rw [Int.max_def]; split <;> split <;> omega
      have m2 : (if r.hi < a.hi then r.hi else a.hi) = (G j).hi := by rw [hGj]; simp only []; rw [Int.min_def]; split <;> split <;> omega
      have hle : k ≤ (q : Int) := by omega
      have hrq : ∀ x y : Int, setPart (zat ⟨0, 0⟩) 0 [.raw (.int .u32 x), .raw (.int .u32 y)] = zat ⟨x, y⟩ := fun _ _ => rfl
      (try ((first | with_reducible refine zk ?_ | with_reducible refine zm ?_ | with_reducible refine zo ?_); simp [-cellOK, a3, a6, a11, a12, hle, zT, m1, m2, hrf, hrq, w1, -zO])); repeat' (first | ((first | refine zd ?_ | refine zh ?_ | refine dN (by decide +kernel) ?_ | refine dC (by decide +kernel) ?_ | refine uP (ho2) ?_ | refine .inl ⟨_, .inl (ho2), ?_⟩ | refine uP (hac) ?_ | refine .inl ⟨_, .inl (hac), ?_⟩ | (refine za ?_ ?_ <;> (intro hg; simp only [hg])) | fail) <;> simp [-cellOK, a3, a6, a11, a12, hle, zT, m1, m2, hrf, hrq, w1, -zO]) | refine zg ?_ | refine zc ?_ | (refine zs ?_; simp only [zt]; try simp) | (refine zl (by simp) ?_; simp) | (refine zx (by simp) (by simp [noIds]) (by repeat (first | assumption | exact Ext.refl _ | refine zu ?_ | refine Ext.setF ?_ (by first | assumption | (simp [ze, St.set, zf]; done) | exact zp (by assumption)))) ?_; simp [-cellOK, a3, a6, a11, a12, hle, zT, m1, m2, hrf, hrq, w1, -zO, zL]) | (refine zb (fun hc => ?_) (fun hc => ?_) <;> try simp at hc) | fail)
      refine zaV zky (σ0 := σ) (hO.ext (by repeat (first | assumption | exact Ext.refl _ | refine zu ?_ | refine Ext.setF ?_ (by first | assumption | (simp [ze, St.set, zf]; done) | exact zp (by assumption))))) (by repeat (first | assumption | exact Ext.refl _ | refine zu ?_ | refine Ext.setF ?_ (by first | assumption | (simp [ze, St.set, zf]; done) | exact zp (by assumption)))) (ys := [zat ⟨(G j).lo, (G j).hi⟩]) (by simp [zz, ze]) (.inr rfl) (by simp [zT]) (by simp; omega) ?_
      intro v' τ' hO' hE' _ _
      (try ((first | with_reducible refine zk ?_ | with_reducible refine zm ?_ | with_reducible refine zo ?_); simp [-cellOK, a3, a6, a12, w1])); repeat' (first | ((first | refine zd ?_ | refine zh ?_ | refine dN (by decide +kernel) ?_ | refine dC (by decide +kernel) ?_ | (refine za ?_ ?_ <;> (intro hg; simp only [hg])) | fail) <;> simp [-cellOK, a3, a6, a12, w1]) | refine zg ?_ | refine zc ?_ | (refine zs ?_; simp only [zt]; try simp) | (refine zl (by simp) ?_; simp) | (refine zx (by simp) (by simp [noIds]) (by repeat (first | assumption | exact Ext.refl _ | refine zu ?_ | refine Ext.setF ?_ (by first | assumption | (simp [ze, St.set, zf]; done) | exact zp (by assumption)))) ?_; simp [-cellOK, a3, a6, a12, w1, zL]) | (refine zb (fun hc => ?_) (fun hc => ?_) <;> try simp at hc) | fail)
      refine hI1 (q + 1 - p - (j + 1)) _ _ (by omega) ⟨hE', by simp [a3], by simp [a6], j + 1, k + 1, v', by simp, by omega, by omega, rfl, by simp, ?_⟩
      rw [List.range_succ, List.map_append, List.map_append]
      exact hO'
    · have hje : j = q + 1 - p := by omega
      subst hje
      have hle : ¬ k ≤ (q : Int) := by omega
      (try ((first | with_reducible refine zk ?_ | with_reducible refine zm ?_ | with_reducible refine zo ?_); simp [-cellOK, a3, a6, a11, a12, hle])); repeat' (first | ((first | refine zd ?_ | refine zh ?_ | refine dN (by decide +kernel) ?_ | refine dC (by decide +kernel) ?_ | refine uP (ho2) ?_ | refine .inl ⟨_, .inl (ho2), ?_⟩ | (refine za ?_ ?_ <;> (intro hg; simp only [hg])) | fail) <;> simp [-cellOK, a3, a6, a11, a12, hle]) | refine zg ?_ | refine zc ?_ | (refine zs ?_; simp only [zt]; try simp) | (refine zb (fun hc => ?_) (fun hc => ?_) <;> try simp at hc) | fail)
      exact zjW (v := v) (u := .int .i64 0) (.inr rfl) (by simp) hO hE
end Go.Proofs.YtanimmdlgmkmkaaGreat.Av
namespace Go.Proofs.YtanimmdlgmkmkaaGreat.Av
open Go
set_option linter.unusedSimpArgs false
set_option linter.unusedVariables false
set_option maxRecDepth 100000
set_option maxHeartbeats 4000000
set_option pp.maxSteps 600
def zp2 (f : Int) (p : Pt) : AV := .agg [.raw (.int .i64 f), .raw (.int .i64 p.dev), .raw (.int .i64 p.port)]
theorem ze9 (q : Pt) : (zS q).cells = [.raw (.int .i64 q.dev), .raw (.int .i64 q.port)] := rfl
theorem zg7 (x y : Int) : setPart (AV.agg [.raw (.int .i64 0), .raw (.int .i64 0)]) 0 [.raw (.int .i64 x), .raw (.int .i64 y)] = zS ⟨x, y⟩ := rfl
theorem zC (n : Nw) (f : Fl) : AV.agg [zq n.t.ports f.p, zy n.t.links f.l, zE n.rules f.r] = z7 n f := rfl
def zua (N : Nw) (a : Int) (iat ie : Id) (Q : Int → List Int → St → Prop) (F : St → Prop) (d : Int) (p : List Int) (r : AV) (ρ : St) : Prop :=
  (r = .raw (.bool true) ∧ ρ.m iat = some (.buf [.raw (.int .i64 d)]) ∧ ρ.m ie = some (.buf [zp2 4 ⟨0, 0⟩]) ∧ ((zZ N d a).1 ≠ 4 → ∀ π, Ext ρ π → F (π.set ie (.buf [zp2 (zZ N d a).1 (zZ N d a).2]))) ∧
    ((zZ N d a).1 = 4 → ∀ π, Ext ρ π → Q (zbt N (zZ N d a).2) (p ++ [d]) (π.set iat (.buf [.raw (.int .i64 (zbt N (zZ N d a).2))])))) ∨ (r = .raw (.bool false) ∧ F ρ)
end Go.Proofs.YtanimmdlgmkmkaaGreat.Av
namespace Go.Proofs.YtanimmdlgmkmkaaGreat.Av
open Go
set_option linter.unusedSimpArgs false
set_option linter.unusedVariables false
set_option maxRecDepth 100000
set_option maxHeartbeats 4000000
set_option pp.maxSteps 600
theorem OwnL.ne_sz {σ0 τ : St} {n : Nat} {v : AV} {es : List AV} (h : OwnL σ0 τ n v es) {i : Id} (hi : i.sz ≠ n) : ∀ k l, v ≠ .rs i k l := by
  rintro k l rfl
  rcases h with ⟨_, e⟩ | ⟨j, e, hj, _, _⟩
  · cases e
  · injection e with e; subst e; exact hi hj
theorem OwnL.set {σ0 τ : St} {n : Nat} {v : AV} {es : List AV} (h : OwnL σ0 τ n v es) {i : Id} {o : Ob} (hi : ∀ k l, v ≠ .rs i k l) : OwnL σ0 (τ.set i o) n v es := by
  rcases h with h | ⟨j, e, hj, hm, hn⟩
  · exact .inl h
  · exact .inr ⟨j, e, hj, by rw [zav (fun e2 => hi 0 es.length (by rw [e, e2]))]; exact hm, hn⟩
theorem OwnL.del {σ0 τ : St} {n : Nat} {v : AV} {es : List AV} (h : OwnL σ0 τ n v es) {i : Id} (hi : ∀ k l, v ≠ .rs i k l) : OwnL σ0 (τ.del i) n v es := by
  rcases h with h | ⟨j, e, hj, hm, hn⟩
  · exact .inl h
  · exact .inr ⟨j, e, hj, by rw [zag (fun e2 => hi 0 es.length (by rw [e, e2]))]; exact hm, hn⟩
theorem zi5 {P : Program} {A : zQ} {σ σ0 : St} {fn : Func} {e : Exit} {n : Nat} {v : AV} {es : List AV} {u b c d : Value} (he : e = .normal ∨ e = .ret) (h : zbj P σ.m A fn.results = some (.tup [.agg [v, .raw b, .raw c, .raw d], .raw u])) (hO : OwnL σ0 σ n v es) (hE : Ext σ0 σ) :
    RetP P fn σ0 (.tup [.agg [.sl n es false, .raw b, .raw c, .raw d], .raw u]) e A σ := by
  refine zcF he hE h ?_
  rcases hO with ⟨rfl, rfl⟩ | ⟨j, rfl, hj, hmj, hn⟩
  · exact zdM (ziV zbD)
  · have e1 : zak σ0.m σ.m (.tup [.agg [.rs j 0 es.length, .raw b, .raw c, .raw d], .raw u]) = .tup [.agg [.sl n es false, .raw b, .raw c, .raw d], .raw u] := by
      simp only [zak, List.map_cons, List.map_nil]
      rw [zfL hn hmj (by simp), hj]; simp [zD]
    rw [e1]; exact Weaker.refl _
structure TrS (σ ρ : St) (i6 i8 : Id) (v : AV) (p : List Int) : Prop where
  ext : Ext σ ρ
  m6 : ρ.m i6 = some (.buf [.agg [.sl 0 [] true, .raw (.int .i64 0), .raw (.int .i64 0), .raw (.int .i64 0)]])
  m8 : ρ.m i8 = some (.buf [.agg [v, .raw (.int .i64 0), .raw (.int .i64 0), .raw (.int .i64 0)]])
  own : OwnL σ ρ 1 v (p.map iAV)
theorem TrS.up {σ ρ π : St} {i6 i8 : Id} {v : AV} {p : List Int} (h : TrS σ ρ i6 i8 v p) (k : Ext ρ π) : TrS σ π i6 i8 v p := ⟨h.ext.trans k, k.m _ _ h.m6, k.m _ _ h.m8, h.own.ext k⟩
theorem TrS.put {σ ρ : St} {i6 i8 i : Id} {v : AV} {p : List Int} {o : Ob} (h : TrS σ ρ i6 i8 v p) (h6 : i6 ≠ i) (h8 : i8 ≠ i) (hv : ∀ k l, v ≠ .rs i k l) (h0 : σ.m i = none) : TrS σ (ρ.set i o) i6 i8 v p :=
  ⟨Ext.setF h.ext h0, by rw [zav h6]; exact h.m6, by rw [zav h8]; exact h.m8, h.own.set hv⟩
theorem TrS.del {σ ρ : St} {i6 i8 i : Id} {v : AV} {p : List Int} (h : TrS σ ρ i6 i8 v p) (h6 : i6 ≠ i) (h8 : i8 ≠ i) (hv : ∀ k l, v ≠ .rs i k l) (h0 : σ.m i = none) : TrS σ (ρ.del i) i6 i8 v p :=
  ⟨⟨fun j o hj => by rw [zag (fun e => by rw [e, h0] at hj; cases hj)]; exact h.ext.m j o hj, h.ext.nx⟩, by rw [zag h6]; exact h.m6, by rw [zag h8]; exact h.m8, h.own.del hv⟩
def zaD (n : Nw) (d a : Int) : Tk × Int := if d < 0 ∨ n.t.ports.length ≤ d then (⟨[], 0, ⟨0, 0⟩⟩, 91) else (zaa n d a, 0)
end Go.Proofs.YtanimmdlgmkmkaaGreat.Av
namespace Go.Proofs.YtanimmdlgmkmkaaGreat.Av
open Go
set_option linter.unusedSimpArgs false
set_option linter.unusedVariables false
set_option maxRecDepth 100000
set_option maxHeartbeats 4000000
set_option pp.maxSteps 600
@[simp] theorem zwd (K : Id → Prop) (t : Tk) (b : Bool) : (zbb t b).ids K := by simp [zbb]
theorem zG (t : Tk) (f : Bool) : (zbb t f).cells = [zq t.path f, .raw (.int .i64 t.out), .raw (.int .i64 t.last.dev), .raw (.int .i64 t.last.port)] := rfl
theorem zR (t : Tk) (f : Bool) : AV.agg [zq t.path f, .raw (.int .i64 t.out), .raw (.int .i64 t.last.dev), .raw (.int .i64 t.last.port)] = zbb t f := rfl
theorem zi6 (l : List Int) (f : Bool) : (zq l f).cells = [zq l f] := rfl
theorem zbN (t u : Tk) (f g : Bool) : setPart (zbb t f) 0 (zbb u g).cells = zbb u g := rfl
theorem zbu (u : Tk) (g : Bool) : setPart (AV.agg [.sl 0 [] true, .raw (.int .i64 0), .raw (.int .i64 0), .raw (.int .i64 0)]) 0 (zbb u g).cells = zbb u g := rfl
theorem zbv (u : Tk) (g : Bool) : setPart (AV.agg [.sl 0 [] true, .raw (.int .i64 0), .raw (.int .i64 0), .raw (.int .i64 0)]) 0 [zq u.path g, .raw (.int .i64 u.out), .raw (.int .i64 u.last.dev), .raw (.int .i64 u.last.port)] = zbb u g := rfl
def zox (N : Nw) (a : Int) (t : Tk) : Bool := match t.path with | [] => false | d :: _ => decide ((zaD N d a).2 = 0) && decide (t = (zaD N d a).1)
theorem zj3 (n : Nw) (a : Int) : ∀ (f : Nat) (d : Int) (p : List Int), (zdr n a f d p).path.length ≤ p.length + f
  | 0, d, p => by simp [zdr]
  | f + 1, d, p => by
    have := zj3 n a f (zbt n (zZ n d a).2) (p ++ [d])
    simp only [zdr]
    split
    · simp
    · split
      · simp only [List.length_append, List.length_singleton] at this; omega
      · simp
theorem zdV (n : Nw) (d a : Int) : (zaD n d a).1.path.length ≤ 2 + 2 * n.t.links.length := by
  unfold zaD
  split
  · simp
  · have := zj3 n a (2 + 2 * n.t.links.length) d []
    simpa [zaa] using this
structure Qy where
  kind : Int
  a : Int
  b : Int
  w : Int
  r : Rg
  other : ByteArray
def zaH (q : Qy) : AV := .agg [.raw (.int .i64 q.kind), .raw (.int .i64 q.a), .raw (.int .i64 q.b), .raw (.int .i64 q.w), .raw (.int .u32 q.r.lo), .raw (.int .u32 q.r.hi), .raw (.string q.other)]
theorem zv (q : Qy) : (zaH q).cells = [.raw (.int .i64 q.kind), .raw (.int .i64 q.a), .raw (.int .i64 q.b), .raw (.int .i64 q.w), .raw (.int .u32 q.r.lo), .raw (.int .u32 q.r.hi), .raw (.string q.other)] := rfl
theorem zB (q : Qy) : AV.agg [.raw (.int .i64 q.kind), .raw (.int .i64 q.a), .raw (.int .i64 q.b), .raw (.int .i64 q.w), .raw (.int .u32 q.r.lo), .raw (.int .u32 q.r.hi), .raw (.string q.other)] = zaH q := rfl
def zcE (q : Qy) : Bool := decide (q.kind = 0) || (decide (q.kind = 3) || decide (q.kind = 4))
theorem zg8 (q : Qy) : PCalls Tryz.prog 65 [zaH q] (.raw (.bool (zcE q))) := by
  refine zK Tryz.func65 rfl (N := 16) rfl rfl (by simp) (by simp [noIds]) fun σ => ?_
  unfold zcE
  by_cases h0 : q.kind = 0
  · (try ((first | with_reducible refine zk ?_ | with_reducible refine zm ?_ | with_reducible refine zo ?_); simp [-cellOK, zv, h0])); repeat' (first | ((first | refine zd ?_ | refine zh ?_ | refine dN (by decide +kernel) ?_ | refine dC (by decide +kernel) ?_ | (refine za ?_ ?_ <;> (intro hg; simp only [hg])) | fail) <;> simp [-cellOK, zv, h0]) | refine zg ?_ | refine zc ?_ | (refine zs ?_; simp only [zt]; try simp) | (refine zl (by simp) ?_; simp) | (refine zx (by simp) (by simp [noIds]) (by repeat (first | assumption | exact Ext.refl _ | refine zu ?_ | refine Ext.setF ?_ (by first | assumption | (simp [ze, St.set, zf]; done) | exact zp (by assumption)))) ?_; simp [-cellOK, zv, h0, zL]) | (refine zb (fun hc => ?_) (fun hc => ?_) <;> try simp at hc) | fail)
  · by_cases h3 : q.kind = 3
    · (try ((first | with_reducible refine zk ?_ | with_reducible refine zm ?_ | with_reducible refine zo ?_); simp [-cellOK, zv, h0, h3])); repeat' (first | ((first | refine zd ?_ | refine zh ?_ | refine dN (by decide +kernel) ?_ | refine dC (by decide +kernel) ?_ | (refine za ?_ ?_ <;> (intro hg; simp only [hg])) | fail) <;> simp [-cellOK, zv, h0, h3]) | refine zg ?_ | refine zc ?_ | (refine zs ?_; simp only [zt]; try simp) | (refine zl (by simp) ?_; simp) | (refine zx (by simp) (by simp [noIds]) (by repeat (first | assumption | exact Ext.refl _ | refine zu ?_ | refine Ext.setF ?_ (by first | assumption | (simp [ze, St.set, zf]; done) | exact zp (by assumption)))) ?_; simp [-cellOK, zv, h0, h3, zL]) | (refine zb (fun hc => ?_) (fun hc => ?_) <;> try simp at hc) | fail)
    · by_cases h4 : q.kind = 4
      · (try ((first | with_reducible refine zk ?_ | with_reducible refine zm ?_ | with_reducible refine zo ?_); simp [-cellOK, zv, h0, h3, h4])); repeat' (first | ((first | refine zd ?_ | refine zh ?_ | refine dN (by decide +kernel) ?_ | refine dC (by decide +kernel) ?_ | (refine za ?_ ?_ <;> (intro hg; simp only [hg])) | fail) <;> simp [-cellOK, zv, h0, h3, h4]) | refine zg ?_ | refine zc ?_ | (refine zs ?_; simp only [zt]; try simp) | (refine zl (by simp) ?_; simp) | (refine zx (by simp) (by simp [noIds]) (by repeat (first | assumption | exact Ext.refl _ | refine zu ?_ | refine Ext.setF ?_ (by first | assumption | (simp [ze, St.set, zf]; done) | exact zp (by assumption)))) ?_; simp [-cellOK, zv, h0, h3, h4, zL]) | (refine zb (fun hc => ?_) (fun hc => ?_) <;> try simp at hc) | fail)
      · (try ((first | with_reducible refine zk ?_ | with_reducible refine zm ?_ | with_reducible refine zo ?_); simp [-cellOK, zv, h0, h3, h4])); repeat' (first | ((first | refine zd ?_ | refine zh ?_ | refine dN (by decide +kernel) ?_ | refine dC (by decide +kernel) ?_ | (refine za ?_ ?_ <;> (intro hg; simp only [hg])) | fail) <;> simp [-cellOK, zv, h0, h3, h4]) | refine zg ?_ | refine zc ?_ | (refine zs ?_; simp only [zt]; try simp) | (refine zl (by simp) ?_; simp) | (refine zx (by simp) (by simp [noIds]) (by repeat (first | assumption | exact Ext.refl _ | refine zu ?_ | refine Ext.setF ?_ (by first | assumption | (simp [ze, St.set, zf]; done) | exact zp (by assumption)))) ?_; simp [-cellOK, zv, h0, h3, h4, zL]) | (refine zb (fun hc => ?_) (fun hc => ?_) <;> try simp at hc) | fail)
def zcu (n : Nw) (d : Int) : Bool := decide (d < 0) || decide ((n.t.ports.length : Int) ≤ d)
theorem zl7 (n : Nw) (f : Fl) (d : Int) : PCalls Tryz.prog 64 [.raw (.int .i64 d), .pp (z7 n f).cells 0] (.raw (.bool (zcu n d))) := by
  refine zK Tryz.func64 rfl (N := 14) rfl rfl (by simp) (by simp [noIds]) fun σ => ?_
  have hp : ∀ m, z9 Tryz.prog m 22 (zq n.t.ports f.p) = some (.raw (.int .i64 n.t.ports.length)) := fun m => by simp [zq]
  unfold zcu
  by_cases h0 : d < 0
  · (try ((first | with_reducible refine zk ?_ | with_reducible refine zm ?_ | with_reducible refine zo ?_); simp [-cellOK, zr, h0])); repeat' (first | ((first | refine zd ?_ | refine zh ?_ | refine dN (by decide +kernel) ?_ | refine dC (by decide +kernel) ?_ | (refine za ?_ ?_ <;> (intro hg; simp only [hg])) | fail) <;> simp [-cellOK, zr, h0]) | refine zg ?_ | refine zc ?_ | (refine zs ?_; simp only [zt]; try simp) | (refine zl (by simp) ?_; simp) | (refine zx (by simp) (by simp [noIds]) (by repeat (first | assumption | exact Ext.refl _ | refine zu ?_ | refine Ext.setF ?_ (by first | assumption | (simp [ze, St.set, zf]; done) | exact zp (by assumption)))) ?_; simp [-cellOK, zr, h0, zL]) | (refine zb (fun hc => ?_) (fun hc => ?_) <;> try simp at hc) | fail)
  · (try ((first | with_reducible refine zk ?_ | with_reducible refine zm ?_ | with_reducible refine zo ?_); simp [-cellOK, zr, h0, -z9, hp])); repeat' (first | ((first | refine zd ?_ | refine zh ?_ | refine dN (by decide +kernel) ?_ | refine dC (by decide +kernel) ?_ | (refine za ?_ ?_ <;> (intro hg; simp only [hg])) | fail) <;> simp [-cellOK, zr, h0, -z9, hp]) | refine zg ?_ | refine zc ?_ | (refine zs ?_; simp only [zt]; try simp) | (refine zl (by simp) ?_; simp) | (refine zx (by simp) (by simp [noIds]) (by repeat (first | assumption | exact Ext.refl _ | refine zu ?_ | refine Ext.setF ?_ (by first | assumption | (simp [ze, St.set, zf]; done) | exact zp (by assumption)))) ?_; simp [-cellOK, zr, h0, -z9, hp, zL]) | (refine zb (fun hc => ?_) (fun hc => ?_) <;> try simp at hc) | fail)
def zdE (t : Tk) (d : Int) : Bool := decide (t.out = 3) && decide (t.last.dev = d)
theorem zg9 (t : Tk) (f : Bool) (d : Int) : PCalls Tryz.prog 163 [zbb t f, .raw (.int .i64 d)] (.raw (.bool (zdE t d))) := by
  refine zK Tryz.func163 rfl (N := 15) rfl rfl (by simp) (by simp [noIds]) fun σ => ?_
  unfold zdE
  by_cases h0 : t.out = 3
  · (try ((first | with_reducible refine zk ?_ | with_reducible refine zm ?_ | with_reducible refine zo ?_); simp [-cellOK, zG, h0])); repeat' (first | ((first | refine zd ?_ | refine zh ?_ | refine dN (by decide +kernel) ?_ | refine dC (by decide +kernel) ?_ | (refine za ?_ ?_ <;> (intro hg; simp only [hg])) | fail) <;> simp [-cellOK, zG, h0]) | refine zg ?_ | refine zc ?_ | (refine zs ?_; simp only [zt]; try simp) | (refine zl (by simp) ?_; simp) | (refine zx (by simp) (by simp [noIds]) (by repeat (first | assumption | exact Ext.refl _ | refine zu ?_ | refine Ext.setF ?_ (by first | assumption | (simp [ze, St.set, zf]; done) | exact zp (by assumption)))) ?_; simp [-cellOK, zG, h0, zL]) | (refine zb (fun hc => ?_) (fun hc => ?_) <;> try simp at hc) | fail)
  · (try ((first | with_reducible refine zk ?_ | with_reducible refine zm ?_ | with_reducible refine zo ?_); simp [-cellOK, zG, h0])); repeat' (first | ((first | refine zd ?_ | refine zh ?_ | refine dN (by decide +kernel) ?_ | refine dC (by decide +kernel) ?_ | (refine za ?_ ?_ <;> (intro hg; simp only [hg])) | fail) <;> simp [-cellOK, zG, h0]) | refine zg ?_ | refine zc ?_ | (refine zs ?_; simp only [zt]; try simp) | (refine zl (by simp) ?_; simp) | (refine zx (by simp) (by simp [noIds]) (by repeat (first | assumption | exact Ext.refl _ | refine zu ?_ | refine Ext.setF ?_ (by first | assumption | (simp [ze, St.set, zf]; done) | exact zp (by assumption)))) ?_; simp [-cellOK, zG, h0, zL]) | (refine zb (fun hc => ?_) (fun hc => ?_) <;> try simp at hc) | fail)
def zdo (t : Tk) (d : Int) : Bool := t.path.any fun x => decide (d = x)
theorem zmU (q : Qy) (t u : Tk) (f g : Bool) : PCalls Tryz.prog 162 [zaH q, zbb t f, zbb u g] (.raw (.bool (!zdE t q.b))) := by
  have h := zg9 t f q.b
  refine zK Tryz.func162 rfl (N := 12) rfl rfl (by simp) (by simp [noIds]) fun σ => ?_
  (try ((first | with_reducible refine zk ?_ | with_reducible refine zm ?_ | with_reducible refine zo ?_); simp [-cellOK, zv, zG, zR])); repeat' (first | ((first | refine zd ?_ | refine zh ?_ | refine dN (by decide +kernel) ?_ | refine dC (by decide +kernel) ?_ | refine uP (h) ?_ | refine .inl ⟨_, .inl (h), ?_⟩ | (refine za ?_ ?_ <;> (intro hg; simp only [hg])) | fail) <;> simp [-cellOK, zv, zG, zR]) | refine zg ?_ | refine zc ?_ | (refine zs ?_; simp only [zt]; try simp) | (refine zl (by simp) ?_; simp) | (refine zx (by simp) (by simp [noIds]) (by repeat (first | assumption | exact Ext.refl _ | refine zu ?_ | refine Ext.setF ?_ (by first | assumption | (simp [ze, St.set, zf]; done) | exact zp (by assumption)))) ?_; simp [-cellOK, zv, zG, zR, zL]) | (refine zb (fun hc => ?_) (fun hc => ?_) <;> try simp at hc) | fail)
theorem zmV (q : Qy) (t u : Tk) (f g : Bool) : PCalls Tryz.prog 164 [zaH q, zbb t f, zbb u g] (.raw (.bool (decide (t.out = 4)))) := by
  refine zK Tryz.func164 rfl (N := 10) rfl rfl (by simp) (by simp [noIds]) fun σ => ?_
  (try ((first | with_reducible refine zk ?_ | with_reducible refine zm ?_ | with_reducible refine zo ?_); simp [-cellOK, zv, zG, zR])); repeat' (first | ((first | refine zd ?_ | refine zh ?_ | refine dN (by decide +kernel) ?_ | refine dC (by decide +kernel) ?_ | (refine za ?_ ?_ <;> (intro hg; simp only [hg])) | fail) <;> simp [-cellOK, zv, zG, zR]) | refine zg ?_ | refine zc ?_ | (refine zs ?_; simp only [zt]; try simp) | (refine zl (by simp) ?_; simp) | (refine zx (by simp) (by simp [noIds]) (by repeat (first | assumption | exact Ext.refl _ | refine zu ?_ | refine Ext.setF ?_ (by first | assumption | (simp [ze, St.set, zf]; done) | exact zp (by assumption)))) ?_; simp [-cellOK, zv, zG, zR, zL]) | (refine zb (fun hc => ?_) (fun hc => ?_) <;> try simp at hc) | fail)
theorem zmW (q : Qy) (t u : Tk) (f g : Bool) : PCalls Tryz.prog 165 [zaH q, zbb t f, zbb u g] (.raw (.bool (decide (t.out = 0)))) := by
  refine zK Tryz.func165 rfl (N := 10) rfl rfl (by simp) (by simp [noIds]) fun σ => ?_
  (try ((first | with_reducible refine zk ?_ | with_reducible refine zm ?_ | with_reducible refine zo ?_); simp [-cellOK, zv, zG, zR])); repeat' (first | ((first | refine zd ?_ | refine zh ?_ | refine dN (by decide +kernel) ?_ | refine dC (by decide +kernel) ?_ | (refine za ?_ ?_ <;> (intro hg; simp only [hg])) | fail) <;> simp [-cellOK, zv, zG, zR]) | refine zg ?_ | refine zc ?_ | (refine zs ?_; simp only [zt]; try simp) | (refine zl (by simp) ?_; simp) | (refine zx (by simp) (by simp [noIds]) (by repeat (first | assumption | exact Ext.refl _ | refine zu ?_ | refine Ext.setF ?_ (by first | assumption | (simp [ze, St.set, zf]; done) | exact zp (by assumption)))) ?_; simp [-cellOK, zv, zG, zR, zL]) | (refine zb (fun hc => ?_) (fun hc => ?_) <;> try simp at hc) | fail)
theorem zmX (q : Qy) (t u : Tk) (f g : Bool) (ht : t.path.length < 2 ^ 60) : PCalls Tryz.prog 166 [zaH q, zbb t f, zbb u g] (.raw (.bool (zdo t q.b))) := by
  have h := zdc t.path f q.b ht
  unfold zdo
  refine zK Tryz.func166 rfl (N := 12) rfl rfl (by simp) (by simp [noIds]) fun σ => ?_
  (try ((first | with_reducible refine zk ?_ | with_reducible refine zm ?_ | with_reducible refine zo ?_); simp [-cellOK, zv, zG, zR])); repeat' (first | ((first | refine zd ?_ | refine zh ?_ | refine dN (by decide +kernel) ?_ | refine dC (by decide +kernel) ?_ | refine uP (h) ?_ | refine .inl ⟨_, .inl (h), ?_⟩ | (refine za ?_ ?_ <;> (intro hg; simp only [hg])) | fail) <;> simp [-cellOK, zv, zG, zR]) | refine zg ?_ | refine zc ?_ | (refine zs ?_; simp only [zt]; try simp) | (refine zl (by simp) ?_; simp) | (refine zx (by simp) (by simp [noIds]) (by repeat (first | assumption | exact Ext.refl _ | refine zu ?_ | refine Ext.setF ?_ (by first | assumption | (simp [ze, St.set, zf]; done) | exact zp (by assumption)))) ?_; simp [-cellOK, zv, zG, zR, zL]) | (refine zb (fun hc => ?_) (fun hc => ?_) <;> try simp at hc) | fail)
theorem zmY (q : Qy) (t u : Tk) (f g : Bool) (ht : t.path.length < 2 ^ 60) : PCalls Tryz.prog 167 [zaH q, zbb t f, zbb u g] (.raw (.bool (zdE t q.b && !zdo t q.w))) := by
  have h0 := zg9 t f q.b
  have h := zdc t.path f q.w ht
  unfold zdo
  generalize (t.path.any fun x => decide (q.w = x)) = c at h ⊢
  generalize zdE t q.b = b at h0 ⊢
  refine zK Tryz.func167 rfl (N := 19) rfl rfl (by simp) (by simp [noIds]) fun σ => ?_
  cases b with
  | true => (try ((first | with_reducible refine zk ?_ | with_reducible refine zm ?_ | with_reducible refine zo ?_); simp [-cellOK, zv, zG, zR])); repeat' (first | ((first | refine zd ?_ | refine zh ?_ | refine dN (by decide +kernel) ?_ | refine dC (by decide +kernel) ?_ | refine uP (h0) ?_ | refine .inl ⟨_, .inl (h0), ?_⟩ | refine uP (h) ?_ | refine .inl ⟨_, .inl (h), ?_⟩ | (refine za ?_ ?_ <;> (intro hg; simp only [hg])) | fail) <;> simp [-cellOK, zv, zG, zR]) | refine zg ?_ | refine zc ?_ | (refine zs ?_; simp only [zt]; try simp) | (refine zl (by simp) ?_; simp) | (refine zx (by simp) (by simp [noIds]) (by repeat (first | assumption | exact Ext.refl _ | refine zu ?_ | refine Ext.setF ?_ (by first | assumption | (simp [ze, St.set, zf]; done) | exact zp (by assumption)))) ?_; simp [-cellOK, zv, zG, zR, zL]) | (refine zb (fun hc => ?_) (fun hc => ?_) <;> try simp at hc) | fail)
  | false => (try ((first | with_reducible refine zk ?_ | with_reducible refine zm ?_ | with_reducible refine zo ?_); simp [-cellOK, zv, zG, zR])); repeat' (first | ((first | refine zd ?_ | refine zh ?_ | refine dN (by decide +kernel) ?_ | refine dC (by decide +kernel) ?_ | refine uP (h0) ?_ | refine .inl ⟨_, .inl (h0), ?_⟩ | refine uP (h) ?_ | refine .inl ⟨_, .inl (h), ?_⟩ | (refine za ?_ ?_ <;> (intro hg; simp only [hg])) | fail) <;> simp [-cellOK, zv, zG, zR]) | refine zg ?_ | refine zc ?_ | (refine zs ?_; simp only [zt]; try simp) | (refine zl (by simp) ?_; simp) | (refine zx (by simp) (by simp [noIds]) (by repeat (first | assumption | exact Ext.refl _ | refine zu ?_ | refine Ext.setF ?_ (by first | assumption | (simp [ze, St.set, zf]; done) | exact zp (by assumption)))) ?_; simp [-cellOK, zv, zG, zR, zL]) | (refine zb (fun hc => ?_) (fun hc => ?_) <;> try simp at hc) | fail)
theorem zmZ (q : Qy) (t u : Tk) (f g : Bool) (ht : t.path.length < 2 ^ 60) (hu : u.path.length < 2 ^ 60) : PCalls Tryz.prog 168 [zaH q, zbb t f, zbb u g] (.raw (.bool (!decide (t = u)))) := by
  have h := zk8 t u f g ht hu
  generalize decide (t = u) = b at h ⊢
  refine zK Tryz.func168 rfl (N := 11) rfl rfl (by simp) (by simp [noIds]) fun σ => ?_
  (try ((first | with_reducible refine zk ?_ | with_reducible refine zm ?_ | with_reducible refine zo ?_); simp [-cellOK, zv, zG, zR])); repeat' (first | ((first | refine zd ?_ | refine zh ?_ | refine dN (by decide +kernel) ?_ | refine dC (by decide +kernel) ?_ | refine uP (h) ?_ | refine .inl ⟨_, .inl (h), ?_⟩ | (refine za ?_ ?_ <;> (intro hg; simp only [hg])) | fail) <;> simp [-cellOK, zv, zG, zR]) | refine zg ?_ | refine zc ?_ | (refine zs ?_; simp only [zt]; try simp) | (refine zl (by simp) ?_; simp) | (refine zx (by simp) (by simp [noIds]) (by repeat (first | assumption | exact Ext.refl _ | refine zu ?_ | refine Ext.setF ?_ (by first | assumption | (simp [ze, St.set, zf]; done) | exact zp (by assumption)))) ?_; simp [-cellOK, zv, zG, zR, zL]) | (refine zb (fun hc => ?_) (fun hc => ?_) <;> try simp at hc) | fail)
def zkz : AV := .agg [.fn (.func 162) [] [], .fn (.func 164) [] [], .fn (.func 165) [] [], .fn (.func 166) [] [], .fn (.func 167) [] [], .fn (.func 168) [] []]
theorem zlh : PCalls Tryz.prog 117 [] zkz := by
  refine zK Tryz.func117 rfl (N := 2) rfl rfl (by simp) (by simp [noIds, zkz]) fun σ => ?_
  unfold zkz
  have f0 : σ.m ⟨0, σ.nx 0, 6⟩ = none := zf _ _ _
  (try ((first | with_reducible refine zk ?_ | with_reducible refine zm ?_ | with_reducible refine zo ?_); simp [-cellOK])); repeat' (first | ((first | refine zd ?_ | refine zh ?_ | refine dN (by decide +kernel) ?_ | refine dC (by decide +kernel) ?_ | (refine za ?_ ?_ <;> (intro hg; simp only [hg])) | fail) <;> simp [-cellOK]) | refine zg ?_ | refine zc ?_ | (refine zs ?_; simp only [zt]; try simp) | (refine zl (by simp) ?_; simp) | (refine zx (by simp) (by simp [noIds]) (by repeat (first | assumption | exact Ext.refl _ | refine zu ?_ | refine Ext.setF ?_ (by first | assumption | (simp [ze, St.set, zf]; done) | exact zp (by assumption)))) ?_; simp [-cellOK, zL]) | (refine zb (fun hc => ?_) (fun hc => ?_) <;> try simp at hc) | fail)
end Go.Proofs.YtanimmdlgmkmkaaGreat.Av
namespace Go.Proofs.YtanimmdlgmkmkaaGreat.Av
open Go
set_option linter.unusedSimpArgs false
set_option linter.unusedVariables false
set_option maxRecDepth 100000
set_option maxHeartbeats 4000000
set_option pp.maxSteps 600
theorem PCalls.useFz {P : Program} {f : FuncId} {σ σ0 : St} {args args' : List AV} {r : AV} {K : AV → St → Prop} (j : Id) (h : PCalls P f args' r) (hj : σ0.m j = none) (hE : Ext σ0 σ) (ha : args.map (zD (σ.del j).m σ.m) = args')
    (k : ∀ τ, Ext σ0 τ → (∀ i o, i ≠ j → σ.m i = some o → τ.m i = some o) → (∀ s, σ.nx s ≤ τ.nx s) → K r τ) : ACalls P f args σ K := by
  refine ACalls.freeze j ?_
  rw [ha]
  refine h.use (k _ ⟨fun i o ho => ?_, hE.nx⟩ (fun i o hi ho => by rw [zag hi]; exact ho) fun _ => Nat.le_refl _)
  rw [zag (fun e => by rw [e, hj] at ho; cases ho)]; exact hE.m i o ho
def zhx (q : Qy) : Bool := q.other.toList == (ByteArray.toList ⟨#[]⟩)
def zaS (n : Nw) (q : Qy) : Bool :=
  !(decide (q.kind < 0) || (decide (5 < q.kind) || decide (q.r.hi < q.r.lo))) && (!([q.a, q.b, q.w].any (zcu n)) && ((zcE q || (decide (q.a = 0) && decide (q.b = 0))) && ((decide (q.kind = 4) || decide (q.w = 0)) && (decide (q.kind = 5) || zhx q))))
theorem zli (n : Nw) (f : Fl) (q : Qy) : PCalls Tryz.prog 16 [z7 n f, zaH q] (.raw (.bool (zaS n q))) := by
  have hs := zg8 q
  have hc := zhC (g := 64) (caps := [.pp (z7 n f).cells 0]) (p := zcu n) [q.a, q.b, q.w] false (by simp) (fun d _ => zl7 n f d)
  unfold zaS zhx
  generalize zcE q = sb at hs ⊢
  generalize [q.a, q.b, q.w].any (zcu n) = nb at hc ⊢
  obtain ⟨ob, hob⟩ : ∃ b, (q.other.toList == (ByteArray.toList ⟨#[]⟩)) = b := ⟨_, rfl⟩
  rw [hob]
  have hstr : ∀ op m, op = BinOp.eql → m = Value.string ⟨#[]⟩ → zas Tryz.prog op 9 (.raw (.string q.other)) (.raw m) = some (.raw (.bool ob)) := fun op m h1 h2 => by
    subst h1; subst h2
    show Option.map AV.raw (zet .eql q.other ⟨#[]⟩) = _
    simp only [zet, hob, Option.map_some]
  have hstr := hstr .eql _ rfl rfl
  refine zK Tryz.func16 rfl (N := 65) rfl rfl (by simp) (by simp [noIds]) fun σ => ?_
  repeat (refine zg ?_)
  refine zh ?_
  simp [-cellOK, zr, zv]
  refine zY ⟨2, σ.nx 2, 3⟩ ?_
  refine zY ⟨3, σ.nx 3, 7⟩ ?_
  generalize hτ : St.del _ _ = τ
  generalize hA : (fun t => zD _ _ _) = A
  have a2 : A 2 = .pp (z7 n f).cells 0 := by rw [← hA, ← hτ]; simp [zD, St.new, St.del, zr]
  have a3 : A 3 = .pp (zaH q).cells 0 := by rw [← hA, ← hτ]; simp [zD, St.new, St.del, zr, zv]
  have hE : Ext σ τ := by
    rw [← hτ]
    refine ⟨fun i o h => ?_, fun s => ?_⟩
    · have q1 : i ≠ ⟨2, σ.nx 2, 3⟩ := fun e => by rw [e, zf] at h; cases h
      have q2 : i ≠ ⟨3, σ.nx 3, 7⟩ := fun e => by rw [e, zf] at h; cases h
      simp [St.del, St.new, q1, q2, h]
    · simp only [St.del, St.new]
      repeat' split
      all_goals omega
  clear hτ hA
  by_cases k0 : q.kind < 0
  · (try ((first | with_reducible refine zk ?_ | with_reducible refine zm ?_ | with_reducible refine zo ?_); simp [-cellOK, a2, a3, zr, zv, k0])); repeat' (first | ((first | refine zd ?_ | refine zh ?_ | refine dN (by decide +kernel) ?_ | refine dC (by decide +kernel) ?_ | (refine za ?_ ?_ <;> (intro hg; simp only [hg])) | fail) <;> simp [-cellOK, a2, a3, zr, zv, k0]) | refine zg ?_ | refine zc ?_ | (refine zs ?_; simp only [zt]; try simp) | (refine zl (by simp) ?_; simp) | (refine zx (by simp) (by simp [noIds]) (by repeat (first | assumption | exact Ext.refl _ | refine zu ?_ | refine Ext.setF ?_ (by first | assumption | (simp [ze, St.set, zf]; done) | exact zp (by assumption)))) ?_; simp [-cellOK, a2, a3, zr, zv, k0, zL]) | (refine zb (fun hc => ?_) (fun hc => ?_) <;> try simp at hc) | fail)
  by_cases k1 : 5 < q.kind
  · (try ((first | with_reducible refine zk ?_ | with_reducible refine zm ?_ | with_reducible refine zo ?_); simp [-cellOK, a2, a3, zr, zv, k0, k1])); repeat' (first | ((first | refine zd ?_ | refine zh ?_ | refine dN (by decide +kernel) ?_ | refine dC (by decide +kernel) ?_ | (refine za ?_ ?_ <;> (intro hg; simp only [hg])) | fail) <;> simp [-cellOK, a2, a3, zr, zv, k0, k1]) | refine zg ?_ | refine zc ?_ | (refine zs ?_; simp only [zt]; try simp) | (refine zl (by simp) ?_; simp) | (refine zx (by simp) (by simp [noIds]) (by repeat (first | assumption | exact Ext.refl _ | refine zu ?_ | refine Ext.setF ?_ (by first | assumption | (simp [ze, St.set, zf]; done) | exact zp (by assumption)))) ?_; simp [-cellOK, a2, a3, zr, zv, k0, k1, zL]) | (refine zb (fun hc => ?_) (fun hc => ?_) <;> try simp at hc) | fail)
  by_cases k2 : q.r.hi < q.r.lo
  · (try ((first | with_reducible refine zk ?_ | with_reducible refine zm ?_ | with_reducible refine zo ?_); simp [-cellOK, a2, a3, zr, zv, k0, k1, k2])); repeat' (first | ((first | refine zd ?_ | refine zh ?_ | refine dN (by decide +kernel) ?_ | refine dC (by decide +kernel) ?_ | (refine za ?_ ?_ <;> (intro hg; simp only [hg])) | fail) <;> simp [-cellOK, a2, a3, zr, zv, k0, k1, k2]) | refine zg ?_ | refine zc ?_ | (refine zs ?_; simp only [zt]; try simp) | (refine zl (by simp) ?_; simp) | (refine zx (by simp) (by simp [noIds]) (by repeat (first | assumption | exact Ext.refl _ | refine zu ?_ | refine Ext.setF ?_ (by first | assumption | (simp [ze, St.set, zf]; done) | exact zp (by assumption)))) ?_; simp [-cellOK, a2, a3, zr, zv, k0, k1, k2, zL]) | (refine zb (fun hc => ?_) (fun hc => ?_) <;> try simp at hc) | fail)
  (try ((first | with_reducible refine zk ?_ | with_reducible refine zm ?_ | with_reducible refine zo ?_); simp [-cellOK, a2, a3, zr, zv, k0, k1, k2])); repeat' (first | ((first | refine zd ?_ | refine zh ?_ | refine dN (by decide +kernel) ?_ | refine dC (by decide +kernel) ?_ | (refine za ?_ ?_ <;> (intro hg; simp only [hg])) | fail) <;> simp [-cellOK, a2, a3, zr, zv, k0, k1, k2]) | refine zg ?_ | refine zc ?_ | (refine zs ?_; simp only [zt]; try simp) | (refine zl (by simp) ?_; simp) | (refine zx (by simp) (by simp [noIds]) (by repeat (first | assumption | exact Ext.refl _ | refine zu ?_ | refine Ext.setF ?_ (by first | assumption | (simp [ze, St.set, zf]; done) | exact zp (by assumption)))) ?_; simp [-cellOK, a2, a3, zr, zv, k0, k1, k2, zL]) | (refine zb (fun hc => ?_) (fun hc => ?_) <;> try simp at hc) | fail)
  refine hc.useFz (σ0 := σ) ⟨29, τ.nx 29, 1⟩ (zp hE) (by repeat (first | assumption | exact Ext.refl _ | refine zu ?_ | refine Ext.setF ?_ (by first | assumption | (simp [ze, St.set, zf]; done) | exact zp (by assumption)))) (by simp [zD, zz, zr, zq, iAV]) ?_
  intro τ' hE' _ _
  cases nb with
  | true => (try ((first | with_reducible refine zk ?_ | with_reducible refine zm ?_ | with_reducible refine zo ?_); simp [-cellOK, a2, a3, zr, zv, k0, k1, k2])); repeat' (first | ((first | refine zd ?_ | refine zh ?_ | refine dN (by decide +kernel) ?_ | refine dC (by decide +kernel) ?_ | (refine za ?_ ?_ <;> (intro hg; simp only [hg])) | fail) <;> simp [-cellOK, a2, a3, zr, zv, k0, k1, k2]) | refine zg ?_ | refine zc ?_ | (refine zs ?_; simp only [zt]; try simp) | (refine zl (by simp) ?_; simp) | (refine zx (by simp) (by simp [noIds]) (by repeat (first | assumption | exact Ext.refl _ | refine zu ?_ | refine Ext.setF ?_ (by first | assumption | (simp [ze, St.set, zf]; done) | exact zp (by assumption)))) ?_; simp [-cellOK, a2, a3, zr, zv, k0, k1, k2, zL]) | (refine zb (fun hc => ?_) (fun hc => ?_) <;> try simp at hc) | fail)
  | false =>
    (try ((first | with_reducible refine zk ?_ | with_reducible refine zm ?_ | with_reducible refine zo ?_); simp [-cellOK, a2, a3, zr, zv, zB, k0, k1, k2])); repeat' (first | ((first | refine zd ?_ | refine zh ?_ | refine dN (by decide +kernel) ?_ | refine dC (by decide +kernel) ?_ | (refine za ?_ ?_ <;> (intro hg; simp only [hg])) | fail) <;> simp [-cellOK, a2, a3, zr, zv, zB, k0, k1, k2]) | refine zg ?_ | refine zc ?_ | (refine zs ?_; simp only [zt]; try simp) | (refine zl (by simp) ?_; simp) | (refine zx (by simp) (by simp [noIds]) (by repeat (first | assumption | exact Ext.refl _ | refine zu ?_ | refine Ext.setF ?_ (by first | assumption | (simp [ze, St.set, zf]; done) | exact zp (by assumption)))) ?_; simp [-cellOK, a2, a3, zr, zv, zB, k0, k1, k2, zL]) | (refine zb (fun hc => ?_) (fun hc => ?_) <;> try simp at hc) | fail)
    refine hs.use ?_
    cases sb <;> by_cases qa : q.a = 0 <;> by_cases qb : q.b = 0 <;> by_cases k4 : q.kind = 4 <;> by_cases qw : q.w = 0 <;> by_cases k5 : q.kind = 5 <;> (first | (exfalso; omega) | ((try ((first | with_reducible refine zk ?_ | with_reducible refine zm ?_ | with_reducible refine zo ?_); simp [-cellOK, a2, a3, zr, zv, k0, k1, k2, qa, qb, qw, k4, k5, -zas, zae, hstr])); repeat' (first | ((first | refine zd ?_ | refine zh ?_ | refine dN (by decide +kernel) ?_ | refine dC (by decide +kernel) ?_ | (refine za ?_ ?_ <;> (intro hg; simp only [hg])) | fail) <;> simp [-cellOK, a2, a3, zr, zv, k0, k1, k2, qa, qb, qw, k4, k5, -zas, zae, hstr]) | refine zg ?_ | refine zc ?_ | (refine zs ?_; simp only [zt]; try simp) | (refine zl (by simp) ?_; simp) | (refine zx (by simp) (by simp [noIds]) (by repeat (first | assumption | exact Ext.refl _ | refine zu ?_ | refine Ext.setF ?_ (by first | assumption | (simp [ze, St.set, zf]; done) | exact zp (by assumption)))) ?_; simp [-cellOK, a2, a3, zr, zv, k0, k1, k2, qa, qb, qw, k4, k5, -zas, zae, hstr, zL]) | (refine zb (fun hc => ?_) (fun hc => ?_) <;> try simp at hc) | fail)))
def zX (n : Nw) (q : Qy) : List Int := if zcE q = true then [q.a] else (List.range n.t.ports.length).map fun i : Nat => (i : Int)
theorem zgE (n : Nw) (f : Fl) (q : Qy) (hl : n.t.ports.length < 2 ^ 44) : PCalls Tryz.prog 21 [z7 n f, zaH q] (zq (zX n q) false) := by
  have hs := zg8 q
  unfold zX
  generalize zcE q = sb at hs ⊢
  refine zK Tryz.func21 rfl (N := 25) rfl rfl (by simp) (by simp [noIds]) fun σ => ?_
  have hp : ∀ m, z9 Tryz.prog m 22 (zq n.t.ports f.p) = some (.raw (.int .i64 n.t.ports.length)) := fun m => by simp [zq]
  cases sb with
  | true =>
    (try ((first | with_reducible refine zk ?_ | with_reducible refine zm ?_ | with_reducible refine zo ?_); simp [-cellOK, zr, zv, zB, zz, ze])); repeat' (first | ((first | refine zd ?_ | refine zh ?_ | refine dN (by decide +kernel) ?_ | refine dC (by decide +kernel) ?_ | refine uP (hs) ?_ | refine .inl ⟨_, .inl (hs), ?_⟩ | (refine za ?_ ?_ <;> (intro hg; simp only [hg])) | fail) <;> simp [-cellOK, zr, zv, zB, zz, ze]) | refine zg ?_ | refine zc ?_ | (refine zs ?_; simp only [zt]; try simp) | (refine zb (fun hc => ?_) (fun hc => ?_) <;> try simp at hc) | fail)
    refine zbk (x := .rs ⟨11, σ.nx 11, 1⟩ 0 1) (.inr rfl) (by repeat (first | assumption | exact Ext.refl _ | refine zu ?_ | refine Ext.setF ?_ (by first | assumption | (simp [ze, St.set, zf]; done) | exact zp (by assumption)))) ?_ ?_
    · simp [ze]
    · simp [zak, zD, zf, zz, ze, zq, iAV]
  | false =>
    (try ((first | with_reducible refine zk ?_ | with_reducible refine zm ?_ | with_reducible refine zo ?_); simp [-cellOK, zr, zv, zB, zz, ze, -z9, hp])); repeat' (first | ((first | refine zd ?_ | refine zh ?_ | refine dN (by decide +kernel) ?_ | refine dC (by decide +kernel) ?_ | refine uP (hs) ?_ | refine .inl ⟨_, .inl (hs), ?_⟩ | (refine za ?_ ?_ <;> (intro hg; simp only [hg])) | fail) <;> simp [-cellOK, zr, zv, zB, zz, ze, -z9, hp]) | refine zg ?_ | refine zc ?_ | (refine zs ?_; simp only [zt]; try simp) | (refine zl (by simp) ?_; simp) | (refine zx (by simp) (by simp [noIds]) (by repeat (first | assumption | exact Ext.refl _ | refine zu ?_ | refine Ext.setF ?_ (by first | assumption | (simp [ze, St.set, zf]; done) | exact zp (by assumption)))) ?_; simp [-cellOK, zr, zv, zB, zz, ze, -z9, hp, zL]) | (refine zb (fun hc => ?_) (fun hc => ?_) <;> try simp at hc) | fail)
    refine zab (fun n' B ρ => Ext σ ρ ∧ B 15 = .raw (.int .i64 n.t.ports.length) ∧ ∃ (i : Nat) (v : AV), B 16 = .raw (.int .i64 i) ∧ i ≤ n.t.ports.length ∧ n' = n.t.ports.length - i ∧ B 5 = v ∧ OwnL σ ρ 1 v (((List.range i).map fun i : Nat => (i : Int)).map iAV)) n.t.ports.length ?_ ?_
    · exact ⟨(by repeat (first | assumption | exact Ext.refl _ | refine zu ?_ | refine Ext.setF ?_ (by first | assumption | (simp [ze, St.set, zf]; done) | exact zp (by assumption)))), by simp, 0, .sl 0 [] true, by simp, by omega, by omega, by simp, .inl ⟨by simp, rfl⟩⟩
    rintro n' B ρ ⟨hE, a15, i, v, a16, hi, rfl, a5, hO⟩ I1 hI1
    by_cases hlt : i < n.t.ports.length
    · have w1 : IntKind.i64.wrap ((i : Int) + 1) = ((i + 1 : Nat) : Int) := by rw [zU (by omega) (by omega)]; omega
      (try ((first | with_reducible refine zk ?_ | with_reducible refine zm ?_ | with_reducible refine zo ?_); simp [-cellOK, a5, a15, a16, hlt, w1, -zO])); repeat' (first | ((first | refine zd ?_ | refine zh ?_ | refine dN (by decide +kernel) ?_ | refine dC (by decide +kernel) ?_ | (refine za ?_ ?_ <;> (intro hg; simp only [hg])) | fail) <;> simp [-cellOK, a5, a15, a16, hlt, w1, -zO]) | refine zg ?_ | refine zc ?_ | (refine zs ?_; simp only [zt]; try simp) | (refine zl (by simp) ?_; simp) | (refine zx (by simp) (by simp [noIds]) (by repeat (first | assumption | exact Ext.refl _ | refine zu ?_ | refine Ext.setF ?_ (by first | assumption | (simp [ze, St.set, zf]; done) | exact zp (by assumption)))) ?_; simp [-cellOK, a5, a15, a16, hlt, w1, -zO, zL]) | (refine zb (fun hc => ?_) (fun hc => ?_) <;> try simp at hc) | fail)
      refine zaV zel (σ0 := σ) (hO.ext (by repeat (first | assumption | exact Ext.refl _ | refine zu ?_ | refine Ext.setF ?_ (by first | assumption | (simp [ze, St.set, zf]; done) | exact zp (by assumption))))) (by repeat (first | assumption | exact Ext.refl _ | refine zu ?_ | refine Ext.setF ?_ (by first | assumption | (simp [ze, St.set, zf]; done) | exact zp (by assumption)))) (ys := [iAV i]) (by simp [zz, ze, iAV]) (.inr rfl) (by simp [iAV]) (by simp; omega) ?_
      intro v' τ' hO' hE' _ _
      (try ((first | with_reducible refine zk ?_ | with_reducible refine zm ?_ | with_reducible refine zo ?_); simp [-cellOK, a5, a15, a16, w1])); repeat' (first | ((first | refine zd ?_ | refine zh ?_ | refine dN (by decide +kernel) ?_ | refine dC (by decide +kernel) ?_ | (refine za ?_ ?_ <;> (intro hg; simp only [hg])) | fail) <;> simp [-cellOK, a5, a15, a16, w1]) | refine zg ?_ | refine zc ?_ | (refine zs ?_; simp only [zt]; try simp) | (refine zl (by simp) ?_; simp) | (refine zx (by simp) (by simp [noIds]) (by repeat (first | assumption | exact Ext.refl _ | refine zu ?_ | refine Ext.setF ?_ (by first | assumption | (simp [ze, St.set, zf]; done) | exact zp (by assumption)))) ?_; simp [-cellOK, a5, a15, a16, w1, zL]) | (refine zb (fun hc => ?_) (fun hc => ?_) <;> try simp at hc) | fail)
      refine hI1 (n.t.ports.length - (i + 1)) _ _ (by omega) ⟨hE', by simp [a15], i + 1, v', by simp, by omega, rfl, by simp, ?_⟩
      rw [List.range_succ, List.map_append, List.map_append]
      exact hO'
    · have : i = n.t.ports.length := by omega
      subst this
      (try ((first | with_reducible refine zk ?_ | with_reducible refine zm ?_ | with_reducible refine zo ?_); simp [-cellOK, a5, a15, a16])); repeat' (first | ((first | refine zd ?_ | refine zh ?_ | refine dN (by decide +kernel) ?_ | refine dC (by decide +kernel) ?_ | (refine za ?_ ?_ <;> (intro hg; simp only [hg])) | fail) <;> simp [-cellOK, a5, a15, a16]) | refine zg ?_ | refine zc ?_ | (refine zs ?_; simp only [zt]; try simp) | (refine zb (fun hc => ?_) (fun hc => ?_) <;> try simp at hc) | fail)
      exact zds (v := v) (.inr rfl) (by simp) hO hE
def zaz (q : Qy) (t u : Tk) : Bool :=
  if q.kind = 0 then !zdE t q.b else if q.kind = 1 then decide (t.out = 4) else if q.kind = 2 then decide (t.out = 0) else if q.kind = 3 then zdo t q.b else if q.kind = 4 then zdE t q.b && !zdo t q.w else if q.kind = 5 then !decide (t = u) else false
theorem zlj (n m : Nw) (f g : Fl) (q : Qy) (t u : Tk) (ft fu : Bool) (ht : t.path.length < 2 ^ 60) (hu : u.path.length < 2 ^ 60) :
    PCalls Tryz.prog 67 [z7 n f, z7 m g, zaH q, zbb t ft, zbb u fu] (.raw (.bool (zaz q t u))) := by
  have h0 := zmU q t u ft fu
  have h1 := zmV q t u ft fu
  have h2 := zmW q t u ft fu
  have h3 := zmX q t u ft fu ht
  have h4 := zmY q t u ft fu ht
  have h5 := zmZ q t u ft fu ht hu
  have hb := zlh
  unfold zkz at hb
  unfold zaz
  refine zK Tryz.func67 rfl (N := 29) rfl rfl (by simp) (by simp [noIds]) fun σ => ?_
  by_cases k0 : q.kind < 0
  · rw [if_neg (by omega), if_neg (by omega), if_neg (by omega), if_neg (by omega), if_neg (by omega), if_neg (by omega)]
    have k0' : ¬ 0 ≤ q.kind := by omega
    (try ((first | with_reducible refine zk ?_ | with_reducible refine zm ?_ | with_reducible refine zo ?_); simp [-cellOK, zr, zv, zG, k0'])); repeat' (first | ((first | refine zd ?_ | refine zh ?_ | refine dN (by decide +kernel) ?_ | refine dC (by decide +kernel) ?_ | (refine za ?_ ?_ <;> (intro hg; simp only [hg])) | fail) <;> simp [-cellOK, zr, zv, zG, k0']) | refine zg ?_ | refine zc ?_ | (refine zs ?_; simp only [zt]; try simp) | (refine zl (by simp) ?_; simp) | (refine zx (by simp) (by simp [noIds]) (by repeat (first | assumption | exact Ext.refl _ | refine zu ?_ | refine Ext.setF ?_ (by first | assumption | (simp [ze, St.set, zf]; done) | exact zp (by assumption)))) ?_; simp [-cellOK, zr, zv, zG, k0', zL]) | (refine zb (fun hc => ?_) (fun hc => ?_) <;> try simp at hc) | fail)
  have k0' : 0 ≤ q.kind := by omega
  by_cases k6 : q.kind < 6
  · have : q.kind = 0 ∨ q.kind = 1 ∨ q.kind = 2 ∨ q.kind = 3 ∨ q.kind = 4 ∨ q.kind = 5 := by omega
    rcases this with k | k | k | k | k | k
    · have hf : AV.agg [.raw (.int .i64 0), .raw (.int .i64 q.a), .raw (.int .i64 q.b), .raw (.int .i64 q.w), .raw (.int .u32 q.r.lo), .raw (.int .u32 q.r.hi), .raw (.string q.other)] = zaH q := by rw [← k]; rfl
      rw [if_pos k]
      (try ((first | with_reducible refine zk ?_ | with_reducible refine zm ?_ | with_reducible refine zo ?_); simp [-cellOK, zr, zC, zv, hf, zG, zR, k])); repeat' (first | ((first | refine zd ?_ | refine zh ?_ | refine dN (by decide +kernel) ?_ | refine dC (by decide +kernel) ?_ | refine uP (hb) ?_ | refine .inl ⟨_, .inl (hb), ?_⟩ | refine uP (h0) ?_ | refine .inl ⟨_, .inl (h0), ?_⟩ | (refine za ?_ ?_ <;> (intro hg; simp only [hg])) | fail) <;> simp [-cellOK, zr, zC, zv, hf, zG, zR, k]) | refine zg ?_ | refine zc ?_ | (refine zs ?_; simp only [zt]; try simp) | (refine zl (by simp) ?_; simp) | (refine zx (by simp) (by simp [noIds]) (by repeat (first | assumption | exact Ext.refl _ | refine zu ?_ | refine Ext.setF ?_ (by first | assumption | (simp [ze, St.set, zf]; done) | exact zp (by assumption)))) ?_; simp [-cellOK, zr, zC, zv, hf, zG, zR, k, zL]) | (refine zb (fun hc => ?_) (fun hc => ?_) <;> try simp at hc) | fail)
    · have hf : AV.agg [.raw (.int .i64 1), .raw (.int .i64 q.a), .raw (.int .i64 q.b), .raw (.int .i64 q.w), .raw (.int .u32 q.r.lo), .raw (.int .u32 q.r.hi), .raw (.string q.other)] = zaH q := by rw [← k]; rfl
      rw [if_neg (by omega), if_pos k]
      (try ((first | with_reducible refine zk ?_ | with_reducible refine zm ?_ | with_reducible refine zo ?_); simp [-cellOK, zr, zC, zv, hf, zG, zR, k])); repeat' (first | ((first | refine zd ?_ | refine zh ?_ | refine dN (by decide +kernel) ?_ | refine dC (by decide +kernel) ?_ | refine uP (hb) ?_ | refine .inl ⟨_, .inl (hb), ?_⟩ | refine uP (h1) ?_ | refine .inl ⟨_, .inl (h1), ?_⟩ | (refine za ?_ ?_ <;> (intro hg; simp only [hg])) | fail) <;> simp [-cellOK, zr, zC, zv, hf, zG, zR, k]) | refine zg ?_ | refine zc ?_ | (refine zs ?_; simp only [zt]; try simp) | (refine zl (by simp) ?_; simp) | (refine zx (by simp) (by simp [noIds]) (by repeat (first | assumption | exact Ext.refl _ | refine zu ?_ | refine Ext.setF ?_ (by first | assumption | (simp [ze, St.set, zf]; done) | exact zp (by assumption)))) ?_; simp [-cellOK, zr, zC, zv, hf, zG, zR, k, zL]) | (refine zb (fun hc => ?_) (fun hc => ?_) <;> try simp at hc) | fail)
    · have hf : AV.agg [.raw (.int .i64 2), .raw (.int .i64 q.a), .raw (.int .i64 q.b), .raw (.int .i64 q.w), .raw (.int .u32 q.r.lo), .raw (.int .u32 q.r.hi), .raw (.string q.other)] = zaH q := by rw [← k]; rfl
      rw [if_neg (by omega), if_neg (by omega), if_pos k]
      (try ((first | with_reducible refine zk ?_ | with_reducible refine zm ?_ | with_reducible refine zo ?_); simp [-cellOK, zr, zC, zv, hf, zG, zR, k])); repeat' (first | ((first | refine zd ?_ | refine zh ?_ | refine dN (by decide +kernel) ?_ | refine dC (by decide +kernel) ?_ | refine uP (hb) ?_ | refine .inl ⟨_, .inl (hb), ?_⟩ | refine uP (h2) ?_ | refine .inl ⟨_, .inl (h2), ?_⟩ | (refine za ?_ ?_ <;> (intro hg; simp only [hg])) | fail) <;> simp [-cellOK, zr, zC, zv, hf, zG, zR, k]) | refine zg ?_ | refine zc ?_ | (refine zs ?_; simp only [zt]; try simp) | (refine zl (by simp) ?_; simp) | (refine zx (by simp) (by simp [noIds]) (by repeat (first | assumption | exact Ext.refl _ | refine zu ?_ | refine Ext.setF ?_ (by first | assumption | (simp [ze, St.set, zf]; done) | exact zp (by assumption)))) ?_; simp [-cellOK, zr, zC, zv, hf, zG, zR, k, zL]) | (refine zb (fun hc => ?_) (fun hc => ?_) <;> try simp at hc) | fail)
    · have hf : AV.agg [.raw (.int .i64 3), .raw (.int .i64 q.a), .raw (.int .i64 q.b), .raw (.int .i64 q.w), .raw (.int .u32 q.r.lo), .raw (.int .u32 q.r.hi), .raw (.string q.other)] = zaH q := by rw [← k]; rfl
      rw [if_neg (by omega), if_neg (by omega), if_neg (by omega), if_pos k]
      (try ((first | with_reducible refine zk ?_ | with_reducible refine zm ?_ | with_reducible refine zo ?_); simp [-cellOK, zr, zC, zv, hf, zG, zR, k])); repeat' (first | ((first | refine zd ?_ | refine zh ?_ | refine dN (by decide +kernel) ?_ | refine dC (by decide +kernel) ?_ | refine uP (hb) ?_ | refine .inl ⟨_, .inl (hb), ?_⟩ | refine uP (h3) ?_ | refine .inl ⟨_, .inl (h3), ?_⟩ | (refine za ?_ ?_ <;> (intro hg; simp only [hg])) | fail) <;> simp [-cellOK, zr, zC, zv, hf, zG, zR, k]) | refine zg ?_ | refine zc ?_ | (refine zs ?_; simp only [zt]; try simp) | (refine zl (by simp) ?_; simp) | (refine zx (by simp) (by simp [noIds]) (by repeat (first | assumption | exact Ext.refl _ | refine zu ?_ | refine Ext.setF ?_ (by first | assumption | (simp [ze, St.set, zf]; done) | exact zp (by assumption)))) ?_; simp [-cellOK, zr, zC, zv, hf, zG, zR, k, zL]) | (refine zb (fun hc => ?_) (fun hc => ?_) <;> try simp at hc) | fail)
    · have hf : AV.agg [.raw (.int .i64 4), .raw (.int .i64 q.a), .raw (.int .i64 q.b), .raw (.int .i64 q.w), .raw (.int .u32 q.r.lo), .raw (.int .u32 q.r.hi), .raw (.string q.other)] = zaH q := by rw [← k]; rfl
      rw [if_neg (by omega), if_neg (by omega), if_neg (by omega), if_neg (by omega), if_pos k]
      (try ((first | with_reducible refine zk ?_ | with_reducible refine zm ?_ | with_reducible refine zo ?_); simp [-cellOK, zr, zC, zv, hf, zG, zR, k])); repeat' (first | ((first | refine zd ?_ | refine zh ?_ | refine dN (by decide +kernel) ?_ | refine dC (by decide +kernel) ?_ | refine uP (hb) ?_ | refine .inl ⟨_, .inl (hb), ?_⟩ | refine uP (h4) ?_ | refine .inl ⟨_, .inl (h4), ?_⟩ | (refine za ?_ ?_ <;> (intro hg; simp only [hg])) | fail) <;> simp [-cellOK, zr, zC, zv, hf, zG, zR, k]) | refine zg ?_ | refine zc ?_ | (refine zs ?_; simp only [zt]; try simp) | (refine zl (by simp) ?_; simp) | (refine zx (by simp) (by simp [noIds]) (by repeat (first | assumption | exact Ext.refl _ | refine zu ?_ | refine Ext.setF ?_ (by first | assumption | (simp [ze, St.set, zf]; done) | exact zp (by assumption)))) ?_; simp [-cellOK, zr, zC, zv, hf, zG, zR, k, zL]) | (refine zb (fun hc => ?_) (fun hc => ?_) <;> try simp at hc) | fail)
    · have hf : AV.agg [.raw (.int .i64 5), .raw (.int .i64 q.a), .raw (.int .i64 q.b), .raw (.int .i64 q.w), .raw (.int .u32 q.r.lo), .raw (.int .u32 q.r.hi), .raw (.string q.other)] = zaH q := by rw [← k]; rfl
      rw [if_neg (by omega), if_neg (by omega), if_neg (by omega), if_neg (by omega), if_neg (by omega), if_pos k]
      (try ((first | with_reducible refine zk ?_ | with_reducible refine zm ?_ | with_reducible refine zo ?_); simp [-cellOK, zr, zC, zv, hf, zG, zR, k])); repeat' (first | ((first | refine zd ?_ | refine zh ?_ | refine dN (by decide +kernel) ?_ | refine dC (by decide +kernel) ?_ | refine uP (hb) ?_ | refine .inl ⟨_, .inl (hb), ?_⟩ | refine uP (h5) ?_ | refine .inl ⟨_, .inl (h5), ?_⟩ | (refine za ?_ ?_ <;> (intro hg; simp only [hg])) | fail) <;> simp [-cellOK, zr, zC, zv, hf, zG, zR, k]) | refine zg ?_ | refine zc ?_ | (refine zs ?_; simp only [zt]; try simp) | (refine zl (by simp) ?_; simp) | (refine zx (by simp) (by simp [noIds]) (by repeat (first | assumption | exact Ext.refl _ | refine zu ?_ | refine Ext.setF ?_ (by first | assumption | (simp [ze, St.set, zf]; done) | exact zp (by assumption)))) ?_; simp [-cellOK, zr, zC, zv, hf, zG, zR, k, zL]) | (refine zb (fun hc => ?_) (fun hc => ?_) <;> try simp at hc) | fail)
  · rw [if_neg (by omega), if_neg (by omega), if_neg (by omega), if_neg (by omega), if_neg (by omega), if_neg (by omega)]
    (try ((first | with_reducible refine zk ?_ | with_reducible refine zm ?_ | with_reducible refine zo ?_); simp [-cellOK, zr, zv, zG, k0', k6])); repeat' (first | ((first | refine zd ?_ | refine zh ?_ | refine dN (by decide +kernel) ?_ | refine dC (by decide +kernel) ?_ | (refine za ?_ ?_ <;> (intro hg; simp only [hg])) | fail) <;> simp [-cellOK, zr, zv, zG, k0', k6]) | refine zg ?_ | refine zc ?_ | (refine zs ?_; simp only [zt]; try simp) | (refine zl (by simp) ?_; simp) | (refine zx (by simp) (by simp [noIds]) (by repeat (first | assumption | exact Ext.refl _ | refine zu ?_ | refine Ext.setF ?_ (by first | assumption | (simp [ze, St.set, zf]; done) | exact zp (by assumption)))) ?_; simp [-cellOK, zr, zv, zG, k0', k6, zL]) | (refine zb (fun hc => ?_) (fun hc => ?_) <;> try simp at hc) | fail)
end Go.Proofs.YtanimmdlgmkmkaaGreat.Av
namespace Go.Proofs.YtanimmdlgmkmkaaGreat.Av
open Go
set_option linter.unusedSimpArgs false
set_option linter.unusedVariables false
set_option maxRecDepth 100000
set_option maxHeartbeats 4000000
set_option pp.maxSteps 600
structure Vd where
  holds : Bool
  src : Int
  addr : Int
  tr : Tk
deriving DecidableEq
def zb9 (v : Vd) (f : Bool) : AV := .agg [.raw (.bool v.holds), .raw (.int .i64 v.src), .raw (.int .u32 v.addr), zq v.tr.path f, .raw (.int .i64 v.tr.out), .raw (.int .i64 v.tr.last.dev), .raw (.int .i64 v.tr.last.port)]
theorem zau (v : Vd) (f : Bool) : (zb9 v f).cells = [.raw (.bool v.holds), .raw (.int .i64 v.src), .raw (.int .u32 v.addr), zq v.tr.path f, .raw (.int .i64 v.tr.out), .raw (.int .i64 v.tr.last.dev), .raw (.int .i64 v.tr.last.port)] := rfl
theorem zaN (h : Bool) (s a : Int) (t : Tk) (f : Bool) : AV.agg [.raw (.bool h), .raw (.int .i64 s), .raw (.int .u32 a), zq t.path f, .raw (.int .i64 t.out), .raw (.int .i64 t.last.dev), .raw (.int .i64 t.last.port)] = zb9 ⟨h, s, a, t⟩ f := rfl
@[simp] theorem zwe (K : Id → Prop) (v : Vd) (b : Bool) : (zb9 v b).ids K := by simp [zb9]
def zc2 : Tk := ⟨[], 0, ⟨0, 0⟩⟩
def zeB (n m : Nw) (q : Qy) (d : Int) : List Rg → Option Vd
  | [] => none
  | r :: rs => if zaz q (zaD n d r.lo).1 (zaD m d r.lo).1 = true then some ⟨false, d, r.lo, (zaD n d r.lo).1⟩ else zeB n m q d rs
def zcU (n m : Nw) (q : Qy) (P : List Rg) : List Int → Option Vd
  | [] => none
  | d :: ds => match zeB n m q d P with
    | some v => some v
    | none => zcU n m q P ds
def zdl (n m : Nw) (q : Qy) : Vd × Int :=
  if zaS n q = false ∨ (q.kind = 5 ∧ n.t ≠ m.t) then (⟨false, 0, 0, zc2⟩, 121) else
    match zcU n (if q.kind = 5 then m else n) q (zbZ [n, if q.kind = 5 then m else n] q.r) (zX n q) with
    | some v => (v, 0)
    | none => (⟨true, 0, 0, zc2⟩, 0)
theorem zj4 (b : Bool) (e : Int) : Weaker (.tup [.agg [.raw (.bool b), .raw (.int .i64 0), .raw (.int .u32 0), .sl 0 [] true, .raw (.int .i64 0), .raw (.int .i64 0), .raw (.int .i64 0)], .raw (.int .i64 e)]) (.tup [zb9 ⟨b, 0, 0, zc2⟩ false, .raw (.int .i64 e)]) := by
  intro S v h
  simp only [zb9, zc2, zq, List.map_nil, VRel, LRel] at h ⊢
  obtain ⟨l, rfl, u, us, h1, ⟨l2, rfl, h2⟩, h3⟩ := h
  refine ⟨l, rfl, _, us, h1, ⟨l2, rfl, ?_⟩, h3⟩
  obtain ⟨x1, y1, e1, p1, x2, y2, e2, p2, x3, y3, e3, p3, x4, y4, e4, ⟨base, cap, e, q1, q2, q3⟩, p5⟩ := h2
  exact ⟨x1, y1, e1, p1, x2, y2, e2, p2, x3, y3, e3, p3, x4, y4, e4, ⟨base, cap, e, q1, by simp, by simp⟩, p5⟩
def zcv : AV := .agg [.raw (.bool false), .raw (.int .i64 0), .raw (.int .u32 0), .sl 0 [] true, .raw (.int .i64 0), .raw (.int .i64 0), .raw (.int .i64 0)]
theorem zaC (a b c d e f g : AV) : setPart zcv 0 [a, b, c, d, e, f, g] = .agg [a, b, c, d, e, f, g] := rfl
theorem zaB : AV.agg [.raw (.bool false), .raw (.int .i64 0), .raw (.int .u32 0), .sl 0 [] true, .raw (.int .i64 0), .raw (.int .i64 0), .raw (.int .i64 0)] = zcv := rfl
theorem zan : zcv.cells = [.raw (.bool false), .raw (.int .i64 0), .raw (.int .u32 0), .sl 0 [] true, .raw (.int .i64 0), .raw (.int .i64 0), .raw (.int .i64 0)] := rfl
theorem zif (v : Vd) (f : Bool) : setPart zcv 0 (zb9 v f).cells = zb9 v f := rfl
theorem zoy (L : List Rg) : (zeK L).length ≤ 500 := by
  have : ∀ (L : List Rg) (s : Option (List Rg)), (s.getD []).length ≤ 500 → ((L.foldl zde s).getD []).length ≤ 500 := by
    intro L
    induction L with
    | nil => intro s h; exact h
    | cons r L ih =>
      intro s h
      rw [List.foldl_cons]
      refine ih _ ?_
      unfold zde
      split
      · simp
      · split
        · simp
        · simp only [Option.getD_some, List.length_cons]; omega
  exact this L (some []) (by simp)
theorem zha (L : List Rg) : (zaZ L).length ≤ 1 + 2 * L.length := by
  have hcc := zbo L
  have := zeb (m := 0 :: zcT L) (hcc.srt.imp fun h => by omega) fun x hx => by
    rw [List.mem_cons]; simp only [zcT, List.mem_flatMap]; exact (hcc.mem x).1 hx
  have := zg6 L
  simp only [List.length_cons] at *
  omega
theorem zlk (l : List Nw) (r : Rg) : (zbZ l r).length ≤ 1001 := by
  unfold zbZ
  split
  · simp
  · unfold zfw
    have h1 := List.length_filterMap_le (zby r) (zbc (zaZ (zeK (zaw l))))
    rw [zdd] at h1
    have h2 := zha (zeK (zaw l))
    have h3 := zoy (zaw l)
    omega
end Go.Proofs.YtanimmdlgmkmkaaGreat.Av
namespace Go.Proofs.YtanimmdlgmkmkaaGreat.Av
open Go
set_option linter.unusedSimpArgs false
set_option linter.unusedVariables false
set_option maxRecDepth 100000
set_option maxHeartbeats 2000000
set_option pp.maxSteps 300
def zar (n : Nw) : Bool := zdN n.t && (zd8 n.rules && zgm n.t n.rules)
end Go.Proofs.YtanimmdlgmkmkaaGreat.Av
namespace Go.Proofs.YtanimmdlgmkmkaaGreat.Av
open Go
set_option linter.unusedSimpArgs false
set_option linter.unusedVariables false
set_option maxRecDepth 100000
set_option maxHeartbeats 2000000
set_option pp.maxSteps 600
def zcJ (n : Nw) (d a : Int) : Int × Pt :=
  if zdQ n.rules d a = true then (2, ⟨0, 0⟩) else if n.rules.any (zbi d a false) = false then (0, ⟨0, 0⟩) else if (zbm (n.rules.filter (zbi d a false))).kind = 1 then (1, ⟨0, 0⟩)
  else if (zbq n.t.links ⟨d, (zbm (n.rules.filter (zbi d a false))).port⟩).isSome = true then (4, ⟨d, (zbm (n.rules.filter (zbi d a false))).port⟩) else (3, ⟨d, (zbm (n.rules.filter (zbi d a false))).port⟩)
theorem zkn (n : Nw) (f : Fl) (d a : Int) (hl : n.t.links.length < 2 ^ 60) (hl2 : n.rules.length < 2932031007403) :
    PCalls Tryz.prog 119 [z7 n f, .raw (.int .i64 d), .raw (.int .u32 a)] (.tup [.raw (.int .i64 (zcJ n d a).1), zS (zcJ n d a).2]) := by
  have hd := ziZ n.rules f.r d a hl2
  have hm := zjz n.rules f.r d a hl2
  have hn := fun p => zgC n.t f p hl
  unfold zcJ
  obtain ⟨b1, h1⟩ : ∃ b, zdQ n.rules d a = b := ⟨_, rfl⟩
  obtain ⟨b2, h2⟩ : ∃ b, n.rules.any (zbi d a false) = b := ⟨_, rfl⟩
  obtain ⟨r, hr⟩ : ∃ r, zbm (n.rules.filter (zbi d a false)) = r := ⟨_, rfl⟩
  rw [h1] at hd
  rw [h2, hr] at hm
  rw [h1, h2, hr]
  clear h1 h2 hr
  have hn := hn ⟨d, r.port⟩
  obtain ⟨b3, h3⟩ : ∃ b, (zbq n.t.links ⟨d, r.port⟩).isSome = b := ⟨_, rfl⟩
  obtain ⟨q, hq⟩ : ∃ q, (zbq n.t.links ⟨d, r.port⟩).getD ⟨0, 0⟩ = q := ⟨_, rfl⟩
  rw [h3, hq] at hn
  rw [h3]
  refine zK Tryz.func119 rfl (N := 50) rfl rfl (by simp) (by simp [noIds, zS]) fun σ => ?_
  have ho1 : cellOK (zq n.t.ports f.p) = true := rfl
  have ho2 : cellOK (zy n.t.links f.l) = true := rfl
  have ho3 : cellOK (zE n.rules f.r) = true := rfl
  simp only [cellOK] at ho1 ho2 ho3
  have hpf : ∀ x y : Int, AV.agg [.raw (.int .i64 x), .raw (.int .i64 y)] = zS ⟨x, y⟩ := fun _ _ => rfl
  have hpc : ∀ q : Pt, (zS q).cells = [.raw (.int .i64 q.dev), .raw (.int .i64 q.port)] := fun q => rfl
  have hps : ∀ (q : Pt) (x y : Int), setPart (zS q) 0 [.raw (.int .i64 x), .raw (.int .i64 y)] = zS ⟨x, y⟩ := fun _ _ _ => rfl
  have f7 : σ.m ⟨7, σ.nx 7, 2⟩ = none := zf _ _ _
  have hnf : AV.agg [zq n.t.ports f.p, zy n.t.links f.l] = zaT n.t f := rfl
  (try ((first | with_reducible refine zk ?_ | with_reducible refine zm ?_ | with_reducible refine zo ?_); simp [zr, ho1, ho2, ho3, hpf, hpc, hps])); repeat' (first | ((first | refine zd ?_ | refine zh ?_ | refine dN (by decide +kernel) ?_ | (refine za ?_ ?_ <;> (intro hg; simp only [hg])) | fail) <;> simp [zr, ho1, ho2, ho3, hpf, hpc, hps]) | refine zg ?_ | refine zc ?_ | (refine zs ?_; simp only [zt]; try simp) | ((first | refine zl (by simp) ?_ | refine zw (by simp) (by simp) (by simp (maxDischargeDepth := 30) [zr, ho1, ho2, ho3, hpf, hpc, hps]) ?_ | fail); simp) | (refine zb (fun hc => ?_) (fun hc => ?_) <;> try simp at hc) | fail)
  refine PCalls.use hd ?_
  cases b1 with
  | true =>
    (try ((first | with_reducible refine zk ?_ | with_reducible refine zm ?_ | with_reducible refine zo ?_); simp [zr, ho1, ho2, ho3, hpf, hpc, hps])); repeat' (first | ((first | refine zd ?_ | refine zh ?_ | refine dN (by decide +kernel) ?_ | (refine za ?_ ?_ <;> (intro hg; simp only [hg])) | fail) <;> simp [zr, ho1, ho2, ho3, hpf, hpc, hps]) | refine zg ?_ | refine zc ?_ | (refine zs ?_; simp only [zt]; try simp) | (refine zb (fun hc => ?_) (fun hc => ?_) <;> try simp at hc) | fail)
    refine zw (.inr rfl) rfl (by repeat (first | exact Ext.refl _ | refine zu ?_ | refine Ext.setF ?_ (by simp [ze, St.set, zf]))) ?_
    simp [St.set, St.new, hpc, hpf, hps]
  | false =>
    (try ((first | with_reducible refine zk ?_ | with_reducible refine zm ?_ | with_reducible refine zo ?_); simp [zr, ho1, ho2, ho3, hpf, hpc, hps])); repeat' (first | ((first | refine zd ?_ | refine zh ?_ | refine dN (by decide +kernel) ?_ | (refine za ?_ ?_ <;> (intro hg; simp only [hg])) | fail) <;> simp [zr, ho1, ho2, ho3, hpf, hpc, hps]) | refine zg ?_ | refine zc ?_ | (refine zs ?_; simp only [zt]; try simp) | ((first | refine zl (by simp) ?_ | refine zw (by simp) (by simp) (by simp (maxDischargeDepth := 30) [zr, ho1, ho2, ho3, hpf, hpc, hps]) ?_ | fail); simp) | (refine zb (fun hc => ?_) (fun hc => ?_) <;> try simp at hc) | fail)
    refine PCalls.use hm ?_
    cases b2 with
    | false =>
      (try ((first | with_reducible refine zk ?_ | with_reducible refine zm ?_ | with_reducible refine zo ?_); simp [zr, ho1, ho2, ho3, hpf, hpc, hps, zF, zam, zP])); repeat' (first | ((first | refine zd ?_ | refine zh ?_ | refine dN (by decide +kernel) ?_ | (refine za ?_ ?_ <;> (intro hg; simp only [hg])) | fail) <;> simp [zr, ho1, ho2, ho3, hpf, hpc, hps, zF, zam, zP]) | refine zg ?_ | refine zc ?_ | (refine zs ?_; simp only [zt]; try simp) | (refine zb (fun hc => ?_) (fun hc => ?_) <;> try simp at hc) | fail)
      refine zw (.inr rfl) rfl (by repeat (first | exact Ext.refl _ | refine zu ?_ | refine Ext.setF ?_ (by simp [ze, St.set, zf]))) ?_
      simp [St.set, St.new, hpc, hpf, hps]
    | true =>
      by_cases hk : r.kind = 1
      · (try ((first | with_reducible refine zk ?_ | with_reducible refine zm ?_ | with_reducible refine zo ?_); simp [zr, ho1, ho2, ho3, hpf, hpc, hps, zF, zam, zP, hk])); repeat' (first | ((first | refine zd ?_ | refine zh ?_ | refine dN (by decide +kernel) ?_ | (refine za ?_ ?_ <;> (intro hg; simp only [hg])) | fail) <;> simp [zr, ho1, ho2, ho3, hpf, hpc, hps, zF, zam, zP, hk]) | refine zg ?_ | refine zc ?_ | (refine zs ?_; simp only [zt]; try simp) | (refine zb (fun hc => ?_) (fun hc => ?_) <;> try simp at hc) | fail)
        refine zw (.inr rfl) rfl (by repeat (first | exact Ext.refl _ | refine zu ?_ | refine Ext.setF ?_ (by simp [ze, St.set, zf]))) ?_
        simp [St.set, St.new, hpc, hpf, hps, hk]
      · (try ((first | with_reducible refine zk ?_ | with_reducible refine zm ?_ | with_reducible refine zo ?_); simp [zr, ho1, ho2, ho3, hpf, hpc, hps, zF, zam, zP, hk, hnf, zz, zA, ze])); repeat' (first | ((first | refine zd ?_ | refine zh ?_ | refine dN (by decide +kernel) ?_ | (refine za ?_ ?_ <;> (intro hg; simp only [hg])) | fail) <;> simp [zr, ho1, ho2, ho3, hpf, hpc, hps, zF, zam, zP, hk, hnf, zz, zA, ze]) | refine zg ?_ | refine zc ?_ | (refine zs ?_; simp only [zt]; try simp) | ((first | refine zl (by simp) ?_ | refine zw (by simp) (by simp) (by simp (maxDischargeDepth := 30) [zr, ho1, ho2, ho3, hpf, hpc, hps, zF, zam, zP, hk, hnf, zz, zA, ze]) ?_ | fail); simp) | (refine zb (fun hc => ?_) (fun hc => ?_) <;> try simp at hc) | fail)
        refine PCalls.use hn ?_
        cases b3 with
        | true =>
          (try ((first | with_reducible refine zk ?_ | with_reducible refine zm ?_ | with_reducible refine zo ?_); simp [zr, ho1, ho2, ho3, hpf, hpc, hps, zF, zam, zP, hk, hnf, zz, zA, ze])); repeat' (first | ((first | refine zd ?_ | refine zh ?_ | refine dN (by decide +kernel) ?_ | (refine za ?_ ?_ <;> (intro hg; simp only [hg])) | fail) <;> simp [zr, ho1, ho2, ho3, hpf, hpc, hps, zF, zam, zP, hk, hnf, zz, zA, ze]) | refine zg ?_ | refine zc ?_ | (refine zs ?_; simp only [zt]; try simp) | (refine zb (fun hc => ?_) (fun hc => ?_) <;> try simp at hc) | fail)
          refine zw (.inr rfl) rfl (by repeat (first | exact Ext.refl _ | refine zu ?_ | refine Ext.setF ?_ (by simp [ze, St.set, zf]))) ?_
          simp [St.set, St.new, hpc, hpf, hps, hk]
        | false =>
          (try ((first | with_reducible refine zk ?_ | with_reducible refine zm ?_ | with_reducible refine zo ?_); simp [zr, ho1, ho2, ho3, hpf, hpc, hps, zF, zam, zP, hk, hnf, zz, zA, ze])); repeat' (first | ((first | refine zd ?_ | refine zh ?_ | refine dN (by decide +kernel) ?_ | (refine za ?_ ?_ <;> (intro hg; simp only [hg])) | fail) <;> simp [zr, ho1, ho2, ho3, hpf, hpc, hps, zF, zam, zP, hk, hnf, zz, zA, ze]) | refine zg ?_ | refine zc ?_ | (refine zs ?_; simp only [zt]; try simp) | (refine zb (fun hc => ?_) (fun hc => ?_) <;> try simp at hc) | fail)
          refine zw (.inr rfl) rfl (by repeat (first | exact Ext.refl _ | refine zu ?_ | refine Ext.setF ?_ (by simp [ze, St.set, zf]))) ?_
          simp [St.set, St.new, hpc, hpf, hps, hk]
end Go.Proofs.YtanimmdlgmkmkaaGreat.Av
namespace Go.Proofs.YtanimmdlgmkmkaaGreat.Av
open Go
set_option linter.unusedSimpArgs false
set_option linter.unusedVariables false
set_option maxRecDepth 100000
def zhy (m : List (Pt × Pt)) (p : Pt) : Option Pt := (m.find? fun e => decide (p = e.1)).map (·.2)
theorem zj5 (m : List (Pt × Pt)) (k v p : Pt) : zhy (upd m k v) p = if p = k then some v else zhy m p := by
  unfold zhy upd
  rw [List.find?_append, List.find?_filter]
  by_cases h : p = k
  · have : m.find? (fun a => decide (decide (k ≠ a.1) = true ∧ decide (p = a.1) = true)) = none := by
      rw [List.find?_eq_none]
      intro x hx
      subst h
      simp
    rw [this, if_pos h]
    simp [h]
  · have : (fun a : Pt × Pt => decide (decide (k ≠ a.1) = true ∧ decide (p = a.1) = true)) = fun a => decide (p = a.1) := by
      funext a
      by_cases h2 : p = a.1
      · have : k ≠ a.1 := fun q => h (h2.trans q.symm)
        simp [h2, this]
      · simp [h2]
    rw [this, if_neg h]
    simp [h]
def zbd : List Lk → List Pt
  | [] => []
  | l :: ls => l.a :: l.b :: zbd ls
theorem zhb {ls : List Lk} {p : Pt} (h : p ∉ zbd ls) : zbq ls p = none := by
  induction ls with
  | nil => rfl
  | cons l ls ih =>
    simp only [zbd, List.mem_cons, not_or] at h
    simp only [zbq]
    rw [if_neg (fun q => h.1 q.symm), if_neg (fun q => h.2.1 q.symm)]
    exact ih h.2.2
theorem znL (ls : List Lk) (m : List (Pt × Pt)) (p : Pt) (h : (zbd ls).Nodup) :
    zhy (ls.foldl (fun m l => upd (upd m l.a l.b) l.b l.a) m) p = (zbq ls p).or (zhy m p) := by
  induction ls generalizing m with
  | nil => simp [zbq]
  | cons l ls ih =>
    simp only [zbd, List.nodup_cons, List.mem_cons, not_or] at h
    obtain ⟨⟨hab, ha⟩, hb, hn⟩ := h
    rw [List.foldl_cons, ih _ hn, zj5, zj5]
    simp only [zbq]
    by_cases h1 : l.a = p
    · subst h1
      rw [zhb ha, if_neg hab]
      simp
    · by_cases h2 : l.b = p
      · subst h2
        rw [zhb hb]
        simp [h1]
      · have h1' : ¬ p = l.a := fun q => h1 q.symm
        have h2' : ¬ p = l.b := fun q => h2 q.symm
        simp [h1, h2, h1', h2']
theorem zll (t : Tp) (p : Pt) (h : (zbd t.links).Nodup) : zb8 t p = zbq t.links p := by
  have := znL t.links [] p h
  unfold zhy at this
  unfold zb8 zb7
  rw [this]
  simp
end Go.Proofs.YtanimmdlgmkmkaaGreat.Av
namespace Go.Proofs.YtanimmdlgmkmkaaGreat.Av
open Go
set_option linter.unusedSimpArgs false
set_option linter.unusedVariables false
set_option maxRecDepth 100000
theorem zmj (m : List (Pt × Pt)) (k v : Pt) : (upd m k v).length ≤ m.length + 1 ∧ ((upd m k v).length = m.length + 1 ↔ k ∉ m.map (·.1)) := by
  have hle : (m.filter fun e => decide (k ≠ e.1)).length ≤ m.length := List.length_filter_le _ _
  have hl : (upd m k v).length = (m.filter fun e => decide (k ≠ e.1)).length + 1 := by simp [upd]
  refine ⟨by omega, ?_⟩
  rw [hl]
  constructor
  · intro h hk
    obtain ⟨e, he, rfl⟩ := List.mem_map.1 hk
    have := List.length_filter_lt_length_iff_exists (p := fun x : Pt × Pt => decide (e.1 ≠ x.1)) (l := m) |>.2 ⟨e, he, by simp⟩
    omega
  · intro h
    have : (m.filter fun e => decide (k ≠ e.1)) = m := by
      rw [List.filter_eq_self]
      intro x hx
      simp only [decide_eq_true_eq]
      intro q
      exact h (q ▸ List.mem_map.2 ⟨x, hx, rfl⟩)
    rw [this]
theorem zoz (m : List (Pt × Pt)) (k v x : Pt) : x ∈ (upd m k v).map (·.1) ↔ x = k ∨ x ∈ m.map (·.1) := by
  simp only [upd, List.map_append, List.mem_append, List.map_cons, List.map_nil, List.mem_singleton]
  constructor
  · rintro (h | h)
    · obtain ⟨e, he, rfl⟩ := List.mem_map.1 h
      exact .inr (List.mem_map.2 ⟨e, (List.mem_filter.1 he).1, rfl⟩)
    · exact .inl h
  · rintro (h | h)
    · exact .inr h
    · by_cases q : x = k
      · exact .inr q
      · obtain ⟨e, he, rfl⟩ := List.mem_map.1 h
        exact .inl (List.mem_map.2 ⟨e, List.mem_filter.2 ⟨he, by simpa using fun r => q r.symm⟩, rfl⟩)
theorem zoA (ls : List Lk) (m : List (Pt × Pt)) :
    (ls.foldl (fun m l => upd (upd m l.a l.b) l.b l.a) m).length ≤ m.length + 2 * ls.length ∧
    ((ls.foldl (fun m l => upd (upd m l.a l.b) l.b l.a) m).length = m.length + 2 * ls.length ↔ (zbd ls).Nodup ∧ ∀ p ∈ zbd ls, p ∉ m.map (·.1)) := by
  induction ls generalizing m with
  | nil => simp [zbd]
  | cons l ls ih =>
    obtain ⟨i1, i2⟩ := ih (upd (upd m l.a l.b) l.b l.a)
    obtain ⟨a1, a2⟩ := zmj m l.a l.b
    obtain ⟨b1, b2⟩ := zmj (upd m l.a l.b) l.b l.a
    rw [List.foldl_cons, List.length_cons]
    refine ⟨by omega, ?_⟩
    simp only [zoz, not_or] at b2 i2
    simp only [zbd, List.nodup_cons, List.mem_cons, not_or]
    constructor
    · intro h
      have h1 := a2.1 (by omega)
      have h2 := b2.1 (by omega)
      have h3 := i2.1 (by omega)
      refine ⟨⟨⟨fun q => h2.1 q.symm, fun q => (h3.2 _ q).2.1 rfl⟩, fun q => (h3.2 _ q).1 rfl, h3.1⟩, ?_⟩
      rintro p (rfl | rfl | hp)
      · exact h1
      · exact h2.2
      · exact (h3.2 _ hp).2.2
    · rintro ⟨⟨⟨hab, ha⟩, hb, hn⟩, hd⟩
      have e1 := a2.2 (hd _ (.inl rfl))
      have e2 := b2.2 ⟨fun q => hab q.symm, hd _ (.inr (.inl rfl))⟩
      have e3 := i2.2 ⟨hn, fun p hp => ⟨fun q => hb (q ▸ hp), fun q => ha (q ▸ hp), hd _ (.inr (.inr hp))⟩⟩
      omega
theorem zgr (ls : List Lk) : (zb7 ls).length = 2 * ls.length ↔ (zbd ls).Nodup := by
  have := (zoA ls []).2
  simpa [zb7] using this
end Go.Proofs.YtanimmdlgmkmkaaGreat.Av
namespace Go.Proofs.YtanimmdlgmkmkaaGreat.Av
open Go
set_option linter.unusedSimpArgs false
set_option linter.unusedVariables false
set_option maxRecDepth 100000
theorem zhT {l : List Ru} {last : Int} (h : zdD last l = true) : ∀ r ∈ l, zdO r = true := by
  induction l generalizing last with
  | nil => simp
  | cons x l ih =>
    simp only [zdD, Bool.and_eq_true] at h
    intro r hr
    rcases List.mem_cons.1 hr with rfl | hr
    · exact h.1.1
    · exact ih h.2 r hr
theorem zfi {l : List Ru} (h : zd8 l = true) : ∀ r ∈ l, 0 ≤ r.kind ∧ r.kind ≤ 3 := by
  intro r hr
  have := zhT (Bool.and_eq_true _ _ ▸ h : _ ∧ _).1 r hr
  simp only [zdO, Bool.and_eq_true, decide_eq_true_eq] at this
  exact this.1.1.1.2
theorem zi7 {l : List Ru} {p q : Ru → Bool} (h : ∀ r ∈ l, p r = q r) : l.any p = l.any q := by
  induction l with
  | nil => rfl
  | cons x l ih =>
    rw [List.any_cons, List.any_cons, h x (by simp), ih fun r hr => h r (List.mem_cons_of_mem _ hr)]
theorem zm0 {l : List Ru} (h : zd8 l = true) (d a : Int) : l.filter (zbi d a true) = l.filter (zfr d a) := List.filter_congr fun r hr => zla (zfi h r hr) d a
theorem zm1 {l : List Ru} (h : zd8 l = true) (d a : Int) : l.filter (zbi d a false) = l.filter (zfs d a) := List.filter_congr fun r hr => zlb (zfi h r hr) d a
theorem zo6 {l : List Ru} (h : zd8 l = true) (d a : Int) : l.any (zbi d a true) = l.any (zfr d a) := zi7 fun r hr => zla (zfi h r hr) d a
theorem zo7 {l : List Ru} (h : zd8 l = true) (d a : Int) : l.any (zbi d a false) = l.any (zfs d a) := zi7 fun r hr => zlb (zfi h r hr) d a
theorem zhc {t : Tp} (h : zdN t = true) : (zbd t.links).Nodup := by
  simp only [zdN, Bool.and_eq_true, decide_eq_true_eq] at h
  exact (zgr _).1 h.2.2.2.2.2
theorem zo8 {n : Nw} (h : zar n = true) (d a : Int) : zcJ n d a = zZ n d a := by
  simp only [zar, Bool.and_eq_true] at h
  obtain ⟨ht, hr, -⟩ := h
  unfold zcJ zZ zdQ zfQ zg3 zey
  rw [zm0 hr, zm1 hr, zo6 hr, zo7 hr, zll _ _ (zhc ht)]
end Go.Proofs.YtanimmdlgmkmkaaGreat.Av
namespace Go.Proofs.YtanimmdlgmkmkaaGreat.Av
set_option linter.unusedSimpArgs false
set_option linter.unusedVariables false
def zte (L : List Rg) (a b : Int) : Prop := ∀ x ∈ zaZ L, (x ≤ a ↔ x ≤ b)
theorem zoB {c : List Int} {L : List Rg} (h : Cuts c L) {x : Int} (h0 : 0 ≤ x) (h1 : x < 4294967296) : ∃ a ∈ zbc c, a.lo ≤ x ∧ x ≤ a.hi := by
  obtain ⟨p, hp⟩ : ∃ p, c.countP (fun y => decide (y ≤ x)) = p + 1 := ⟨_, (Nat.succ_pred_eq_of_pos (h.pos h0)).symm⟩
  have hle : c.countP (fun y => decide (y ≤ x)) ≤ c.length := List.countP_le_length
  have hpl : p < c.length := by omega
  have hci : c[p]? = some c[p] := List.getElem?_eq_getElem hpl
  have hs := zgp h.srt x
  have k1 := (hs p _ hci).2 (by omega)
  have hg := zdU c p
  rw [hci] at hg
  refine ⟨_, List.mem_of_getElem? hg, k1, ?_⟩
  simp only []
  cases hn : c[p + 1]? with
  | none => simp only []; omega
  | some y =>
    have := hs _ _ hn
    simp only []
    have : ¬ y ≤ x := fun hyx => by have := this.1 hyx; omega
    omega
theorem zoC {c : List Int} {L : List Rg} (h : Cuts c L) {r : Rg} {x : Int} (h0 : 0 ≤ x) (h1 : x < 4294967296) (hx : r.lo ≤ x ∧ x ≤ r.hi) : ∃ p ∈ zfw c r, p.lo ≤ x ∧ x ≤ p.hi := by
  obtain ⟨a, ha, k1, k2⟩ := zoB h h0 h1
  refine ⟨⟨max a.lo r.lo, min a.hi r.hi⟩, ?_, by simp only []; omega⟩
  unfold zfw
  refine List.mem_filterMap.2 ⟨a, ha, ?_⟩
  unfold zby
  rw [if_pos (by omega)]
theorem zj6 {n m : Nw} {q : Qy} {d : Int} {v : Vd} : ∀ {P : List Rg}, zeB n m q d P = some v → ∃ p ∈ P, v = ⟨false, d, p.lo, (zaD n d p.lo).1⟩ ∧ zaz q (zaD n d p.lo).1 (zaD m d p.lo).1 = true
  | [], h => by simp [zeB] at h
  | r :: rs, h => by
    simp only [zeB] at h
    split at h
    · rename_i hb
      simp only [Option.some.injEq] at h
      exact ⟨r, by simp, h.symm, hb⟩
    · obtain ⟨p, hp, h1, h2⟩ := zj6 h
      exact ⟨p, by simp [hp], h1, h2⟩
theorem zi8 {n m : Nw} {q : Qy} {P : List Rg} {v : Vd} : ∀ {S : List Int}, zcU n m q P S = some v → ∃ d ∈ S, ∃ p ∈ P, v = ⟨false, d, p.lo, (zaD n d p.lo).1⟩ ∧ zaz q (zaD n d p.lo).1 (zaD m d p.lo).1 = true
  | [], h => by simp [zcU] at h
  | d :: ds, h => by
    simp only [zcU] at h
    cases hs : zeB n m q d P with
    | none =>
      rw [hs] at h
      obtain ⟨d', hd, p, hp, h1, h2⟩ := zi8 h
      exact ⟨d', by simp [hd], p, hp, h1, h2⟩
    | some w =>
      rw [hs] at h
      simp only [Option.some.injEq] at h
      subst h
      obtain ⟨p, hp, h1, h2⟩ := zj6 hs
      exact ⟨d, by simp, p, hp, h1, h2⟩
theorem zeq {n : Nw} (h : zar n = true) : (∀ r ∈ n.rules, zdO r = true) ∧ n.rules.length ≤ 40 := by
  unfold zar at h
  simp only [Bool.and_eq_true] at h
  have h2 := h.2.1
  unfold zd8 at h2
  simp only [Bool.and_eq_true, decide_eq_true_eq] at h2
  exact ⟨zhT h2.1, h2.2⟩
theorem zo9 {r : Ru} (h : zdO r = true) : r.r.lo ≤ r.r.hi := by
  unfold zdO at h
  simp only [Bool.and_eq_true, decide_eq_true_eq] at h
  exact h.2
theorem znM {l : List Nw} (h : ∀ n ∈ l, zar n = true) : ∀ r ∈ zaw l, r.lo ≤ r.hi := by
  intro r hr
  unfold zaw at hr
  obtain ⟨n, hn, hr⟩ := List.mem_flatMap.1 hr
  obtain ⟨x, hx, rfl⟩ := List.mem_map.1 hr
  exact zo9 ((zeq (h n hn)).1 x hx)
theorem zm2 {l : List Nw} (h : ∀ n ∈ l, zar n = true) (hl : l.length ≤ 12) : zeK (zaw l) = (zaw l).reverse := by
  refine zlg (znM h) ?_
  have : ∀ l : List Nw, (∀ n ∈ l, zar n = true) → (zaw l).length ≤ 40 * l.length := by
    intro l
    induction l with
    | nil => intro _; simp [zaw]
    | cons n l ih =>
      intro h
      have h1 := (zeq (h n (by simp))).2
      have h2 := ih fun m hm => h m (by simp [hm])
      simp only [zaw, List.flatMap_cons, List.length_append, List.length_map, List.length_cons] at h2 ⊢
      omega
  have := this l h
  omega
theorem zm3 {l : List Nw} (h : ∀ n ∈ l, zar n = true) (hl : l.length ≤ 12) : zaZ (zeK (zaw l)) = zaZ (zaw l) := by
  rw [zm2 h hl]; exact zi4 (List.reverse_perm _)
theorem zi9 {l : List Nw} (h : ∀ n ∈ l, zar n = true) (hl : l.length ≤ 12) {r : Rg} (hr : r.lo ≤ r.hi) : zbZ l r = zfw (zaZ (zaw l)) r := by
  unfold zbZ
  rw [if_neg (by omega), zm3 h hl]
end Go.Proofs.YtanimmdlgmkmkaaGreat.Av
namespace Go.Proofs.YtanimmdlgmkmkaaGreat.Av
open Go
set_option linter.unusedSimpArgs false
set_option linter.unusedVariables false
set_option maxRecDepth 100000
set_option pp.maxSteps 600
def zcM : List Pt → Bool
  | [] => true
  | p :: l => !l.contains p && zcM l
theorem zeL (l : List Pt) : zcM l = true ↔ l.Nodup := by
  induction l with
  | nil => simp [zcM]
  | cons p l ih => simp [zcM, ih]
def zce (t : Tp) : Bool := !decide (t.ports.length < 1) && (!decide (8 < t.ports.length) && (!decide (16 < t.links.length) && (t.ports.all (fun n => decide (1 ≤ n) && decide (n ≤ 4)) && ((zbd t.links).all (hasB t) && zcM (zbd t.links)))))
theorem zl8 {t : Tp} (ls : List Lk) (hn : (zbd ls).Nodup) : ls.any (zhw t) = !(zbd ls).all (hasB t) := by
  induction ls with
  | nil => rfl
  | cons l ls ih =>
    simp only [zbd, List.nodup_cons, List.mem_cons, not_or] at hn
    rw [List.any_cons, ih hn.2.2]
    simp only [zbd, List.all_cons, zhw]
    have hab : decide (l.a = l.b) = false := by simpa using hn.1.1
    rw [hab]
    cases hasB t l.a <;> cases hasB t l.b <;> simp
theorem znN (t : Tp) : zdN t = zce t := by
  have h1 : decide (t.ports.length = 0) = decide (t.ports.length < 1) := by
    rw [Bool.eq_iff_iff]; simp
  have h2 : (!zic t) = t.ports.all (fun n => decide (1 ≤ n) && decide (n ≤ 4)) := by
    unfold zic
    induction t.ports with
    | nil => rfl
    | cons n l ih =>
      rw [List.any_cons, List.all_cons, ← ih, Bool.not_or]
      congr 1
      rw [Bool.eq_iff_iff]; simp
  unfold zdN zce
  rw [h1, h2]
  by_cases hn : (zbd t.links).Nodup
  · rw [decide_eq_true ((zgr _).2 hn), (zeL _).2 hn, zl8 _ hn, Bool.not_not]
  · have e1 : zcM (zbd t.links) = false := by
      cases h : zcM (zbd t.links) with
      | false => rfl
      | true => exact absurd ((zeL _).1 h) hn
    rw [decide_eq_false (fun h => hn ((zgr _).1 h)), e1]
    simp
end Go.Proofs.YtanimmdlgmkmkaaGreat.Av
