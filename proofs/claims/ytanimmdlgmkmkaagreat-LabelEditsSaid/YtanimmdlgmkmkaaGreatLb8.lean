/- Labels: LabelBack, LabelEdits. Part 8 of 17: AvT3, AvT4, AvT5, AvT6, AvT7, AvT8, AvN25, AvT9, AvT10, AvN26, AvN27, AvN28, AvN29, AvN30, AvN15, AvN18, AvN19, AvN20, AvN21, AvN32, AvN23, AvN24, AvN16, AvN31, AvN33. -/
import Derived.Test.YtanimmdlgmkmkaaGreatLb6
import Derived.Test.YtanimmdlgmkmkaaGreatLb7
namespace Go.Proofs.YtanimmdlgmkmkaaGreat.Av
open Go
set_option linter.unusedSimpArgs false
set_option linter.unusedVariables false
set_option maxRecDepth 100000
set_option maxHeartbeats 4000000
set_option pp.maxSteps 600
theorem zcg (l : Tr) (k v : Int) (r : Tr) (h : l.sz + r.sz < 2 ^ 50) : PCalls Tryz.prog 208 [l.av, zdo k v, r.av] (Tr.even l k v r).av := by
  have z1 := l.ht_nn
  have z2 := r.ht_nn
  have z3 := l.sz_nn
  have z4 := r.sz_nn
  have z5 := l.ht_le
  have z6 := r.ht_le
  have w1 : IntKind.i64.wrap (r.ht + 1) = r.ht + 1 := zU (by omega) (by omega)
  have w2 : IntKind.i64.wrap (l.ht + 1) = l.ht + 1 := zU (by omega) (by omega)
  have hl := zbO l
  have hr := zbO r
  by_cases h1 : r.ht + 1 < l.ht
  · cases l with
    | nil => simp only [Tr.ht] at h1; omega
    | node ll lk lv lr =>
      have y1 := ll.sz_nn
      have y2 := lr.sz_nn
      have y3 := ll.ht_nn
      have y4 := lr.ht_nn
      have hz : (Tr.node ll lk lv lr).sz = 1 + ll.sz + lr.sz := rfl
      have g1 := zbO ll
      have g2 := zbO lr
      rw [zaQ] at hl ⊢
      obtain ⟨H, hH⟩ : ∃ H, (Tr.node ll lk lv lr).ht = H := ⟨_, rfl⟩
      obtain ⟨Z, hZ⟩ : ∃ Z, (Tr.node ll lk lv lr).sz = Z := ⟨_, rfl⟩
      by_cases h2 : lr.ht ≤ ll.ht
      · have m1 := za7 lr k v r (by omega)
        have m2 := za7 ll lk lv (.node lr k v r) (by simp only [Tr.sz]; omega)
        have e : Tr.even (.node ll lk lv lr) k v r = .node ll lk lv (.node lr k v r) := by simp only [Tr.even, if_pos h1, if_pos h2]
        rw [e]
        rw [hH] at h1 hl w2 ⊢
        rw [hZ] at hl
        refine zJ Tryz.func208 rfl (N := 139) rfl rfl (by simp) (by simp [noIds]) fun σ => ?_
        rw [hZ]
        generalize Tr.node ll lk lv (.node lr k v r) = T at m2 ⊢
        generalize Tr.node lr k v r = U at m1 m2
        (try ((first | with_reducible refine zh ?_ | with_reducible refine zm ?_ | with_reducible refine zo ?_); simp [-cellOK, zI, zK, h1, h2, w1, w2])); repeat' (first | ((first | refine zd ?_ | refine zg ?_ | refine dN (by decide +kernel) ?_ | refine dC (by decide +kernel) ?_ | refine uP (hl) ?_ | refine .inl ⟨_, .inl (hl), ?_⟩ | refine uP (hr) ?_ | refine .inl ⟨_, .inl (hr), ?_⟩ | refine uP (g1) ?_ | refine .inl ⟨_, .inl (g1), ?_⟩ | refine uP (g2) ?_ | refine .inl ⟨_, .inl (g2), ?_⟩ | refine uP (m1) ?_ | refine .inl ⟨_, .inl (m1), ?_⟩ | refine uP (m2) ?_ | refine .inl ⟨_, .inl (m2), ?_⟩ | (refine za ?_ ?_ <;> (intro hg; simp only [hg])) | fail) <;> simp [-cellOK, zI, zK, h1, h2, w1, w2]) | refine zf ?_ | refine zc ?_ | (refine zp ?_; simp only [zq]; try simp) | (refine zl (by simp) ?_; simp) | (refine zD (by simp) (by simp [noIds]) (by repeat (first | assumption | exact Ext.refl _ | refine zv ?_ | refine Ext.setF ?_ (by first | assumption | (simp [ze, St.set, zk]; done) | exact zt (by assumption)))) ?_; simp [-cellOK, zI, zK, h1, h2, w1, w2, zS]) | (refine zb (fun hc => ?_) (fun hc => ?_) <;> try simp at hc) | fail)
      · cases lr with
        | nil => simp only [Tr.ht] at h2; omega
        | node a mk mv b =>
          have x1 := a.sz_nn
          have x2 := b.sz_nn
          have hz2 : (Tr.node a mk mv b).sz = 1 + a.sz + b.sz := rfl
          have m1 := za7 ll lk lv a (by omega)
          have m2 := za7 b k v r (by omega)
          have m3 := za7 (.node ll lk lv a) mk mv (.node b k v r) (by simp only [Tr.sz]; omega)
          have e : Tr.even (.node ll lk lv (.node a mk mv b)) k v r = .node (.node ll lk lv a) mk mv (.node b k v r) := by simp only [Tr.even, if_pos h1, if_neg h2]
          rw [e]
          have hm := zaQ a mk mv b
          obtain ⟨H2, hH2⟩ : ∃ H, (Tr.node a mk mv b).ht = H := ⟨_, rfl⟩
          obtain ⟨Z2, hZ2⟩ : ∃ Z, (Tr.node a mk mv b).sz = Z := ⟨_, rfl⟩
          rw [hH, hZ] at hl ⊢
          rw [hH] at h1 w2
          rw [hH2] at h2
          rw [hH2, hZ2] at hm
          rw [hH2, hm] at g2
          rw [hm] at hl ⊢
          refine zJ Tryz.func208 rfl (N := 139) rfl rfl (by simp) (by simp [noIds]) fun σ => ?_
          generalize Tr.node (.node ll lk lv a) mk mv (.node b k v r) = T at m3 ⊢
          generalize Tr.node ll lk lv a = U at m1 m3
          generalize Tr.node b k v r = V at m2 m3
          (try ((first | with_reducible refine zh ?_ | with_reducible refine zm ?_ | with_reducible refine zo ?_); simp [-cellOK, zI, zK, h1, h2, w1, w2])); repeat' (first | ((first | refine zd ?_ | refine zg ?_ | refine dN (by decide +kernel) ?_ | refine dC (by decide +kernel) ?_ | refine uP (hl) ?_ | refine .inl ⟨_, .inl (hl), ?_⟩ | refine uP (hr) ?_ | refine .inl ⟨_, .inl (hr), ?_⟩ | refine uP (g1) ?_ | refine .inl ⟨_, .inl (g1), ?_⟩ | refine uP (g2) ?_ | refine .inl ⟨_, .inl (g2), ?_⟩ | refine uP (m1) ?_ | refine .inl ⟨_, .inl (m1), ?_⟩ | refine uP (m2) ?_ | refine .inl ⟨_, .inl (m2), ?_⟩ | refine uP (m3) ?_ | refine .inl ⟨_, .inl (m3), ?_⟩ | (refine za ?_ ?_ <;> (intro hg; simp only [hg])) | fail) <;> simp [-cellOK, zI, zK, h1, h2, w1, w2]) | refine zf ?_ | refine zc ?_ | (refine zp ?_; simp only [zq]; try simp) | (refine zl (by simp) ?_; simp) | (refine zD (by simp) (by simp [noIds]) (by repeat (first | assumption | exact Ext.refl _ | refine zv ?_ | refine Ext.setF ?_ (by first | assumption | (simp [ze, St.set, zk]; done) | exact zt (by assumption)))) ?_; simp [-cellOK, zI, zK, h1, h2, w1, w2, zS]) | (refine zb (fun hc => ?_) (fun hc => ?_) <;> try simp at hc) | fail)
  · by_cases h3 : l.ht + 1 < r.ht
    · cases r with
      | nil => simp only [Tr.ht] at h3; omega
      | node rl rk rv rr =>
        have y1 := rl.sz_nn
        have y2 := rr.sz_nn
        have y3 := rl.ht_nn
        have y4 := rr.ht_nn
        have hz : (Tr.node rl rk rv rr).sz = 1 + rl.sz + rr.sz := rfl
        have g1 := zbO rl
        have g2 := zbO rr
        rw [zaQ] at hr ⊢
        obtain ⟨H, hH⟩ : ∃ H, (Tr.node rl rk rv rr).ht = H := ⟨_, rfl⟩
        obtain ⟨Z, hZ⟩ : ∃ Z, (Tr.node rl rk rv rr).sz = Z := ⟨_, rfl⟩
        by_cases h2 : rl.ht ≤ rr.ht
        · have m1 := za7 l k v rl (by omega)
          have m2 := za7 (.node l k v rl) rk rv rr (by simp only [Tr.sz]; omega)
          have e : Tr.even l k v (.node rl rk rv rr) = .node (.node l k v rl) rk rv rr := by simp only [Tr.even, if_neg h1, if_pos h3, if_pos h2]
          rw [e]
          rw [hH] at h1 h3 w1
          rw [hH, hZ] at hr ⊢
          refine zJ Tryz.func208 rfl (N := 139) rfl rfl (by simp) (by simp [noIds]) fun σ => ?_
          generalize Tr.node (.node l k v rl) rk rv rr = T at m2 ⊢
          generalize Tr.node l k v rl = U at m1 m2
          (try ((first | with_reducible refine zh ?_ | with_reducible refine zm ?_ | with_reducible refine zo ?_); simp [-cellOK, zI, zK, h1, h2, h3, w1, w2])); repeat' (first | ((first | refine zd ?_ | refine zg ?_ | refine dN (by decide +kernel) ?_ | refine dC (by decide +kernel) ?_ | refine uP (hl) ?_ | refine .inl ⟨_, .inl (hl), ?_⟩ | refine uP (hr) ?_ | refine .inl ⟨_, .inl (hr), ?_⟩ | refine uP (g1) ?_ | refine .inl ⟨_, .inl (g1), ?_⟩ | refine uP (g2) ?_ | refine .inl ⟨_, .inl (g2), ?_⟩ | refine uP (m1) ?_ | refine .inl ⟨_, .inl (m1), ?_⟩ | refine uP (m2) ?_ | refine .inl ⟨_, .inl (m2), ?_⟩ | (refine za ?_ ?_ <;> (intro hg; simp only [hg])) | fail) <;> simp [-cellOK, zI, zK, h1, h2, h3, w1, w2]) | refine zf ?_ | refine zc ?_ | (refine zp ?_; simp only [zq]; try simp) | (refine zl (by simp) ?_; simp) | (refine zD (by simp) (by simp [noIds]) (by repeat (first | assumption | exact Ext.refl _ | refine zv ?_ | refine Ext.setF ?_ (by first | assumption | (simp [ze, St.set, zk]; done) | exact zt (by assumption)))) ?_; simp [-cellOK, zI, zK, h1, h2, h3, w1, w2, zS]) | (refine zb (fun hc => ?_) (fun hc => ?_) <;> try simp at hc) | fail)
        · cases rl with
          | nil => simp only [Tr.ht] at h2; omega
          | node a mk mv b =>
            have x1 := a.sz_nn
            have x2 := b.sz_nn
            have hz2 : (Tr.node a mk mv b).sz = 1 + a.sz + b.sz := rfl
            have m1 := za7 l k v a (by omega)
            have m2 := za7 b rk rv rr (by omega)
            have m3 := za7 (.node l k v a) mk mv (.node b rk rv rr) (by simp only [Tr.sz]; omega)
            have e : Tr.even l k v (.node (.node a mk mv b) rk rv rr) = .node (.node l k v a) mk mv (.node b rk rv rr) := by simp only [Tr.even, if_neg h1, if_pos h3, if_neg h2]
            rw [e]
            have hm := zaQ a mk mv b
            obtain ⟨H2, hH2⟩ : ∃ H, (Tr.node a mk mv b).ht = H := ⟨_, rfl⟩
            obtain ⟨Z2, hZ2⟩ : ∃ Z, (Tr.node a mk mv b).sz = Z := ⟨_, rfl⟩
            rw [hH, hZ] at hr ⊢
            rw [hH] at h1 h3 w1
            rw [hH2] at h2
            rw [hH2, hZ2] at hm
            rw [hH2, hm] at g1
            rw [hm] at hr ⊢
            refine zJ Tryz.func208 rfl (N := 139) rfl rfl (by simp) (by simp [noIds]) fun σ => ?_
            generalize Tr.node (.node l k v a) mk mv (.node b rk rv rr) = T at m3 ⊢
            generalize Tr.node l k v a = U at m1 m3
            generalize Tr.node b rk rv rr = V at m2 m3
            (try ((first | with_reducible refine zh ?_ | with_reducible refine zm ?_ | with_reducible refine zo ?_); simp [-cellOK, zI, zK, h1, h2, h3, w1, w2])); repeat' (first | ((first | refine zd ?_ | refine zg ?_ | refine dN (by decide +kernel) ?_ | refine dC (by decide +kernel) ?_ | refine uP (hl) ?_ | refine .inl ⟨_, .inl (hl), ?_⟩ | refine uP (hr) ?_ | refine .inl ⟨_, .inl (hr), ?_⟩ | refine uP (g1) ?_ | refine .inl ⟨_, .inl (g1), ?_⟩ | refine uP (g2) ?_ | refine .inl ⟨_, .inl (g2), ?_⟩ | refine uP (m1) ?_ | refine .inl ⟨_, .inl (m1), ?_⟩ | refine uP (m2) ?_ | refine .inl ⟨_, .inl (m2), ?_⟩ | refine uP (m3) ?_ | refine .inl ⟨_, .inl (m3), ?_⟩ | (refine za ?_ ?_ <;> (intro hg; simp only [hg])) | fail) <;> simp [-cellOK, zI, zK, h1, h2, h3, w1, w2]) | refine zf ?_ | refine zc ?_ | (refine zp ?_; simp only [zq]; try simp) | (refine zl (by simp) ?_; simp) | (refine zD (by simp) (by simp [noIds]) (by repeat (first | assumption | exact Ext.refl _ | refine zv ?_ | refine Ext.setF ?_ (by first | assumption | (simp [ze, St.set, zk]; done) | exact zt (by assumption)))) ?_; simp [-cellOK, zI, zK, h1, h2, h3, w1, w2, zS]) | (refine zb (fun hc => ?_) (fun hc => ?_) <;> try simp at hc) | fail)
    · have m1 := za7 l k v r (by omega)
      have e : Tr.even l k v r = .node l k v r := by simp only [Tr.even, if_neg h1, if_neg h3]
      rw [e]
      refine zJ Tryz.func208 rfl (N := 139) rfl rfl (by simp) (by simp [noIds]) fun σ => ?_
      generalize Tr.node l k v r = T at m1 ⊢
      (try ((first | with_reducible refine zh ?_ | with_reducible refine zm ?_ | with_reducible refine zo ?_); simp [-cellOK, zI, zK, h1, h3, w1, w2])); repeat' (first | ((first | refine zd ?_ | refine zg ?_ | refine dN (by decide +kernel) ?_ | refine dC (by decide +kernel) ?_ | refine uP (hl) ?_ | refine .inl ⟨_, .inl (hl), ?_⟩ | refine uP (hr) ?_ | refine .inl ⟨_, .inl (hr), ?_⟩ | refine uP (m1) ?_ | refine .inl ⟨_, .inl (m1), ?_⟩ | (refine za ?_ ?_ <;> (intro hg; simp only [hg])) | fail) <;> simp [-cellOK, zI, zK, h1, h3, w1, w2]) | refine zf ?_ | refine zc ?_ | (refine zp ?_; simp only [zq]; try simp) | (refine zl (by simp) ?_; simp) | (refine zD (by simp) (by simp [noIds]) (by repeat (first | assumption | exact Ext.refl _ | refine zv ?_ | refine Ext.setF ?_ (by first | assumption | (simp [ze, St.set, zk]; done) | exact zt (by assumption)))) ?_; simp [-cellOK, zI, zK, h1, h3, w1, w2, zS]) | (refine zb (fun hc => ?_) (fun hc => ?_) <;> try simp at hc) | fail)
def trP (t : Tr) : AV := .pp [t.av] 0
@[simp] theorem zt2 (K : Id → Prop) (t : Tr) : (trP t).ids K := by simp [trP, AV.ids]
@[simp] theorem zsA (t : Tr) : (trP t).cells = [trP t] := rfl
@[simp] theorem zv8 (t : Tr) : cellOK (trP t) = true := rfl
@[simp] theorem zsB (t : Tr) : (trP t).flat1 = true := rfl
@[simp] theorem zr3 (m m' : zX) (t : Tr) : zF m' m (trP t) = trP t := rfl
theorem zaT (t : Tr) : PCalls Tryz.prog 182 [trP t] t.av := by
  refine zJ Tryz.func182 rfl (N := 9) rfl rfl (by simp) (by simp [noIds]) fun σ => ?_
  (try ((first | with_reducible refine zh ?_ | with_reducible refine zm ?_ | with_reducible refine zo ?_); simp [-cellOK, trP])); repeat' (first | ((first | refine zd ?_ | refine zg ?_ | refine dN (by decide +kernel) ?_ | refine dC (by decide +kernel) ?_ | (refine za ?_ ?_ <;> (intro hg; simp only [hg])) | fail) <;> simp [-cellOK, trP]) | refine zf ?_ | refine zc ?_ | (refine zp ?_; simp only [zq]; try simp) | (refine zl (by simp) ?_; simp) | (refine zD (by simp) (by simp [noIds]) (by repeat (first | assumption | exact Ext.refl _ | refine zv ?_ | refine Ext.setF ?_ (by first | assumption | (simp [ze, St.set, zk]; done) | exact zt (by assumption)))) ?_; simp [-cellOK, trP, zS]) | (refine zb (fun hc => ?_) (fun hc => ?_) <;> try simp at hc) | fail)
theorem zbd (t : Tr) : PCalls Tryz.prog 136 [trP t] (.raw (.int .i64 t.sz)) := by
  refine zJ Tryz.func136 rfl (N := 6) rfl rfl (by simp) (by simp [noIds]) fun σ => ?_
  (try ((first | with_reducible refine zh ?_ | with_reducible refine zm ?_ | with_reducible refine zo ?_); simp [-cellOK])); repeat' (first | ((first | refine zd ?_ | refine zg ?_ | refine dN (by decide +kernel) ?_ | refine dC (by decide +kernel) ?_ | refine uP (zaT t) ?_ | refine .inl ⟨_, .inl (zaT t), ?_⟩ | refine uP (zbP t) ?_ | refine .inl ⟨_, .inl (zbP t), ?_⟩ | (refine za ?_ ?_ <;> (intro hg; simp only [hg])) | fail) <;> simp [-cellOK]) | refine zf ?_ | refine zc ?_ | (refine zp ?_; simp only [zq]; try simp) | (refine zl (by simp) ?_; simp) | (refine zD (by simp) (by simp [noIds]) (by repeat (first | assumption | exact Ext.refl _ | refine zv ?_ | refine Ext.setF ?_ (by first | assumption | (simp [ze, St.set, zk]; done) | exact zt (by assumption)))) ?_; simp [-cellOK, zS]) | (refine zb (fun hc => ?_) (fun hc => ?_) <;> try simp at hc) | fail)
theorem zhH : PCalls Tryz.prog 130 [] (trP .nil) := by
  refine zJ Tryz.func130 rfl (N := 3) rfl rfl (by simp) (by simp [noIds]) fun σ => ?_
  (try ((first | with_reducible refine zh ?_ | with_reducible refine zm ?_ | with_reducible refine zo ?_); simp [-cellOK])); repeat' (first | ((first | refine zd ?_ | refine zg ?_ | refine dN (by decide +kernel) ?_ | refine dC (by decide +kernel) ?_ | (refine za ?_ ?_ <;> (intro hg; simp only [hg])) | fail) <;> simp [-cellOK]) | refine zf ?_ | refine zc ?_ | (refine zp ?_; simp only [zq]; try simp) | (refine zb (fun hc => ?_) (fun hc => ?_) <;> try simp at hc) | fail)
  refine zbi (x := .rp ⟨2, σ.nx 2, 1⟩ 0 0) (.inr rfl) (by repeat (first | assumption | exact Ext.refl _ | refine zv ?_ | refine Ext.setF ?_ (by first | assumption | (simp [ze, St.set, zk]; done) | exact zt (by assumption)))) ?_ ?_
  · simp [ze]
  · simp [zah, zF, zk, zz, ze, trP]
theorem zea (t : Tr) (k : Int) : PCalls Tryz.prog 181 [trP t, .raw (.int .u64 k)] (.tup [.raw (.int .i64 ((t.get k).getD 0)), .raw (.bool (t.get k).isSome)]) := by
  refine zJ Tryz.func181 rfl (N := 42) rfl rfl (by simp) (by simp [noIds]) fun σ => ?_
  obtain ⟨g, hg⟩ : ∃ g, t.get k = g := ⟨_, rfl⟩
  rw [hg]
  (try ((first | with_reducible refine zh ?_ | with_reducible refine zm ?_ | with_reducible refine zo ?_); simp [-cellOK])); repeat' (first | ((first | refine zd ?_ | refine zg ?_ | refine dN (by decide +kernel) ?_ | refine dC (by decide +kernel) ?_ | refine uP (zaT t) ?_ | refine .inl ⟨_, .inl (zaT t), ?_⟩ | (refine za ?_ ?_ <;> (intro hg; simp only [hg])) | fail) <;> simp [-cellOK]) | refine zf ?_ | refine zc ?_ | (refine zp ?_; simp only [zq]; try simp) | (refine zl (by simp) ?_; simp) | (refine zD (by simp) (by simp [noIds]) (by repeat (first | assumption | exact Ext.refl _ | refine zv ?_ | refine Ext.setF ?_ (by first | assumption | (simp [ze, St.set, zk]; done) | exact zt (by assumption)))) ?_; simp [-cellOK, zS]) | (refine zb (fun hc => ?_) (fun hc => ?_) <;> try simp at hc) | fail)
  refine zZ (fun n A τ => τ = σ ∧ A 1 = .raw (.int .u64 k) ∧ A 6 = .raw (.int .i64 0) ∧ ∃ u : Tr, A 7 = u.av ∧ n = u.sz.toNat ∧ u.get k = g) t.sz.toNat ?_ ?_
  · exact ⟨rfl, by simp, by simp, t, by simp, rfl, hg⟩
  rintro n A τ ⟨rfl, a1, a6, u, a7, rfl, hu⟩ I1 hI1
  cases u with
  | nil =>
    have : g = none := by rw [← hu]; rfl
    subst this
    (try ((first | with_reducible refine zh ?_ | with_reducible refine zm ?_ | with_reducible refine zo ?_); simp [-cellOK, a1, a6, a7])); repeat' (first | ((first | refine zd ?_ | refine zg ?_ | refine dN (by decide +kernel) ?_ | refine dC (by decide +kernel) ?_ | (refine za ?_ ?_ <;> (intro hg; simp only [hg])) | fail) <;> simp [-cellOK, a1, a6, a7]) | refine zf ?_ | refine zc ?_ | (refine zp ?_; simp only [zq]; try simp) | (refine zl (by simp) ?_; simp) | (refine zD (by simp) (by simp [noIds]) (by repeat (first | assumption | exact Ext.refl _ | refine zv ?_ | refine Ext.setF ?_ (by first | assumption | (simp [ze, St.set, zk]; done) | exact zt (by assumption)))) ?_; simp [-cellOK, a1, a6, a7, zS]) | (refine zb (fun hc => ?_) (fun hc => ?_) <;> try simp at hc) | fail)
  | node l k' v' r =>
    have y1 := l.sz_nn
    have y2 := r.sz_nn
    have hz : (Tr.node l k' v' r).sz = 1 + l.sz + r.sz := rfl
    rw [zaQ] at a7
    simp only [Tr.get] at hu
    by_cases h1 : k < k'
    · rw [if_pos h1] at hu
      (try ((first | with_reducible refine zh ?_ | with_reducible refine zm ?_ | with_reducible refine zo ?_); simp [-cellOK, a1, a6, a7, h1])); repeat' (first | ((first | refine zd ?_ | refine zg ?_ | refine dN (by decide +kernel) ?_ | refine dC (by decide +kernel) ?_ | (refine za ?_ ?_ <;> (intro hg; simp only [hg])) | fail) <;> simp [-cellOK, a1, a6, a7, h1]) | refine zf ?_ | refine zc ?_ | (refine zp ?_; simp only [zq]; try simp) | (refine zl (by simp) ?_; simp) | (refine zD (by simp) (by simp [noIds]) (by repeat (first | assumption | exact Ext.refl _ | refine zv ?_ | refine Ext.setF ?_ (by first | assumption | (simp [ze, St.set, zk]; done) | exact zt (by assumption)))) ?_; simp [-cellOK, a1, a6, a7, h1, zS]) | (refine zb (fun hc => ?_) (fun hc => ?_) <;> try simp at hc) | fail)
      exact hI1 _ _ _ (by omega) ⟨rfl, by simp [a1], by simp [a6], l, by simp, rfl, hu⟩
    · rw [if_neg h1] at hu
      by_cases h2 : k' < k
      · rw [if_pos h2] at hu
        (try ((first | with_reducible refine zh ?_ | with_reducible refine zm ?_ | with_reducible refine zo ?_); simp [-cellOK, a1, a6, a7, h1, h2])); repeat' (first | ((first | refine zd ?_ | refine zg ?_ | refine dN (by decide +kernel) ?_ | refine dC (by decide +kernel) ?_ | (refine za ?_ ?_ <;> (intro hg; simp only [hg])) | fail) <;> simp [-cellOK, a1, a6, a7, h1, h2]) | refine zf ?_ | refine zc ?_ | (refine zp ?_; simp only [zq]; try simp) | (refine zl (by simp) ?_; simp) | (refine zD (by simp) (by simp [noIds]) (by repeat (first | assumption | exact Ext.refl _ | refine zv ?_ | refine Ext.setF ?_ (by first | assumption | (simp [ze, St.set, zk]; done) | exact zt (by assumption)))) ?_; simp [-cellOK, a1, a6, a7, h1, h2, zS]) | (refine zb (fun hc => ?_) (fun hc => ?_) <;> try simp at hc) | fail)
        exact hI1 _ _ _ (by omega) ⟨rfl, by simp [a1], by simp [a6], r, by simp, rfl, hu⟩
      · rw [if_neg h2] at hu
        subst hu
        (try ((first | with_reducible refine zh ?_ | with_reducible refine zm ?_ | with_reducible refine zo ?_); simp [-cellOK, a1, a6, a7, h1, h2])); repeat' (first | ((first | refine zd ?_ | refine zg ?_ | refine dN (by decide +kernel) ?_ | refine dC (by decide +kernel) ?_ | (refine za ?_ ?_ <;> (intro hg; simp only [hg])) | fail) <;> simp [-cellOK, a1, a6, a7, h1, h2]) | refine zf ?_ | refine zc ?_ | (refine zp ?_; simp only [zq]; try simp) | (refine zl (by simp) ?_; simp) | (refine zD (by simp) (by simp [noIds]) (by repeat (first | assumption | exact Ext.refl _ | refine zv ?_ | refine Ext.setF ?_ (by first | assumption | (simp [ze, St.set, zk]; done) | exact zt (by assumption)))) ?_; simp [-cellOK, a1, a6, a7, h1, h2, zS]) | (refine zb (fun hc => ?_) (fun hc => ?_) <;> try simp at hc) | fail)
theorem Tr.with_sz (t : Tr) (k v : Int) : (t.with_ k v).sz ≤ t.sz + 1 := by
  induction t with
  | nil => simp [Tr.with_, Tr.sz]
  | node l k' v' r ihl ihr =>
    simp only [Tr.with_]
    split
    · rw [Tr.even_sz]; simp only [Tr.sz]; omega
    · split
      · rw [Tr.even_sz]; simp only [Tr.sz]; omega
      · simp only [Tr.sz]; omega
theorem ze1 (k v : Int) : ∀ t : Tr, t.sz < 2 ^ 48 → PCalls Tryz.prog 183 [t.av, zdo k v] (t.with_ k v).av
  | .nil, _ => by
    have m := za7 .nil k v .nil (by simp [Tr.sz])
    rw [zql] at m
    have e : Tr.with_ .nil k v = .node .nil k v .nil := rfl
    rw [e]
    refine zJ Tryz.func183 rfl (N := 68) rfl rfl (by simp) (by simp [noIds]) fun σ => ?_
    generalize Tr.node .nil k v .nil = T at m ⊢
    (try ((first | with_reducible refine zh ?_ | with_reducible refine zm ?_ | with_reducible refine zo ?_); simp [-cellOK, zI, zK])); repeat' (first | ((first | refine zd ?_ | refine zg ?_ | refine dN (by decide +kernel) ?_ | refine dC (by decide +kernel) ?_ | refine uP (m) ?_ | refine .inl ⟨_, .inl (m), ?_⟩ | (refine za ?_ ?_ <;> (intro hg; simp only [hg])) | fail) <;> simp [-cellOK, zI, zK]) | refine zf ?_ | refine zc ?_ | (refine zp ?_; simp only [zq]; try simp) | (refine zl (by simp) ?_; simp) | (refine zD (by simp) (by simp [noIds]) (by repeat (first | assumption | exact Ext.refl _ | refine zv ?_ | refine Ext.setF ?_ (by first | assumption | (simp [ze, St.set, zk]; done) | exact zt (by assumption)))) ?_; simp [-cellOK, zI, zK, zS]) | (refine zb (fun hc => ?_) (fun hc => ?_) <;> try simp at hc) | fail)
  | .node l k' v' r, h => by
    have y1 := l.sz_nn
    have y2 := r.sz_nn
    have hz : (Tr.node l k' v' r).sz = 1 + l.sz + r.sz := rfl
    have q1 := l.with_sz k v
    have q2 := r.with_sz k v
    rw [zaQ]
    obtain ⟨H, hH⟩ : ∃ H, (Tr.node l k' v' r).ht = H := ⟨_, rfl⟩
    obtain ⟨Z, hZ⟩ : ∃ Z, (Tr.node l k' v' r).sz = Z := ⟨_, rfl⟩
    rw [hH, hZ]
    by_cases h1 : k < k'
    · have e : Tr.with_ (.node l k' v' r) k v = Tr.even (l.with_ k v) k' v' r := by simp only [Tr.with_, if_pos h1]
      have i1 := ze1 k v l (by omega)
      have m := zcg (l.with_ k v) k' v' r (by omega)
      rw [e]
      refine zJ Tryz.func183 rfl (N := 68) rfl rfl (by simp) (by simp [noIds]) fun σ => ?_
      generalize Tr.even (l.with_ k v) k' v' r = T at m ⊢
      generalize l.with_ k v = U at i1 m
      (try ((first | with_reducible refine zh ?_ | with_reducible refine zm ?_ | with_reducible refine zo ?_); simp [-cellOK, zI, zK, h1])); repeat' (first | ((first | refine zd ?_ | refine zg ?_ | refine dN (by decide +kernel) ?_ | refine dC (by decide +kernel) ?_ | refine uP (i1) ?_ | refine .inl ⟨_, .inl (i1), ?_⟩ | refine uP (m) ?_ | refine .inl ⟨_, .inl (m), ?_⟩ | (refine za ?_ ?_ <;> (intro hg; simp only [hg])) | fail) <;> simp [-cellOK, zI, zK, h1]) | refine zf ?_ | refine zc ?_ | (refine zp ?_; simp only [zq]; try simp) | (refine zl (by simp) ?_; simp) | (refine zD (by simp) (by simp [noIds]) (by repeat (first | assumption | exact Ext.refl _ | refine zv ?_ | refine Ext.setF ?_ (by first | assumption | (simp [ze, St.set, zk]; done) | exact zt (by assumption)))) ?_; simp [-cellOK, zI, zK, h1, zS]) | (refine zb (fun hc => ?_) (fun hc => ?_) <;> try simp at hc) | fail)
    · by_cases h2 : k' < k
      · have e : Tr.with_ (.node l k' v' r) k v = Tr.even l k' v' (r.with_ k v) := by simp only [Tr.with_, if_neg h1, if_pos h2]
        have i1 := ze1 k v r (by omega)
        have m := zcg l k' v' (r.with_ k v) (by omega)
        rw [e]
        refine zJ Tryz.func183 rfl (N := 68) rfl rfl (by simp) (by simp [noIds]) fun σ => ?_
        generalize Tr.even l k' v' (r.with_ k v) = T at m ⊢
        generalize r.with_ k v = U at i1 m
        (try ((first | with_reducible refine zh ?_ | with_reducible refine zm ?_ | with_reducible refine zo ?_); simp [-cellOK, zI, zK, h1, h2])); repeat' (first | ((first | refine zd ?_ | refine zg ?_ | refine dN (by decide +kernel) ?_ | refine dC (by decide +kernel) ?_ | refine uP (i1) ?_ | refine .inl ⟨_, .inl (i1), ?_⟩ | refine uP (m) ?_ | refine .inl ⟨_, .inl (m), ?_⟩ | (refine za ?_ ?_ <;> (intro hg; simp only [hg])) | fail) <;> simp [-cellOK, zI, zK, h1, h2]) | refine zf ?_ | refine zc ?_ | (refine zp ?_; simp only [zq]; try simp) | (refine zl (by simp) ?_; simp) | (refine zD (by simp) (by simp [noIds]) (by repeat (first | assumption | exact Ext.refl _ | refine zv ?_ | refine Ext.setF ?_ (by first | assumption | (simp [ze, St.set, zk]; done) | exact zt (by assumption)))) ?_; simp [-cellOK, zI, zK, h1, h2, zS]) | (refine zb (fun hc => ?_) (fun hc => ?_) <;> try simp at hc) | fail)
      · have e : Tr.with_ (.node l k' v' r) k v = .node l k v r := by simp only [Tr.with_, if_neg h1, if_neg h2]
        have m := za7 l k v r (by omega)
        rw [e]
        refine zJ Tryz.func183 rfl (N := 68) rfl rfl (by simp) (by simp [noIds]) fun σ => ?_
        generalize Tr.node l k v r = T at m ⊢
        (try ((first | with_reducible refine zh ?_ | with_reducible refine zm ?_ | with_reducible refine zo ?_); simp [-cellOK, zI, zK, h1, h2])); repeat' (first | ((first | refine zd ?_ | refine zg ?_ | refine dN (by decide +kernel) ?_ | refine dC (by decide +kernel) ?_ | refine uP (m) ?_ | refine .inl ⟨_, .inl (m), ?_⟩ | (refine za ?_ ?_ <;> (intro hg; simp only [hg])) | fail) <;> simp [-cellOK, zI, zK, h1, h2]) | refine zf ?_ | refine zc ?_ | (refine zp ?_; simp only [zq]; try simp) | (refine zl (by simp) ?_; simp) | (refine zD (by simp) (by simp [noIds]) (by repeat (first | assumption | exact Ext.refl _ | refine zv ?_ | refine Ext.setF ?_ (by first | assumption | (simp [ze, St.set, zk]; done) | exact zt (by assumption)))) ?_; simp [-cellOK, zI, zK, h1, h2, zS]) | (refine zb (fun hc => ?_) (fun hc => ?_) <;> try simp at hc) | fail)
theorem zhI (t : Tr) (k v : Int) (h : t.sz < 2 ^ 48) (hf : t.get k = none → t.sz < 1024) : PCalls Tryz.prog 131 [trP t, .raw (.int .u64 k), .raw (.int .i64 v)] (.tup [trP (t.with_ k v), .raw (.int .i64 0)]) := by
  have hg := zea t k
  have hw := ze1 k v t h
  generalize t.with_ k v = U at hw ⊢
  refine zJ Tryz.func131 rfl (N := 31) rfl rfl (by simp) (by simp [noIds]) fun σ => ?_
  cases hq : t.get k with
  | none =>
    have hlt := hf hq
    have hle : ¬ (1024 : Int) ≤ t.sz := by omega
    rw [hq] at hg
    (try ((first | with_reducible refine zh ?_ | with_reducible refine zm ?_ | with_reducible refine zo ?_); simp [-cellOK, zK, hle])); repeat' (first | ((first | refine zd ?_ | refine zg ?_ | refine dN (by decide +kernel) ?_ | refine dC (by decide +kernel) ?_ | refine uP (hg) ?_ | refine .inl ⟨_, .inl (hg), ?_⟩ | refine uP (zbd t) ?_ | refine .inl ⟨_, .inl (zbd t), ?_⟩ | refine uP (zaT t) ?_ | refine .inl ⟨_, .inl (zaT t), ?_⟩ | refine uP (hw) ?_ | refine .inl ⟨_, .inl (hw), ?_⟩ | (refine za ?_ ?_ <;> (intro hg; simp only [hg])) | fail) <;> simp [-cellOK, zK, hle]) | refine zf ?_ | refine zc ?_ | (refine zp ?_; simp only [zq]; try simp) | (refine zb (fun hc => ?_) (fun hc => ?_) <;> try simp at hc) | fail)
    refine zbi (x := .tup [.rp ⟨30, σ.nx 30, 1⟩ 0 0, .raw (.int .i64 0)]) (.inr rfl) (by repeat (first | assumption | exact Ext.refl _ | refine zv ?_ | refine Ext.setF ?_ (by first | assumption | (simp [ze, St.set, zk]; done) | exact zt (by assumption)))) ?_ ?_
    · simp [ze]
    · simp [zah, zF, zk, zz, ze, trP]
  | some x =>
    rw [hq] at hg
    (try ((first | with_reducible refine zh ?_ | with_reducible refine zm ?_ | with_reducible refine zo ?_); simp [-cellOK, zK])); repeat' (first | ((first | refine zd ?_ | refine zg ?_ | refine dN (by decide +kernel) ?_ | refine dC (by decide +kernel) ?_ | refine uP (hg) ?_ | refine .inl ⟨_, .inl (hg), ?_⟩ | refine uP (zbd t) ?_ | refine .inl ⟨_, .inl (zbd t), ?_⟩ | refine uP (zaT t) ?_ | refine .inl ⟨_, .inl (zaT t), ?_⟩ | refine uP (hw) ?_ | refine .inl ⟨_, .inl (hw), ?_⟩ | (refine za ?_ ?_ <;> (intro hg; simp only [hg])) | fail) <;> simp [-cellOK, zK]) | refine zf ?_ | refine zc ?_ | (refine zp ?_; simp only [zq]; try simp) | (refine zb (fun hc => ?_) (fun hc => ?_) <;> try simp at hc) | fail)
    refine zbi (x := .tup [.rp ⟨30, σ.nx 30, 1⟩ 0 0, .raw (.int .i64 0)]) (.inr rfl) (by repeat (first | assumption | exact Ext.refl _ | refine zv ?_ | refine Ext.setF ?_ (by first | assumption | (simp [ze, St.set, zk]; done) | exact zt (by assumption)))) ?_ ?_
    · simp [ze]
    · simp [zah, zF, zk, zz, ze, trP]
end Go.Proofs.YtanimmdlgmkmkaaGreat.Av
namespace Go.Proofs.YtanimmdlgmkmkaaGreat.Av
open Go
set_option linter.unusedSimpArgs false
set_option linter.unusedVariables false
set_option maxRecDepth 100000
set_option maxHeartbeats 4000000
set_option pp.maxSteps 600
def Tr.atI (t : Tr) (i : Int) : Option (Int × Int) := if 0 ≤ i then t.at_ i else none
theorem Tr.at_some (t : Tr) (i : Int) (h0 : 0 ≤ i) (h : i < t.sz) : ∃ p, t.at_ i = some p := by
  rw [Tr.at_eq t i h0]
  have := t.sz_toL
  have hlt : i.toNat < t.toL.length := by omega
  exact ⟨_, List.getElem?_eq_getElem hlt⟩
theorem Tr.at_none (t : Tr) (i : Int) (h : t.sz ≤ i) : t.at_ i = none := by
  have := t.sz_nn
  rw [Tr.at_eq t i (by omega)]
  have := t.sz_toL
  exact List.getElem?_eq_none (by omega)
theorem zaB (k v : Int) : setPart (AV.agg [.raw (.int .u64 0), .raw (.int .i64 0)]) 0 [.raw (.int .u64 k), .raw (.int .i64 v)] = zdo k v := rfl
theorem ziZ (t : Tr) (i : Int) (hz : t.sz < 2 ^ 48) : PCalls Tryz.prog 156 [trP t, .raw (.int .i64 i)] (.tup [zdo ((t.atI i).getD (0, 0)).1 ((t.atI i).getD (0, 0)).2, .raw (.bool (t.atI i).isSome)]) := by
  have zn := t.sz_nn
  refine zJ Tryz.func156 rfl (N := 52) rfl rfl (by simp) (by simp [noIds, zdo]) fun σ => ?_
  have f4 : σ.m ⟨4, σ.nx 4, 2⟩ = none := zk _ _ _
  by_cases h0 : i < 0
  · have e : t.atI i = none := by unfold Tr.atI; rw [if_neg (by omega)]
    rw [e]
    (try ((first | with_reducible refine zh ?_ | with_reducible refine zm ?_ | with_reducible refine zo ?_); simp [-cellOK, zI, zK, zaB, zaG, h0])); repeat' (first | ((first | refine zd ?_ | refine zg ?_ | refine dN (by decide +kernel) ?_ | refine dC (by decide +kernel) ?_ | refine uP (zbd t) ?_ | refine .inl ⟨_, .inl (zbd t), ?_⟩ | refine uP (zaT t) ?_ | refine .inl ⟨_, .inl (zaT t), ?_⟩ | (refine za ?_ ?_ <;> (intro hg; simp only [hg])) | fail) <;> simp [-cellOK, zI, zK, zaB, zaG, h0]) | refine zf ?_ | refine zc ?_ | (refine zp ?_; simp only [zq]; try simp) | (refine zl (by simp) ?_; simp) | (refine zD (by simp) (by simp [noIds]) (by repeat (first | assumption | exact Ext.refl _ | refine zv ?_ | refine Ext.setF ?_ (by first | assumption | (simp [ze, St.set, zk]; done) | exact zt (by assumption)))) ?_; simp [-cellOK, zI, zK, zaB, zaG, h0, zS]) | (refine zb (fun hc => ?_) (fun hc => ?_) <;> try simp at hc) | fail)
  · by_cases h1 : t.sz ≤ i
    · have e : t.atI i = none := by unfold Tr.atI; rw [if_pos (by omega), Tr.at_none t i h1]
      rw [e]
      (try ((first | with_reducible refine zh ?_ | with_reducible refine zm ?_ | with_reducible refine zo ?_); simp [-cellOK, zI, zK, zaB, zaG, h0, h1])); repeat' (first | ((first | refine zd ?_ | refine zg ?_ | refine dN (by decide +kernel) ?_ | refine dC (by decide +kernel) ?_ | refine uP (zbd t) ?_ | refine .inl ⟨_, .inl (zbd t), ?_⟩ | refine uP (zaT t) ?_ | refine .inl ⟨_, .inl (zaT t), ?_⟩ | (refine za ?_ ?_ <;> (intro hg; simp only [hg])) | fail) <;> simp [-cellOK, zI, zK, zaB, zaG, h0, h1]) | refine zf ?_ | refine zc ?_ | (refine zp ?_; simp only [zq]; try simp) | (refine zl (by simp) ?_; simp) | (refine zD (by simp) (by simp [noIds]) (by repeat (first | assumption | exact Ext.refl _ | refine zv ?_ | refine Ext.setF ?_ (by first | assumption | (simp [ze, St.set, zk]; done) | exact zt (by assumption)))) ?_; simp [-cellOK, zI, zK, zaB, zaG, h0, h1, zS]) | (refine zb (fun hc => ?_) (fun hc => ?_) <;> try simp at hc) | fail)
    · obtain ⟨p, hp⟩ := t.at_some i (by omega) (by omega)
      have e : t.atI i = some p := by unfold Tr.atI; rw [if_pos (by omega), hp]
      rw [e]
      (try ((first | with_reducible refine zh ?_ | with_reducible refine zm ?_ | with_reducible refine zo ?_); simp [-cellOK, zI, zK, zaB, zaG, h0, h1])); repeat' (first | ((first | refine zd ?_ | refine zg ?_ | refine dN (by decide +kernel) ?_ | refine dC (by decide +kernel) ?_ | refine uP (zbd t) ?_ | refine .inl ⟨_, .inl (zbd t), ?_⟩ | refine uP (zaT t) ?_ | refine .inl ⟨_, .inl (zaT t), ?_⟩ | (refine za ?_ ?_ <;> (intro hg; simp only [hg])) | fail) <;> simp [-cellOK, zI, zK, zaB, zaG, h0, h1]) | refine zf ?_ | refine zc ?_ | (refine zp ?_; simp only [zq]; try simp) | (refine zl (by simp) ?_; simp) | (refine zD (by simp) (by simp [noIds]) (by repeat (first | assumption | exact Ext.refl _ | refine zv ?_ | refine Ext.setF ?_ (by first | assumption | (simp [ze, St.set, zk]; done) | exact zt (by assumption)))) ?_; simp [-cellOK, zI, zK, zaB, zaG, h0, h1, zS]) | (refine zb (fun hc => ?_) (fun hc => ?_) <;> try simp at hc) | fail)
      refine zZ (fun n A τ => τ = σ.new 4 2 (.buf [zdo 0 0]) ∧ A 4 = .rp ⟨4, σ.nx 4, 2⟩ 0 0 ∧ ∃ (u : Tr) (j : Int), A 1 = .raw (.int .i64 j) ∧ A 6 = u.av ∧ n = u.sz.toNat ∧ 0 ≤ j ∧ j < u.sz ∧ u.sz < 2 ^ 48 ∧ u.at_ j = some p) t.sz.toNat ?_ ?_
      · exact ⟨by simp [zK], by simp, t, i, by simp, by simp, rfl, by omega, by omega, hz, hp⟩
      rintro n A τ ⟨rfl, a4, u, j, a1, a6, rfl, hj0, hj1, hus, hu⟩ I1 hI1
      cases u with
      | nil => simp only [Tr.sz] at hj1; omega
      | node l k v r =>
        have y1 := l.sz_nn
        have y2 := r.sz_nn
        have hsz : (Tr.node l k v r).sz = 1 + l.sz + r.sz := rfl
        rw [zaQ] at a6
        simp only [Tr.at_] at hu
        have w1 : IntKind.i64.wrap (1 + l.sz) = 1 + l.sz := zU (by omega) (by omega)
        have w2 : IntKind.i64.wrap (j - (1 + l.sz)) = j - (1 + l.sz) := zU (by omega) (by omega)
        by_cases q1 : j < l.sz
        · rw [if_pos q1] at hu
          have q1' : ¬ j = l.sz := by omega
          (try ((first | with_reducible refine zh ?_ | with_reducible refine zm ?_ | with_reducible refine zo ?_); simp [-cellOK, a1, a4, a6, q1, q1'])); repeat' (first | ((first | refine zd ?_ | refine zg ?_ | refine dN (by decide +kernel) ?_ | refine dC (by decide +kernel) ?_ | refine uP (zbP l) ?_ | refine .inl ⟨_, .inl (zbP l), ?_⟩ | (refine za ?_ ?_ <;> (intro hg; simp only [hg])) | fail) <;> simp [-cellOK, a1, a4, a6, q1, q1']) | refine zf ?_ | refine zc ?_ | (refine zp ?_; simp only [zq]; try simp) | (refine zl (by simp) ?_; simp) | (refine zD (by simp) (by simp [noIds]) (by repeat (first | assumption | exact Ext.refl _ | refine zv ?_ | refine Ext.setF ?_ (by first | assumption | (simp [ze, St.set, zk]; done) | exact zt (by assumption)))) ?_; simp [-cellOK, a1, a4, a6, q1, q1', zS]) | (refine zb (fun hc => ?_) (fun hc => ?_) <;> try simp at hc) | fail)
          exact hI1 _ _ _ (by omega) ⟨rfl, by simp [a4], l, j, by simp [a1], by simp, rfl, hj0, q1, by omega, hu⟩
        · rw [if_neg q1] at hu
          by_cases q2 : l.sz < j
          · rw [if_pos q2] at hu
            have q1' : ¬ j = l.sz := by omega
            (try ((first | with_reducible refine zh ?_ | with_reducible refine zm ?_ | with_reducible refine zo ?_); simp [-cellOK, a1, a4, a6, q1, q1', w1, w2])); repeat' (first | ((first | refine zd ?_ | refine zg ?_ | refine dN (by decide +kernel) ?_ | refine dC (by decide +kernel) ?_ | refine uP (zbP l) ?_ | refine .inl ⟨_, .inl (zbP l), ?_⟩ | (refine za ?_ ?_ <;> (intro hg; simp only [hg])) | fail) <;> simp [-cellOK, a1, a4, a6, q1, q1', w1, w2]) | refine zf ?_ | refine zc ?_ | (refine zp ?_; simp only [zq]; try simp) | (refine zl (by simp) ?_; simp) | (refine zD (by simp) (by simp [noIds]) (by repeat (first | assumption | exact Ext.refl _ | refine zv ?_ | refine Ext.setF ?_ (by first | assumption | (simp [ze, St.set, zk]; done) | exact zt (by assumption)))) ?_; simp [-cellOK, a1, a4, a6, q1, q1', w1, w2, zS]) | (refine zb (fun hc => ?_) (fun hc => ?_) <;> try simp at hc) | fail)
            exact hI1 _ _ _ (by omega) ⟨rfl, by simp [a4], r, j - (1 + l.sz), by simp, by simp, rfl, by omega, by omega, by omega, hu⟩
          · rw [if_neg q2] at hu
            have q1' : j = l.sz := by omega
            simp only [Option.some.injEq] at hu
            subst hu
            (try ((first | with_reducible refine zh ?_ | with_reducible refine zm ?_ | with_reducible refine zo ?_); simp [-cellOK, a1, a4, a6, q1', zI, zK, zaG])); repeat' (first | ((first | refine zd ?_ | refine zg ?_ | refine dN (by decide +kernel) ?_ | refine dC (by decide +kernel) ?_ | refine uP (zbP l) ?_ | refine .inl ⟨_, .inl (zbP l), ?_⟩ | (refine za ?_ ?_ <;> (intro hg; simp only [hg])) | fail) <;> simp [-cellOK, a1, a4, a6, q1', zI, zK, zaG]) | refine zf ?_ | refine zc ?_ | (refine zp ?_; simp only [zq]; try simp) | (refine zl (by simp) ?_; simp) | (refine zD (by simp) (by simp [noIds]) (by repeat (first | assumption | exact Ext.refl _ | refine zv ?_ | refine Ext.setF ?_ (by first | assumption | (simp [ze, St.set, zk]; done) | exact zt (by assumption)))) ?_; simp [-cellOK, a1, a4, a6, q1', zI, zK, zaG, zS]) | (refine zb (fun hc => ?_) (fun hc => ?_) <;> try simp at hc) | fail)
theorem Tr.join_sz (l : Tr) (k v : Int) (r : Tr) : (Tr.join l k v r).sz = 1 + l.sz + r.sz := by
  rw [Tr.sz_toL, Tr.join_toL, Tr.sz_toL l, Tr.sz_toL r]
  simp only [List.length_append, List.length_cons]
  omega
theorem zg0 (n : Nat) : ∀ (l : Tr) (k v : Int) (r : Tr), SizeOf.sizeOf l + SizeOf.sizeOf r < n → l.sz + r.sz < 2 ^ 48 → PCalls Tryz.prog 231 [l.av, zdo k v, r.av] (Tr.join l k v r).av := by
  induction n with
  | zero => intro l k v r h; omega
  | succ n ih =>
    intro l k v r hn h
    have z1 := l.ht_nn
    have z2 := r.ht_nn
    have z3 := l.sz_nn
    have z4 := r.sz_nn
    have z5 := l.ht_le
    have z6 := r.ht_le
    have w1 : IntKind.i64.wrap (r.ht + 1) = r.ht + 1 := zU (by omega) (by omega)
    have w2 : IntKind.i64.wrap (l.ht + 1) = l.ht + 1 := zU (by omega) (by omega)
    have hl := zbO l
    have hr := zbO r
    by_cases h1 : r.ht + 1 < l.ht
    · cases l with
      | nil => simp only [Tr.ht] at h1; omega
      | node ll lk lv lr =>
        have y1 := ll.sz_nn
        have y2 := lr.sz_nn
        have hz : (Tr.node ll lk lv lr).sz = 1 + ll.sz + lr.sz := rfl
        have i1 := ih lr k v r (by simp only [Tr.node.sizeOf_spec] at hn; omega) (by omega)
        have js := Tr.join_sz lr k v r
        have m := zcg ll lk lv (Tr.join lr k v r) (by omega)
        have e : Tr.join (.node ll lk lv lr) k v r = Tr.even ll lk lv (Tr.join lr k v r) := by rw [Tr.join.eq_def]; simp only [if_pos h1]
        rw [e]
        rw [zaQ] at hl ⊢
        obtain ⟨H, hH⟩ : ∃ H, (Tr.node ll lk lv lr).ht = H := ⟨_, rfl⟩
        obtain ⟨Z, hZ⟩ : ∃ Z, (Tr.node ll lk lv lr).sz = Z := ⟨_, rfl⟩
        rw [hH, hZ] at hl ⊢
        rw [hH] at h1 w2
        refine zJ Tryz.func231 rfl (N := 57) rfl rfl (by simp) (by simp [noIds]) fun σ => ?_
        generalize Tr.even ll lk lv (Tr.join lr k v r) = T at m ⊢
        generalize Tr.join lr k v r = U at i1 m
        (try ((first | with_reducible refine zh ?_ | with_reducible refine zm ?_ | with_reducible refine zo ?_); simp [-cellOK, zI, zK, h1, w1, w2])); repeat' (first | ((first | refine zd ?_ | refine zg ?_ | refine dN (by decide +kernel) ?_ | refine dC (by decide +kernel) ?_ | refine uP (hl) ?_ | refine .inl ⟨_, .inl (hl), ?_⟩ | refine uP (hr) ?_ | refine .inl ⟨_, .inl (hr), ?_⟩ | refine uP (i1) ?_ | refine .inl ⟨_, .inl (i1), ?_⟩ | refine uP (m) ?_ | refine .inl ⟨_, .inl (m), ?_⟩ | (refine za ?_ ?_ <;> (intro hg; simp only [hg])) | fail) <;> simp [-cellOK, zI, zK, h1, w1, w2]) | refine zf ?_ | refine zc ?_ | (refine zp ?_; simp only [zq]; try simp) | (refine zl (by simp) ?_; simp) | (refine zD (by simp) (by simp [noIds]) (by repeat (first | assumption | exact Ext.refl _ | refine zv ?_ | refine Ext.setF ?_ (by first | assumption | (simp [ze, St.set, zk]; done) | exact zt (by assumption)))) ?_; simp [-cellOK, zI, zK, h1, w1, w2, zS]) | (refine zb (fun hc => ?_) (fun hc => ?_) <;> try simp at hc) | fail)
    · by_cases h3 : l.ht + 1 < r.ht
      · cases r with
        | nil => simp only [Tr.ht] at h3; omega
        | node rl rk rv rr =>
          have y1 := rl.sz_nn
          have y2 := rr.sz_nn
          have hz : (Tr.node rl rk rv rr).sz = 1 + rl.sz + rr.sz := rfl
          have i1 := ih l k v rl (by simp only [Tr.node.sizeOf_spec] at hn; omega) (by omega)
          have js := Tr.join_sz l k v rl
          have m := zcg (Tr.join l k v rl) rk rv rr (by omega)
          have e : Tr.join l k v (.node rl rk rv rr) = Tr.even (Tr.join l k v rl) rk rv rr := by rw [Tr.join.eq_def]; simp only [if_neg h1, if_pos h3]
          rw [e]
          rw [zaQ] at hr ⊢
          obtain ⟨H, hH⟩ : ∃ H, (Tr.node rl rk rv rr).ht = H := ⟨_, rfl⟩
          obtain ⟨Z, hZ⟩ : ∃ Z, (Tr.node rl rk rv rr).sz = Z := ⟨_, rfl⟩
          rw [hH, hZ] at hr ⊢
          rw [hH] at h1 h3 w1
          refine zJ Tryz.func231 rfl (N := 57) rfl rfl (by simp) (by simp [noIds]) fun σ => ?_
          generalize Tr.even (Tr.join l k v rl) rk rv rr = T at m ⊢
          generalize Tr.join l k v rl = U at i1 m
          (try ((first | with_reducible refine zh ?_ | with_reducible refine zm ?_ | with_reducible refine zo ?_); simp [-cellOK, zI, zK, h1, h3, w1, w2])); repeat' (first | ((first | refine zd ?_ | refine zg ?_ | refine dN (by decide +kernel) ?_ | refine dC (by decide +kernel) ?_ | refine uP (hl) ?_ | refine .inl ⟨_, .inl (hl), ?_⟩ | refine uP (hr) ?_ | refine .inl ⟨_, .inl (hr), ?_⟩ | refine uP (i1) ?_ | refine .inl ⟨_, .inl (i1), ?_⟩ | refine uP (m) ?_ | refine .inl ⟨_, .inl (m), ?_⟩ | (refine za ?_ ?_ <;> (intro hg; simp only [hg])) | fail) <;> simp [-cellOK, zI, zK, h1, h3, w1, w2]) | refine zf ?_ | refine zc ?_ | (refine zp ?_; simp only [zq]; try simp) | (refine zl (by simp) ?_; simp) | (refine zD (by simp) (by simp [noIds]) (by repeat (first | assumption | exact Ext.refl _ | refine zv ?_ | refine Ext.setF ?_ (by first | assumption | (simp [ze, St.set, zk]; done) | exact zt (by assumption)))) ?_; simp [-cellOK, zI, zK, h1, h3, w1, w2, zS]) | (refine zb (fun hc => ?_) (fun hc => ?_) <;> try simp at hc) | fail)
      · have m := za7 l k v r (by omega)
        have e : Tr.join l k v r = .node l k v r := by rw [Tr.join.eq_def, if_neg h1, if_neg h3]
        rw [e]
        refine zJ Tryz.func231 rfl (N := 57) rfl rfl (by simp) (by simp [noIds]) fun σ => ?_
        generalize Tr.node l k v r = T at m ⊢
        (try ((first | with_reducible refine zh ?_ | with_reducible refine zm ?_ | with_reducible refine zo ?_); simp [-cellOK, zI, zK, h1, h3, w1, w2])); repeat' (first | ((first | refine zd ?_ | refine zg ?_ | refine dN (by decide +kernel) ?_ | refine dC (by decide +kernel) ?_ | refine uP (hl) ?_ | refine .inl ⟨_, .inl (hl), ?_⟩ | refine uP (hr) ?_ | refine .inl ⟨_, .inl (hr), ?_⟩ | refine uP (m) ?_ | refine .inl ⟨_, .inl (m), ?_⟩ | (refine za ?_ ?_ <;> (intro hg; simp only [hg])) | fail) <;> simp [-cellOK, zI, zK, h1, h3, w1, w2]) | refine zf ?_ | refine zc ?_ | (refine zp ?_; simp only [zq]; try simp) | (refine zl (by simp) ?_; simp) | (refine zD (by simp) (by simp [noIds]) (by repeat (first | assumption | exact Ext.refl _ | refine zv ?_ | refine Ext.setF ?_ (by first | assumption | (simp [ze, St.set, zk]; done) | exact zt (by assumption)))) ?_; simp [-cellOK, zI, zK, h1, h3, w1, w2, zS]) | (refine zb (fun hc => ?_) (fun hc => ?_) <;> try simp at hc) | fail)
theorem Tr.cut_sz (b : Int) : ∀ t : Tr, (t.cut b).1.sz + (t.cut b).2.sz = t.sz
  | nil => by simp [Tr.cut, Tr.sz]
  | node l k v r => by
    have h1 := Tr.cut_sz b l
    have h2 := Tr.cut_sz b r
    simp only [Tr.cut]
    split
    · simp only [Tr.join_sz, Tr.sz]; omega
    · simp only [Tr.join_sz, Tr.sz]; omega
theorem zfq (b : Int) : ∀ t : Tr, t.sz < 2 ^ 48 → PCalls Tryz.prog 214 [t.av, .raw (.int .u64 b)] (.tup [(t.cut b).1.av, (t.cut b).2.av])
  | .nil, _ => by
    refine zJ Tryz.func214 rfl (N := 59) rfl rfl (by simp) (by simp [noIds]) fun σ => ?_
    have e : Tr.nil.cut b = (.nil, .nil) := rfl
    rw [e]
    (try ((first | with_reducible refine zh ?_ | with_reducible refine zm ?_ | with_reducible refine zo ?_); simp [-cellOK])); repeat' (first | ((first | refine zd ?_ | refine zg ?_ | refine dN (by decide +kernel) ?_ | refine dC (by decide +kernel) ?_ | (refine za ?_ ?_ <;> (intro hg; simp only [hg])) | fail) <;> simp [-cellOK]) | refine zf ?_ | refine zc ?_ | (refine zp ?_; simp only [zq]; try simp) | (refine zl (by simp) ?_; simp) | (refine zD (by simp) (by simp [noIds]) (by repeat (first | assumption | exact Ext.refl _ | refine zv ?_ | refine Ext.setF ?_ (by first | assumption | (simp [ze, St.set, zk]; done) | exact zt (by assumption)))) ?_; simp [-cellOK, zS]) | (refine zb (fun hc => ?_) (fun hc => ?_) <;> try simp at hc) | fail)
  | .node l k v r, h => by
    have y1 := l.sz_nn
    have y2 := r.sz_nn
    have hz : (Tr.node l k v r).sz = 1 + l.sz + r.sz := rfl
    rw [zaQ]
    obtain ⟨H, hH⟩ : ∃ H, (Tr.node l k v r).ht = H := ⟨_, rfl⟩
    obtain ⟨Z, hZ⟩ : ∃ Z, (Tr.node l k v r).sz = Z := ⟨_, rfl⟩
    rw [hH, hZ]
    by_cases h1 : k < b
    · have i1 := zfq b r (by omega)
      have cs := Tr.cut_sz b r
      have x1 := (r.cut b).1.sz_nn
      have x2 := (r.cut b).2.sz_nn
      have m := zg0 _ l k v (r.cut b).1 (Nat.lt_succ_self _) (by omega)
      have e : Tr.cut (.node l k v r) b = (Tr.join l k v (r.cut b).1, (r.cut b).2) := by simp only [Tr.cut, if_pos h1]
      rw [e]
      refine zJ Tryz.func214 rfl (N := 59) rfl rfl (by simp) (by simp [noIds]) fun σ => ?_
      generalize Tr.join l k v (r.cut b).1 = T at m ⊢
      generalize (r.cut b).1 = U at i1 m
      generalize (r.cut b).2 = V at i1 ⊢
      (try ((first | with_reducible refine zh ?_ | with_reducible refine zm ?_ | with_reducible refine zo ?_); simp [-cellOK, zI, zK, h1])); repeat' (first | ((first | refine zd ?_ | refine zg ?_ | refine dN (by decide +kernel) ?_ | refine dC (by decide +kernel) ?_ | refine uP (i1) ?_ | refine .inl ⟨_, .inl (i1), ?_⟩ | refine uP (m) ?_ | refine .inl ⟨_, .inl (m), ?_⟩ | (refine za ?_ ?_ <;> (intro hg; simp only [hg])) | fail) <;> simp [-cellOK, zI, zK, h1]) | refine zf ?_ | refine zc ?_ | (refine zp ?_; simp only [zq]; try simp) | (refine zl (by simp) ?_; simp) | (refine zD (by simp) (by simp [noIds]) (by repeat (first | assumption | exact Ext.refl _ | refine zv ?_ | refine Ext.setF ?_ (by first | assumption | (simp [ze, St.set, zk]; done) | exact zt (by assumption)))) ?_; simp [-cellOK, zI, zK, h1, zS]) | (refine zb (fun hc => ?_) (fun hc => ?_) <;> try simp at hc) | fail)
    · have i1 := zfq b l (by omega)
      have cs := Tr.cut_sz b l
      have x1 := (l.cut b).1.sz_nn
      have x2 := (l.cut b).2.sz_nn
      have m := zg0 _ (l.cut b).2 k v r (Nat.lt_succ_self _) (by omega)
      have e : Tr.cut (.node l k v r) b = ((l.cut b).1, Tr.join (l.cut b).2 k v r) := by simp only [Tr.cut, if_neg h1]
      rw [e]
      refine zJ Tryz.func214 rfl (N := 59) rfl rfl (by simp) (by simp [noIds]) fun σ => ?_
      generalize Tr.join (l.cut b).2 k v r = T at m ⊢
      generalize (l.cut b).2 = U at i1 m
      generalize (l.cut b).1 = V at i1 ⊢
      (try ((first | with_reducible refine zh ?_ | with_reducible refine zm ?_ | with_reducible refine zo ?_); simp [-cellOK, zI, zK, h1])); repeat' (first | ((first | refine zd ?_ | refine zg ?_ | refine dN (by decide +kernel) ?_ | refine dC (by decide +kernel) ?_ | refine uP (i1) ?_ | refine .inl ⟨_, .inl (i1), ?_⟩ | refine uP (m) ?_ | refine .inl ⟨_, .inl (m), ?_⟩ | (refine za ?_ ?_ <;> (intro hg; simp only [hg])) | fail) <;> simp [-cellOK, zI, zK, h1]) | refine zf ?_ | refine zc ?_ | (refine zp ?_; simp only [zq]; try simp) | (refine zl (by simp) ?_; simp) | (refine zD (by simp) (by simp [noIds]) (by repeat (first | assumption | exact Ext.refl _ | refine zv ?_ | refine Ext.setF ?_ (by first | assumption | (simp [ze, St.set, zk]; done) | exact zt (by assumption)))) ?_; simp [-cellOK, zI, zK, h1, zS]) | (refine zb (fun hc => ?_) (fun hc => ?_) <;> try simp at hc) | fail)
theorem zks (t : Tr) (b : Int) (h : t.sz < 2 ^ 48) : PCalls Tryz.prog 199 [trP t, .raw (.int .u64 b)] (.tup [trP (t.cut b).1, trP (t.cut b).2]) := by
  have hc := zfq b t h
  generalize (t.cut b).1 = U at hc ⊢
  generalize (t.cut b).2 = V at hc ⊢
  refine zJ Tryz.func199 rfl (N := 21) rfl rfl (by simp) (by simp [noIds]) fun σ => ?_
  (try ((first | with_reducible refine zh ?_ | with_reducible refine zm ?_ | with_reducible refine zo ?_); simp [-cellOK])); repeat' (first | ((first | refine zd ?_ | refine zg ?_ | refine dN (by decide +kernel) ?_ | refine dC (by decide +kernel) ?_ | refine uP (hc) ?_ | refine .inl ⟨_, .inl (hc), ?_⟩ | refine uP (zaT t) ?_ | refine .inl ⟨_, .inl (zaT t), ?_⟩ | (refine za ?_ ?_ <;> (intro hg; simp only [hg])) | fail) <;> simp [-cellOK]) | refine zf ?_ | refine zc ?_ | (refine zp ?_; simp only [zq]; try simp) | (refine zb (fun hc => ?_) (fun hc => ?_) <;> try simp at hc) | fail)
  refine zbi (x := .tup [.rp ⟨17, σ.nx 17, 1⟩ 0 0, .rp ⟨20, σ.nx 20, 1⟩ 0 0]) (.inr rfl) (by repeat (first | assumption | exact Ext.refl _ | refine zv ?_ | refine Ext.setF ?_ (by first | assumption | (simp [ze, St.set, zk]; done) | exact zt (by assumption)))) ?_ ?_
  · simp [ze]
  · simp [zah, zF, zk, zz, ze, trP]
end Go.Proofs.YtanimmdlgmkmkaaGreat.Av
namespace Go.Proofs.YtanimmdlgmkmkaaGreat.Av
open Go
set_option linter.unusedSimpArgs false
set_option linter.unusedVariables false
set_option maxRecDepth 100000
set_option maxHeartbeats 4000000
set_option pp.maxSteps 600
theorem Tr.least_sz : ∀ t : Tr, t ≠ .nil → t.least.2.sz = t.sz - 1 := fun t h => by
  have := Tr.least_toL t h
  rw [Tr.sz_toL, Tr.sz_toL t, this]
  simp only [List.length_cons]; omega
theorem zgy : ∀ t : Tr, t ≠ .nil → t.sz < 2 ^ 48 → PCalls Tryz.prog 236 [t.av] (.tup [zdo t.least.1.1 t.least.1.2, t.least.2.av])
  | .nil, h, _ => absurd rfl h
  | .node .nil k v r, _, h => by
    have e : (Tr.node .nil k v r).least = ((k, v), r) := by simp only [Tr.least]
    rw [e, zaQ]
    refine zJ Tryz.func236 rfl (N := 38) rfl rfl (by simp) (by simp [noIds]) fun σ => ?_
    have f2 : σ.m ⟨2, σ.nx 2, 2⟩ = none := zk _ _ _
    (try ((first | with_reducible refine zh ?_ | with_reducible refine zm ?_ | with_reducible refine zo ?_); simp [-cellOK, zI, zK, zaG, zaB])); repeat' (first | ((first | refine zd ?_ | refine zg ?_ | refine dN (by decide +kernel) ?_ | refine dC (by decide +kernel) ?_ | (refine za ?_ ?_ <;> (intro hg; simp only [hg])) | fail) <;> simp [-cellOK, zI, zK, zaG, zaB]) | refine zf ?_ | refine zc ?_ | (refine zp ?_; simp only [zq]; try simp) | (refine zl (by simp) ?_; simp) | (refine zD (by simp) (by simp [noIds]) (by repeat (first | assumption | exact Ext.refl _ | refine zv ?_ | refine Ext.setF ?_ (by first | assumption | (simp [ze, St.set, zk]; done) | exact zt (by assumption)))) ?_; simp [-cellOK, zI, zK, zaG, zaB, zS]) | (refine zb (fun hc => ?_) (fun hc => ?_) <;> try simp at hc) | fail)
    refine zdt (lsO [14, 18]) zhn (by decide +kernel) ?_
    (try ((first | with_reducible refine zh ?_ | with_reducible refine zm ?_ | with_reducible refine zo ?_); simp [-cellOK, zI, zK, zaG, zaB])); repeat' (first | ((first | refine zd ?_ | refine zg ?_ | refine dN (by decide +kernel) ?_ | refine dC (by decide +kernel) ?_ | (refine za ?_ ?_ <;> (intro hg; simp only [hg])) | fail) <;> simp [-cellOK, zI, zK, zaG, zaB]) | refine zf ?_ | refine zc ?_ | (refine zp ?_; simp only [zq]; try simp) | (refine zl (by simp) ?_; simp) | (refine zD (by simp) (by simp [noIds]) (by repeat (first | assumption | exact Ext.refl _ | refine zv ?_ | refine Ext.setF ?_ (by first | assumption | (simp [ze, St.set, zk]; done) | exact zt (by assumption)))) ?_; simp [-cellOK, zI, zK, zaG, zaB, zS]) | (refine zb (fun hc => ?_) (fun hc => ?_) <;> try simp at hc) | fail)
  | .node (.node a b c d) k v r, _, h => by
    have hz : (Tr.node (.node a b c d) k v r).sz = 1 + (Tr.node a b c d).sz + r.sz := rfl
    have y1 := (Tr.node a b c d).sz_nn
    have y2 := r.sz_nn
    have i1 := zgy (.node a b c d) (by simp) (by omega)
    have ls := Tr.least_sz (.node a b c d) (by simp)
    have m := zcg (Tr.node a b c d).least.2 k v r (by omega)
    have e : (Tr.node (.node a b c d) k v r).least = ((Tr.node a b c d).least.1, Tr.even (Tr.node a b c d).least.2 k v r) := by simp only [Tr.least]
    rw [e, zaQ]
    have hm := zaQ a b c d
    generalize Tr.even (Tr.node a b c d).least.2 k v r = T at m ⊢
    generalize (Tr.node a b c d).least.2 = U at i1 m
    generalize (Tr.node a b c d).least.1 = q at i1 ⊢
    generalize (Tr.node (.node a b c d) k v r).ht = H
    generalize (Tr.node (.node a b c d) k v r).sz = Z
    generalize (Tr.node a b c d).ht = H2 at hm
    generalize (Tr.node a b c d).sz = Z2 at hm
    rw [hm] at i1 ⊢
    refine zJ Tryz.func236 rfl (N := 38) rfl rfl (by simp) (by simp [noIds]) fun σ => ?_
    have f2 : σ.m ⟨2, σ.nx 2, 2⟩ = none := zk _ _ _
    (try ((first | with_reducible refine zh ?_ | with_reducible refine zm ?_ | with_reducible refine zo ?_); simp [-cellOK, zI, zK, zaG, zaB, zz, zB, ze])); repeat' (first | ((first | refine zd ?_ | refine zg ?_ | refine dN (by decide +kernel) ?_ | refine dC (by decide +kernel) ?_ | refine uP (i1) ?_ | refine .inl ⟨_, .inl (i1), ?_⟩ | refine uP (m) ?_ | refine .inl ⟨_, .inl (m), ?_⟩ | (refine za ?_ ?_ <;> (intro hg; simp only [hg])) | fail) <;> simp [-cellOK, zI, zK, zaG, zaB, zz, zB, ze]) | refine zf ?_ | refine zc ?_ | (refine zp ?_; simp only [zq]; try simp) | (refine zl (by simp) ?_; simp) | (refine zD (by simp) (by simp [noIds]) (by repeat (first | assumption | exact Ext.refl _ | refine zv ?_ | refine Ext.setF ?_ (by first | assumption | (simp [ze, St.set, zk]; done) | exact zt (by assumption)))) ?_; simp [-cellOK, zI, zK, zaG, zaB, zz, zB, ze, zS]) | (refine zb (fun hc => ?_) (fun hc => ?_) <;> try simp at hc) | fail)
theorem Tr.without_sz (k : Int) : ∀ t : Tr, (t.without k).sz ≤ t.sz
  | .nil => by simp [Tr.without]
  | .node l k' v' r => by
    have h1 := Tr.without_sz k l
    have h2 := Tr.without_sz k r
    have y1 := l.sz_nn
    have y2 := r.sz_nn
    simp only [Tr.without]
    split
    · rw [Tr.even_sz]; simp only [Tr.sz]; omega
    · split
      · rw [Tr.even_sz]; simp only [Tr.sz]; omega
      · cases r with
        | nil => simp only [Tr.sz]; omega
        | node a b c d =>
          have := Tr.least_sz (.node a b c d) (by simp)
          simp only [Tr.even_sz, this]
          simp only [Tr.sz]; omega
theorem zdM (k : Int) : ∀ t : Tr, t.get k ≠ none → t.sz < 2 ^ 48 → PCalls Tryz.prog 220 [t.av, .raw (.int .u64 k)] (t.without k).av
  | .nil, h, _ => absurd rfl h
  | .node l k' v' r, hg, h => by
    have hz : (Tr.node l k' v' r).sz = 1 + l.sz + r.sz := rfl
    have y1 := l.sz_nn
    have y2 := r.sz_nn
    simp only [Tr.get] at hg
    by_cases h1 : k < k'
    · rw [if_pos h1] at hg
      have i1 := zdM k l hg (by omega)
      have ws := Tr.without_sz k l
      have m := zcg (l.without k) k' v' r (by omega)
      have e : (Tr.node l k' v' r).without k = Tr.even (l.without k) k' v' r := by simp only [Tr.without, if_pos h1]
      rw [e, zaQ]
      generalize Tr.even (l.without k) k' v' r = T at m ⊢
      generalize l.without k = U at i1 m
      generalize (Tr.node l k' v' r).ht = H
      generalize (Tr.node l k' v' r).sz = Z
      refine zJ Tryz.func220 rfl (N := 78) rfl rfl (by simp) (by simp [noIds]) fun σ => ?_
      (try ((first | with_reducible refine zh ?_ | with_reducible refine zm ?_ | with_reducible refine zo ?_); simp [-cellOK, zI, zK, h1])); repeat' (first | ((first | refine zd ?_ | refine zg ?_ | refine dN (by decide +kernel) ?_ | refine dC (by decide +kernel) ?_ | refine uP (i1) ?_ | refine .inl ⟨_, .inl (i1), ?_⟩ | refine uP (m) ?_ | refine .inl ⟨_, .inl (m), ?_⟩ | (refine za ?_ ?_ <;> (intro hg; simp only [hg])) | fail) <;> simp [-cellOK, zI, zK, h1]) | refine zf ?_ | refine zc ?_ | (refine zp ?_; simp only [zq]; try simp) | (refine zl (by simp) ?_; simp) | (refine zD (by simp) (by simp [noIds]) (by repeat (first | assumption | exact Ext.refl _ | refine zv ?_ | refine Ext.setF ?_ (by first | assumption | (simp [ze, St.set, zk]; done) | exact zt (by assumption)))) ?_; simp [-cellOK, zI, zK, h1, zS]) | (refine zb (fun hc => ?_) (fun hc => ?_) <;> try simp at hc) | fail)
    · rw [if_neg h1] at hg
      by_cases h2 : k' < k
      · rw [if_pos h2] at hg
        have i1 := zdM k r hg (by omega)
        have ws := Tr.without_sz k r
        have m := zcg l k' v' (r.without k) (by omega)
        have e : (Tr.node l k' v' r).without k = Tr.even l k' v' (r.without k) := by simp only [Tr.without, if_neg h1, if_pos h2]
        rw [e, zaQ]
        generalize Tr.even l k' v' (r.without k) = T at m ⊢
        generalize r.without k = U at i1 m
        generalize (Tr.node l k' v' r).ht = H
        generalize (Tr.node l k' v' r).sz = Z
        refine zJ Tryz.func220 rfl (N := 78) rfl rfl (by simp) (by simp [noIds]) fun σ => ?_
        (try ((first | with_reducible refine zh ?_ | with_reducible refine zm ?_ | with_reducible refine zo ?_); simp [-cellOK, zI, zK, h1, h2])); repeat' (first | ((first | refine zd ?_ | refine zg ?_ | refine dN (by decide +kernel) ?_ | refine dC (by decide +kernel) ?_ | refine uP (i1) ?_ | refine .inl ⟨_, .inl (i1), ?_⟩ | refine uP (m) ?_ | refine .inl ⟨_, .inl (m), ?_⟩ | (refine za ?_ ?_ <;> (intro hg; simp only [hg])) | fail) <;> simp [-cellOK, zI, zK, h1, h2]) | refine zf ?_ | refine zc ?_ | (refine zp ?_; simp only [zq]; try simp) | (refine zl (by simp) ?_; simp) | (refine zD (by simp) (by simp [noIds]) (by repeat (first | assumption | exact Ext.refl _ | refine zv ?_ | refine Ext.setF ?_ (by first | assumption | (simp [ze, St.set, zk]; done) | exact zt (by assumption)))) ?_; simp [-cellOK, zI, zK, h1, h2, zS]) | (refine zb (fun hc => ?_) (fun hc => ?_) <;> try simp at hc) | fail)
      · cases r with
        | nil =>
          have e : (Tr.node l k' v' .nil).without k = l := by simp only [Tr.without, if_neg h1, if_neg h2]
          rw [e, zaQ]
          generalize (Tr.node l k' v' .nil).ht = H
          generalize (Tr.node l k' v' .nil).sz = Z
          refine zJ Tryz.func220 rfl (N := 78) rfl rfl (by simp) (by simp [noIds]) fun σ => ?_
          (try ((first | with_reducible refine zh ?_ | with_reducible refine zm ?_ | with_reducible refine zo ?_); simp [-cellOK, zI, zK, h1, h2])); repeat' (first | ((first | refine zd ?_ | refine zg ?_ | refine dN (by decide +kernel) ?_ | refine dC (by decide +kernel) ?_ | (refine za ?_ ?_ <;> (intro hg; simp only [hg])) | fail) <;> simp [-cellOK, zI, zK, h1, h2]) | refine zf ?_ | refine zc ?_ | (refine zp ?_; simp only [zq]; try simp) | (refine zl (by simp) ?_; simp) | (refine zD (by simp) (by simp [noIds]) (by repeat (first | assumption | exact Ext.refl _ | refine zv ?_ | refine Ext.setF ?_ (by first | assumption | (simp [ze, St.set, zk]; done) | exact zt (by assumption)))) ?_; simp [-cellOK, zI, zK, h1, h2, zS]) | (refine zb (fun hc => ?_) (fun hc => ?_) <;> try simp at hc) | fail)
        | node a b c d =>
          have i1 := zgy (.node a b c d) (by simp) (by omega)
          have ls := Tr.least_sz (.node a b c d) (by simp)
          have m := zcg l (Tr.node a b c d).least.1.1 (Tr.node a b c d).least.1.2 (Tr.node a b c d).least.2 (by omega)
          have e : (Tr.node l k' v' (.node a b c d)).without k = Tr.even l (Tr.node a b c d).least.1.1 (Tr.node a b c d).least.1.2 (Tr.node a b c d).least.2 := by simp only [Tr.without, if_neg h1, if_neg h2]
          rw [e, zaQ]
          have hm := zaQ a b c d
          generalize Tr.even l (Tr.node a b c d).least.1.1 (Tr.node a b c d).least.1.2 (Tr.node a b c d).least.2 = T at m ⊢
          generalize (Tr.node a b c d).least.2 = U at i1 m
          generalize (Tr.node a b c d).least.1 = q at i1 m
          generalize (Tr.node l k' v' (.node a b c d)).ht = H
          generalize (Tr.node l k' v' (.node a b c d)).sz = Z
          generalize (Tr.node a b c d).ht = H2 at hm
          generalize (Tr.node a b c d).sz = Z2 at hm
          rw [hm] at i1 ⊢
          refine zJ Tryz.func220 rfl (N := 78) rfl rfl (by simp) (by simp [noIds]) fun σ => ?_
          (try ((first | with_reducible refine zh ?_ | with_reducible refine zm ?_ | with_reducible refine zo ?_); simp [-cellOK, zI, zK, zaG, zaB, h1, h2, zz, zB, ze])); repeat' (first | ((first | refine zd ?_ | refine zg ?_ | refine dN (by decide +kernel) ?_ | refine dC (by decide +kernel) ?_ | refine uP (i1) ?_ | refine .inl ⟨_, .inl (i1), ?_⟩ | refine uP (m) ?_ | refine .inl ⟨_, .inl (m), ?_⟩ | (refine za ?_ ?_ <;> (intro hg; simp only [hg])) | fail) <;> simp [-cellOK, zI, zK, zaG, zaB, h1, h2, zz, zB, ze]) | refine zf ?_ | refine zc ?_ | (refine zp ?_; simp only [zq]; try simp) | (refine zl (by simp) ?_; simp) | (refine zD (by simp) (by simp [noIds]) (by repeat (first | assumption | exact Ext.refl _ | refine zv ?_ | refine Ext.setF ?_ (by first | assumption | (simp [ze, St.set, zk]; done) | exact zt (by assumption)))) ?_; simp [-cellOK, zI, zK, zaG, zaB, h1, h2, zz, zB, ze, zS]) | (refine zb (fun hc => ?_) (fun hc => ?_) <;> try simp at hc) | fail)
theorem zlj (t : Tr) (k : Int) (hg : t.get k ≠ none) (h : t.sz < 2 ^ 48) : PCalls Tryz.prog 209 [trP t, .raw (.int .u64 k)] (.tup [trP (t.without k), .raw (.int .i64 0)]) := by
  have h1 := zea t k
  have h2 := zdM k t hg h
  generalize t.without k = U at h2 ⊢
  obtain ⟨x, hx⟩ := Option.ne_none_iff_exists'.1 hg
  rw [hx] at h1
  refine zJ Tryz.func209 rfl (N := 22) rfl rfl (by simp) (by simp [noIds]) fun σ => ?_
  (try ((first | with_reducible refine zh ?_ | with_reducible refine zm ?_ | with_reducible refine zo ?_); simp [-cellOK])); repeat' (first | ((first | refine zd ?_ | refine zg ?_ | refine dN (by decide +kernel) ?_ | refine dC (by decide +kernel) ?_ | refine uP (h1) ?_ | refine .inl ⟨_, .inl (h1), ?_⟩ | refine uP (h2) ?_ | refine .inl ⟨_, .inl (h2), ?_⟩ | refine uP (zaT t) ?_ | refine .inl ⟨_, .inl (zaT t), ?_⟩ | (refine za ?_ ?_ <;> (intro hg; simp only [hg])) | fail) <;> simp [-cellOK]) | refine zf ?_ | refine zc ?_ | (refine zp ?_; simp only [zq]; try simp) | (refine zb (fun hc => ?_) (fun hc => ?_) <;> try simp at hc) | fail)
  refine zbi (x := .tup [.rp ⟨21, σ.nx 21, 1⟩ 0 0, .raw (.int .i64 0)]) (.inr rfl) (by repeat (first | assumption | exact Ext.refl _ | refine zv ?_ | refine Ext.setF ?_ (by first | assumption | (simp [ze, St.set, zk]; done) | exact zt (by assumption)))) ?_ ?_
  · simp [ze]
  · simp [zah, zF, zk, zz, ze, trP]
end Go.Proofs.YtanimmdlgmkmkaaGreat.Av
namespace Go.Proofs.YtanimmdlgmkmkaaGreat.Av
open Go
set_option linter.unusedSimpArgs false
set_option linter.unusedVariables false
set_option maxRecDepth 100000
set_option maxHeartbeats 4000000
set_option pp.maxSteps 600
structure Tab where
  b : Tr
  g : Tr
  n : Int
def zcL (T : Tab) : AV := .pp [trP T.b, trP T.g, .raw (.int .i64 T.n)] 0
def zaj : Option Tab → AV
  | none => .raw (.pointer none)
  | some T => zcL T
@[simp] theorem ztp (K : Id → Prop) (T : Tab) : (zcL T).ids K := by simp [zcL, AV.ids]
@[simp] theorem zoC (K : Id → Prop) (T : Option Tab) : (zaj T).ids K := by cases T <;> simp [zaj]
@[simp] theorem zt3 (T : Option Tab) : cellOK (zaj T) = true := by cases T <;> rfl
@[simp] theorem zr4 (T : Option Tab) : (zaj T).cells = [zaj T] := by cases T <;> rfl
@[simp] theorem zt4 (T : Tab) : cellOK (zcL T) = true := rfl
@[simp] theorem zr5 (T : Tab) : (zcL T).cells = [zcL T] := rfl
@[simp] theorem zr6 (T : Tab) : (zcL T).flat1 = true := rfl
def zL : Tab := ⟨.node .nil 0 1 .nil, .nil, 0⟩
theorem ze2 : PCalls Tryz.prog 76 [] (zcL zL) := by
  have h := zhI .nil 0 1 (by simp [Tr.sz]) (by simp [Tr.sz])
  have e : Tr.with_ .nil 0 1 = .node .nil 0 1 .nil := rfl
  rw [e] at h
  unfold zcL zL
  generalize Tr.node .nil 0 1 .nil = U at h ⊢
  refine zJ Tryz.func76 rfl (N := 12) rfl rfl (by simp) (by simp [noIds, AV.ids]) fun σ => ?_
  (try ((first | with_reducible refine zh ?_ | with_reducible refine zm ?_ | with_reducible refine zo ?_); simp [-cellOK])); repeat' (first | ((first | refine zd ?_ | refine zg ?_ | refine dN (by decide +kernel) ?_ | refine dC (by decide +kernel) ?_ | refine uP (zhH) ?_ | refine .inl ⟨_, .inl (zhH), ?_⟩ | refine uP (h) ?_ | refine .inl ⟨_, .inl (h), ?_⟩ | (refine za ?_ ?_ <;> (intro hg; simp only [hg])) | fail) <;> simp [-cellOK]) | refine zf ?_ | refine zc ?_ | (refine zp ?_; simp only [zq]; try simp) | (refine zb (fun hc => ?_) (fun hc => ?_) <;> try simp at hc) | fail)
  refine zbi (x := .rp ⟨11, σ.nx 11, 3⟩ 0 0) (.inr rfl) (by repeat (first | assumption | exact Ext.refl _ | refine zv ?_ | refine Ext.setF ?_ (by first | assumption | (simp [ze, St.set, zk]; done) | exact zt (by assumption)))) ?_ ?_
  · simp [ze]
  · simp [zah, zF, zk, zz, ze]
theorem zcs (T : Option Tab) : PCalls Tryz.prog 132 [zaj T] (zcL (T.getD zL)) := by
  refine zJ Tryz.func132 rfl (N := 7) rfl rfl (by simp) (by simp [noIds]) fun σ => ?_
  cases T with
  | none => (try ((first | with_reducible refine zh ?_ | with_reducible refine zm ?_ | with_reducible refine zo ?_); simp [-cellOK, zaj])); repeat' (first | ((first | refine zd ?_ | refine zg ?_ | refine dN (by decide +kernel) ?_ | refine dC (by decide +kernel) ?_ | refine uP (ze2) ?_ | refine .inl ⟨_, .inl (ze2), ?_⟩ | (refine za ?_ ?_ <;> (intro hg; simp only [hg])) | fail) <;> simp [-cellOK, zaj]) | refine zf ?_ | refine zc ?_ | (refine zp ?_; simp only [zq]; try simp) | (refine zl (by simp) ?_; simp) | (refine zD (by simp) (by simp [noIds]) (by repeat (first | assumption | exact Ext.refl _ | refine zv ?_ | refine Ext.setF ?_ (by first | assumption | (simp [ze, St.set, zk]; done) | exact zt (by assumption)))) ?_; simp [-cellOK, zaj, zS]) | (refine zb (fun hc => ?_) (fun hc => ?_) <;> try simp at hc) | fail)
  | some T =>
    have e : zcL T = .pp [trP T.b, trP T.g, .raw (.int .i64 T.n)] 0 := rfl
    simp only [zaj, Option.getD_some, e]
    (try ((first | with_reducible refine zh ?_ | with_reducible refine zm ?_ | with_reducible refine zo ?_); simp [-cellOK])); repeat' (first | ((first | refine zd ?_ | refine zg ?_ | refine dN (by decide +kernel) ?_ | refine dC (by decide +kernel) ?_ | (refine za ?_ ?_ <;> (intro hg; simp only [hg])) | fail) <;> simp [-cellOK]) | refine zf ?_ | refine zc ?_ | (refine zp ?_; simp only [zq]; try simp) | (refine zl (by simp) ?_; simp) | (refine zD (by simp) (by simp [noIds]) (by repeat (first | assumption | exact Ext.refl _ | refine zv ?_ | refine Ext.setF ?_ (by first | assumption | (simp [ze, St.set, zk]; done) | exact zt (by assumption)))) ?_; simp [-cellOK, zS]) | (refine zb (fun hc => ?_) (fun hc => ?_) <;> try simp at hc) | fail)
def zbw (t : Tr) (k by_ : Int) : Tr := if (t.get k).getD 0 + by_ = 0 then t.without k else t.with_ k ((t.get k).getD 0 + by_)
structure MoreOK (t : Tr) (k by_ : Int) : Prop where
  sz : t.sz < 2 ^ 40
  lo : -2 ^ 40 < (t.get k).getD 0 + by_
  hi : (t.get k).getD 0 + by_ < 2 ^ 40
  drop : (t.get k).getD 0 + by_ = 0 → t.get k ≠ none
  room : t.get k = none → t.sz < 1024
theorem zi0 (t : Tr) (k by_ : Int) (h : MoreOK t k by_) : PCalls Tryz.prog 184 [trP t, .raw (.int .u64 k), .raw (.int .i64 by_)] (trP (zbw t k by_)) := by
  have hg := zea t k
  have w := zU (n := (t.get k).getD 0 + by_) (by have := h.lo; omega) (by have := h.hi; omega)
  have hsz := h.sz
  by_cases h0 : (t.get k).getD 0 + by_ = 0
  · have hd := zlj t k (h.drop h0) (by omega)
    have e : zbw t k by_ = t.without k := by unfold zbw; rw [if_pos h0]
    rw [e]
    generalize t.without k = U at hd ⊢
    refine zJ Tryz.func184 rfl (N := 36) rfl rfl (by simp) (by simp [noIds]) fun σ => ?_
    generalize (t.get k).getD 0 = x at *
    generalize (t.get k).isSome = b at *
    rw [h0] at w
    have h0' : IntKind.i64.wrap (x + by_) = 0 := by rw [h0, w]
    (try ((first | with_reducible refine zh ?_ | with_reducible refine zm ?_ | with_reducible refine zo ?_); simp [-cellOK, h0, h0', w])); repeat' (first | ((first | refine zd ?_ | refine zg ?_ | refine dN (by decide +kernel) ?_ | refine dC (by decide +kernel) ?_ | refine uP (hg) ?_ | refine .inl ⟨_, .inl (hg), ?_⟩ | refine uP (hd) ?_ | refine .inl ⟨_, .inl (hd), ?_⟩ | (refine za ?_ ?_ <;> (intro hg; simp only [hg])) | fail) <;> simp [-cellOK, h0, h0', w]) | refine zf ?_ | refine zc ?_ | (refine zp ?_; simp only [zq]; try simp) | (refine zl (by simp) ?_; simp) | (refine zD (by simp) (by simp [noIds]) (by repeat (first | assumption | exact Ext.refl _ | refine zv ?_ | refine Ext.setF ?_ (by first | assumption | (simp [ze, St.set, zk]; done) | exact zt (by assumption)))) ?_; simp [-cellOK, h0, h0', w, zS]) | (refine zb (fun hc => ?_) (fun hc => ?_) <;> try simp at hc) | fail)
  · have hp := zhI t k ((t.get k).getD 0 + by_) (by omega) h.room
    have e : zbw t k by_ = t.with_ k ((t.get k).getD 0 + by_) := by unfold zbw; rw [if_neg h0]
    rw [e]
    generalize t.with_ k ((t.get k).getD 0 + by_) = U at hp ⊢
    refine zJ Tryz.func184 rfl (N := 36) rfl rfl (by simp) (by simp [noIds]) fun σ => ?_
    generalize (t.get k).getD 0 = x at *
    generalize (t.get k).isSome = b at *
    (try ((first | with_reducible refine zh ?_ | with_reducible refine zm ?_ | with_reducible refine zo ?_); simp [-cellOK, w, h0])); repeat' (first | ((first | refine zd ?_ | refine zg ?_ | refine dN (by decide +kernel) ?_ | refine dC (by decide +kernel) ?_ | refine uP (hg) ?_ | refine .inl ⟨_, .inl (hg), ?_⟩ | refine uP (hp) ?_ | refine .inl ⟨_, .inl (hp), ?_⟩ | (refine za ?_ ?_ <;> (intro hg; simp only [hg])) | fail) <;> simp [-cellOK, w, h0]) | refine zf ?_ | refine zc ?_ | (refine zp ?_; simp only [zq]; try simp) | (refine zl (by simp) ?_; simp) | (refine zD (by simp) (by simp [noIds]) (by repeat (first | assumption | exact Ext.refl _ | refine zv ?_ | refine Ext.setF ?_ (by first | assumption | (simp [ze, St.set, zk]; done) | exact zt (by assumption)))) ?_; simp [-cellOK, w, h0, zS]) | (refine zb (fun hc => ?_) (fun hc => ?_) <;> try simp at hc) | fail)
structure RgOK (r : Rg) : Prop where
  lo0 : 0 ≤ r.lo
  lo1 : r.lo < 4294967296
  hi0 : 0 ≤ r.hi
  hi1 : r.hi < 4294967296
def zbL (r : Rg) : Int := r.lo * 4294967296 + r.hi
theorem zT (r : Rg) : (zau r).cells = [.raw (.int .u32 r.lo), .raw (.int .u32 r.hi)] := rfl
theorem zav (r : Rg) : AV.agg [.raw (.int .u32 r.lo), .raw (.int .u32 r.hi)] = zau r := rfl
theorem zqo {lo hi : Int} (h0 : 0 ≤ lo) (h1 : lo < 4294967296) (h2 : 0 ≤ hi) (h3 : hi < 4294967296) :
    (BitVec.ofInt 64 (lo * 4294967296) ||| BitVec.ofInt 64 hi).toNat = (lo * 4294967296 + hi).toNat := by
  obtain ⟨a, rfl⟩ := Int.eq_ofNat_of_zero_le h0
  obtain ⟨b, rfl⟩ := Int.eq_ofNat_of_zero_le h2
  have e1 : ((a : Int) * 4294967296) = ((a * 4294967296 : Nat) : Int) := by omega
  have e2 : ((a : Int) * 4294967296 + b) = ((a * 4294967296 + b : Nat) : Int) := by omega
  rw [BitVec.toNat_or, e2, e1, BitVec.ofInt_natCast, BitVec.ofInt_natCast, BitVec.toNat_ofNat, BitVec.toNat_ofNat, Int.toNat_natCast]
  rw [Nat.mod_eq_of_lt (by omega), Nat.mod_eq_of_lt (by omega)]
  have := Nat.shiftLeft_add_eq_or_of_lt (a := a) (b := b) (i := 32) (by omega)
  rw [Nat.shiftLeft_eq] at this
  exact this.symm
theorem zj0 (r : Rg) (h : RgOK r) : PCalls Tryz.prog 185 [zau r] (.raw (.int .u64 (zbL r))) := by
  obtain ⟨a1, a2, a3, a4⟩ := h
  have w1 : IntKind.u64.wrap r.lo = r.lo := zcr (by omega) (by omega)
  have w2 : IntKind.u64.wrap r.hi = r.hi := zcr (by omega) (by omega)
  have w3 : IntKind.u64.wrap (r.lo * 4294967296) = r.lo * 4294967296 := zcr (by omega) (by omega)
  have w4 : ((r.lo * 4294967296 % 18446744073709551616).toNat ||| (r.hi % 18446744073709551616).toNat) = (zbL r).toNat := by
    have := zqo a1 a2 a3 a4
    rw [BitVec.toNat_or, BitVec.toNat_ofInt, BitVec.toNat_ofInt] at this
    exact this
  have hk : ((zbL r).toNat : Int) = zbL r := by unfold zbL; omega
  have w5 : IntKind.u64.wrap (zbL r) = zbL r := zcr (by unfold zbL; omega) (by unfold zbL; omega)
  have b1 : IntKind.u64.bits = 64 := rfl
  refine zJ Tryz.func185 rfl (N := 11) rfl rfl (by simp) (by simp [noIds]) fun σ => ?_
  generalize zbL r = y at *
  (try ((first | with_reducible refine zh ?_ | with_reducible refine zm ?_ | with_reducible refine zo ?_); simp [-cellOK, zT, w1, w2, w3, w4, w5, hk, b1])); repeat' (first | ((first | refine zd ?_ | refine zg ?_ | refine dN (by decide +kernel) ?_ | refine dC (by decide +kernel) ?_ | (refine za ?_ ?_ <;> (intro hg; simp only [hg])) | fail) <;> simp [-cellOK, zT, w1, w2, w3, w4, w5, hk, b1]) | refine zf ?_ | refine zc ?_ | (refine zp ?_; simp only [zq]; try simp) | (refine zl (by simp) ?_; simp) | (refine zD (by simp) (by simp [noIds]) (by repeat (first | assumption | exact Ext.refl _ | refine zv ?_ | refine Ext.setF ?_ (by first | assumption | (simp [ze, St.set, zk]; done) | exact zt (by assumption)))) ?_; simp [-cellOK, zT, w1, w2, w3, w4, w5, hk, b1, zS]) | (refine zb (fun hc => ?_) (fun hc => ?_) <;> try simp at hc) | fail)
end Go.Proofs.YtanimmdlgmkmkaaGreat.Av
namespace Go.Proofs.YtanimmdlgmkmkaaGreat.Av
open Go
set_option linter.unusedSimpArgs false
set_option linter.unusedVariables false
set_option maxRecDepth 100000
set_option maxHeartbeats 4000000
set_option pp.maxSteps 600
def ze3 (x : Int) : AV := .raw (.int .u64 x)
def zdN (l : List Int) : AV := .sl 1 (l.map ze3) false
@[simp] theorem zt5 (K : Id → Prop) (l : List Int) : (zdN l).ids K := by simp only [zdN, AV.ids]; exact zcZ (fun x => by simp [ze3]) l
def zbF (r : Rg) : List Int := if r.hi < 4294967295 then [r.lo, r.hi + 1] else [r.lo]
theorem zm2 (r : Rg) (h : RgOK r) : PCalls Tryz.prog 186 [zau r] (zdN (zbF r)) := by
  obtain ⟨a1, a2, a3, a4⟩ := h
  have w1 : IntKind.u64.wrap r.lo = r.lo := zcr (by omega) (by omega)
  have w2 : IntKind.u64.wrap r.hi = r.hi := zcr (by omega) (by omega)
  have w3 : IntKind.u64.wrap (r.hi + 1) = r.hi + 1 := zcr (by omega) (by omega)
  refine zJ Tryz.func186 rfl (N := 19) rfl rfl (by simp) (by simp [noIds]) fun σ => ?_
  unfold zbF
  by_cases q : r.hi < 4294967295
  · rw [if_pos q]
    (try ((first | with_reducible refine zh ?_ | with_reducible refine zm ?_ | with_reducible refine zo ?_); simp [-cellOK, zT, w1, w2, w3, q, -zG])); repeat' (first | ((first | refine zd ?_ | refine zg ?_ | refine dN (by decide +kernel) ?_ | refine dC (by decide +kernel) ?_ | (refine za ?_ ?_ <;> (intro hg; simp only [hg])) | fail) <;> simp [-cellOK, zT, w1, w2, w3, q, -zG]) | refine zf ?_ | refine zc ?_ | (refine zp ?_; simp only [zq]; try simp) | (refine zl (by simp) ?_; simp) | (refine zD (by simp) (by simp [noIds]) (by repeat (first | assumption | exact Ext.refl _ | refine zv ?_ | refine Ext.setF ?_ (by first | assumption | (simp [ze, St.set, zk]; done) | exact zt (by assumption)))) ?_; simp [-cellOK, zT, w1, w2, w3, q, -zG, zS]) | (refine zb (fun hc => ?_) (fun hc => ?_) <;> try simp at hc) | fail)
    refine zal zqj (σ0 := σ) (es := [ze3 r.lo]) (OwnL.of (j := ⟨7, σ.nx 7, 1⟩) rfl (by simp [zz, ze, ze3]) (zk _ _ _) rfl) ((by repeat (first | assumption | exact Ext.refl _ | refine zv ?_ | refine Ext.setF ?_ (by first | assumption | (simp [ze, St.set, zk]; done) | exact zt (by assumption))))) (ys := [ze3 (r.hi + 1)]) (by simp [ze3, zz, ze]) (.inr rfl) (by simp [ze3]) (by simp) ?_
    intro v' τ' hO hE _ _
    (try ((first | with_reducible refine zh ?_ | with_reducible refine zm ?_ | with_reducible refine zo ?_); simp [-cellOK])); repeat' (first | ((first | refine zd ?_ | refine zg ?_ | refine dN (by decide +kernel) ?_ | refine dC (by decide +kernel) ?_ | (refine za ?_ ?_ <;> (intro hg; simp only [hg])) | fail) <;> simp [-cellOK]) | refine zf ?_ | refine zc ?_ | (refine zp ?_; simp only [zq]; try simp) | (refine zb (fun hc => ?_) (fun hc => ?_) <;> try simp at hc) | fail)
    exact zbX (.inr rfl) (by simp) hO hE
  · rw [if_neg q]
    (try ((first | with_reducible refine zh ?_ | with_reducible refine zm ?_ | with_reducible refine zo ?_); simp [-cellOK, zT, w1, w2, w3, q])); repeat' (first | ((first | refine zd ?_ | refine zg ?_ | refine dN (by decide +kernel) ?_ | refine dC (by decide +kernel) ?_ | (refine za ?_ ?_ <;> (intro hg; simp only [hg])) | fail) <;> simp [-cellOK, zT, w1, w2, w3, q]) | refine zf ?_ | refine zc ?_ | (refine zp ?_; simp only [zq]; try simp) | (refine zb (fun hc => ?_) (fun hc => ?_) <;> try simp at hc) | fail)
    refine zbi (x := .rs ⟨7, σ.nx 7, 1⟩ 0 1) (.inr rfl) (by repeat (first | assumption | exact Ext.refl _ | refine zv ?_ | refine Ext.setF ?_ (by first | assumption | (simp [ze, St.set, zk]; done) | exact zt (by assumption)))) ?_ ?_
    · simp [ze]
    · simp [zah, zF, zk, zz, ze, zdN, ze3]
def Tab.with_ (T : Tab) (r : Rg) (by_ : Int) : Tab := ⟨(zbF r).foldl (fun b e => zbw b e by_) T.b, zbw T.g (zbL r) by_, T.n + by_⟩
structure WithOK (T : Tab) (r : Rg) (by_ : Int) : Prop where
  rg : RgOK r
  n0 : -2 ^ 40 < T.n + by_
  n1 : T.n + by_ < 2 ^ 40
  key : MoreOK T.g (zbL r) by_
  ends : ∀ (i : Nat) (e : Int), (zbF r)[i]? = some e → MoreOK (((zbF r).take i).foldl (fun b e => zbw b e by_) T.b) e by_
theorem zc5 (T : Tab) : zcL T = .pp [trP T.b, trP T.g, .raw (.int .i64 T.n)] 0 := rfl
theorem zfr (t : Tr) (off : Nat) (x : AV) : setPart (trP t) off [x] = x := rfl
theorem zi1 (T : Tab) (r : Rg) (by_ : Int) (h : WithOK T r by_) : PCalls Tryz.prog 133 [zcL T, zau r, .raw (.int .i64 by_)] (zcL (T.with_ r by_)) := by
  have w := zU (n := T.n + by_) (by have := h.n0; omega) (by have := h.n1; omega)
  have hk := zj0 r h.rg
  have hm := zi0 T.g (zbL r) by_ h.key
  have he := zm2 r h.rg
  have hlen : (zbF r).length ≤ 2 := by unfold zbF; split <;> simp
  have hends := h.ends
  rw [zc5 (T.with_ r by_)]
  unfold Tab.with_
  simp only []
  generalize zbw T.g (zbL r) by_ = G at hm ⊢
  generalize zbF r = E at he hlen hends ⊢
  rw [zc5]
  refine zJ Tryz.func133 rfl (N := 49) rfl rfl (by simp) (by simp [noIds]) fun σ => ?_
  have f29 : σ.m ⟨29, σ.nx 29, 3⟩ = none := zk _ _ _
  (try ((first | with_reducible refine zh ?_ | with_reducible refine zm ?_ | with_reducible refine zo ?_); simp [-cellOK, zT, zav, w])); repeat' (first | ((first | refine zd ?_ | refine zg ?_ | refine dN (by decide +kernel) ?_ | refine dC (by decide +kernel) ?_ | refine uP (hk) ?_ | refine .inl ⟨_, .inl (hk), ?_⟩ | refine uP (hm) ?_ | refine .inl ⟨_, .inl (hm), ?_⟩ | refine uP (he) ?_ | refine .inl ⟨_, .inl (he), ?_⟩ | (refine za ?_ ?_ <;> (intro hg; simp only [hg])) | fail) <;> simp [-cellOK, zT, zav, w]) | refine zf ?_ | refine zc ?_ | (refine zp ?_; simp only [zq]; try simp) | (refine zl (by simp) ?_; simp) | (refine zD (by simp) (by simp [noIds]) (by repeat (first | assumption | exact Ext.refl _ | refine zv ?_ | refine Ext.setF ?_ (by first | assumption | (simp [ze, St.set, zk]; done) | exact zt (by assumption)))) ?_; simp [-cellOK, zT, zav, w, zS]) | (refine zb (fun hc => ?_) (fun hc => ?_) <;> try simp at hc) | fail)
  refine zZ (fun n A τ => Ext σ τ ∧ A 2 = .raw (.int .i64 by_) ∧ A 7 = .rp ⟨29, σ.nx 29, 3⟩ 0 0 ∧ A 31 = zdN E ∧ A 32 = .raw (.int .i64 E.length) ∧ ∃ i : Nat, A 33 = .raw (.int .i64 i) ∧ i ≤ E.length ∧ n = E.length - i ∧ τ.m ⟨29, σ.nx 29, 3⟩ = some (.buf [.agg [trP ((E.take i).foldl (fun b e => zbw b e by_) T.b), trP G, .raw (.int .i64 (T.n + by_))]])) E.length ?_ ?_
  · exact ⟨(by repeat (first | assumption | exact Ext.refl _ | refine zv ?_ | refine Ext.setF ?_ (by first | assumption | (simp [ze, St.set, zk]; done) | exact zt (by assumption)))), by simp, by simp [ze], by simp [zdN], by simp [zdN], 0, by simp, by omega, by omega, by simp [zz, ze]⟩
  rintro n A τ ⟨hE, a2, a7, a31, a32, i, a33, hi, rfl, hmm⟩ I1 hI1
  by_cases hlt : i < E.length
  · have hx : E[i]? = some E[i] := List.getElem?_eq_getElem hlt
    have w1 : IntKind.i64.wrap ((i : Int) + 1) = ((i + 1 : Nat) : Int) := by rw [zU (by omega) (by omega)]; omega
    have hmo := zi0 _ _ by_ (hends i _ hx)
    have hf : (E.take (i + 1)).foldl (fun b e => zbw b e by_) T.b = zbw ((E.take i).foldl (fun b e => zbw b e by_) T.b) E[i] by_ := by
      rw [List.take_add_one, hx, List.foldl_append]; rfl
    rw [← hf] at hmo
    generalize (E.take i).foldl (fun b e => zbw b e by_) T.b = B at hmo hmm hf
    obtain ⟨B', hB'⟩ : ∃ x, (E.take (i + 1)).foldl (fun b e => zbw b e by_) T.b = x := ⟨_, rfl⟩
    rw [hB'] at hmo
    (try ((first | with_reducible refine zh ?_ | with_reducible refine zm ?_ | with_reducible refine zo ?_); simp [-cellOK, a2, a7, a31, a32, a33, hlt, hx, hmm, w1, zdN, ze3, zfr])); repeat' (first | ((first | refine zd ?_ | refine zg ?_ | refine dN (by decide +kernel) ?_ | refine dC (by decide +kernel) ?_ | refine uP (hmo) ?_ | refine .inl ⟨_, .inl (hmo), ?_⟩ | (refine za ?_ ?_ <;> (intro hg; simp only [hg])) | fail) <;> simp [-cellOK, a2, a7, a31, a32, a33, hlt, hx, hmm, w1, zdN, ze3, zfr]) | refine zf ?_ | refine zc ?_ | (refine zp ?_; simp only [zq]; try simp) | (refine zl (by simp) ?_; simp) | (refine zD (by simp) (by simp [noIds]) (by repeat (first | assumption | exact Ext.refl _ | refine zv ?_ | refine Ext.setF ?_ (by first | assumption | (simp [ze, St.set, zk]; done) | exact zt (by assumption)))) ?_; simp [-cellOK, a2, a7, a31, a32, a33, hlt, hx, hmm, w1, zdN, ze3, zfr, zS]) | (refine zb (fun hc => ?_) (fun hc => ?_) <;> try simp at hc) | fail)
    refine hI1 (E.length - (i + 1)) _ _ (by omega) ⟨Ext.setF hE f29, by simp [a2], by simp [a7], by simp [a31, zdN], by simp [a32], i + 1, by simp, by omega, rfl, ?_⟩
    simp [zB, hmm, hB']
  · have : i = E.length := by omega
    subst this
    rw [List.take_length] at hmm
    generalize E.foldl (fun b e => zbw b e by_) T.b = B at hmm ⊢
    (try ((first | with_reducible refine zh ?_ | with_reducible refine zm ?_ | with_reducible refine zo ?_); simp [-cellOK, a2, a7, a31, a32, a33])); repeat' (first | ((first | refine zd ?_ | refine zg ?_ | refine dN (by decide +kernel) ?_ | refine dC (by decide +kernel) ?_ | (refine za ?_ ?_ <;> (intro hg; simp only [hg])) | fail) <;> simp [-cellOK, a2, a7, a31, a32, a33]) | refine zf ?_ | refine zc ?_ | (refine zp ?_; simp only [zq]; try simp) | (refine zb (fun hc => ?_) (fun hc => ?_) <;> try simp at hc) | fail)
    refine zbi (x := .rp ⟨29, σ.nx 29, 3⟩ 0 0) (.inr rfl) hE ?_ ?_
    · simp
    · simp [zah, zF, f29, hmm]
def zcE (T : Option Tab) (r : Rg) : Option Tab × Int := if r.hi < r.lo then (none, 51) else if 500 ≤ (T.getD zL).n then (none, 41) else (some ((T.getD zL).with_ r 1), 0)
theorem zj1 (T : Option Tab) (r : Rg) (h : r.lo ≤ r.hi → (T.getD zL).n < 500 → WithOK (T.getD zL) r 1) : PCalls Tryz.prog 77 [zaj T, zau r] (.tup [zaj (zcE T r).1, .raw (.int .i64 (zcE T r).2)]) := by
  have ho := zcs T
  unfold zcE
  refine zJ Tryz.func77 rfl (N := 23) rfl rfl (by simp) (by simp [noIds]) fun σ => ?_
  by_cases q1 : r.hi < r.lo
  · rw [if_pos q1]
    rw [zc5] at ho
    (try ((first | with_reducible refine zh ?_ | with_reducible refine zm ?_ | with_reducible refine zo ?_); simp [-cellOK, zT, zav, q1, zaj])); repeat' (first | ((first | refine zd ?_ | refine zg ?_ | refine dN (by decide +kernel) ?_ | refine dC (by decide +kernel) ?_ | refine uP (ho) ?_ | refine .inl ⟨_, .inl (ho), ?_⟩ | (refine za ?_ ?_ <;> (intro hg; simp only [hg])) | fail) <;> simp [-cellOK, zT, zav, q1, zaj]) | refine zf ?_ | refine zc ?_ | (refine zp ?_; simp only [zq]; try simp) | (refine zl (by simp) ?_; simp) | (refine zD (by simp) (by simp [noIds]) (by repeat (first | assumption | exact Ext.refl _ | refine zv ?_ | refine Ext.setF ?_ (by first | assumption | (simp [ze, St.set, zk]; done) | exact zt (by assumption)))) ?_; simp [-cellOK, zT, zav, q1, zaj, zS]) | (refine zb (fun hc => ?_) (fun hc => ?_) <;> try simp at hc) | fail)
  · rw [if_neg q1]
    by_cases q2 : 500 ≤ (T.getD zL).n
    · rw [if_pos q2]
      rw [zc5] at ho
      (try ((first | with_reducible refine zh ?_ | with_reducible refine zm ?_ | with_reducible refine zo ?_); simp [-cellOK, zT, zav, q1, q2, zaj])); repeat' (first | ((first | refine zd ?_ | refine zg ?_ | refine dN (by decide +kernel) ?_ | refine dC (by decide +kernel) ?_ | refine uP (ho) ?_ | refine .inl ⟨_, .inl (ho), ?_⟩ | (refine za ?_ ?_ <;> (intro hg; simp only [hg])) | fail) <;> simp [-cellOK, zT, zav, q1, q2, zaj]) | refine zf ?_ | refine zc ?_ | (refine zp ?_; simp only [zq]; try simp) | (refine zl (by simp) ?_; simp) | (refine zD (by simp) (by simp [noIds]) (by repeat (first | assumption | exact Ext.refl _ | refine zv ?_ | refine Ext.setF ?_ (by first | assumption | (simp [ze, St.set, zk]; done) | exact zt (by assumption)))) ?_; simp [-cellOK, zT, zav, q1, q2, zaj, zS]) | (refine zb (fun hc => ?_) (fun hc => ?_) <;> try simp at hc) | fail)
    · rw [if_neg q2]
      have hw := zi1 (T.getD zL) r 1 (h (by omega) (by omega))
      generalize (T.getD zL).with_ r 1 = U at hw ⊢
      rw [zc5 (T.getD zL)] at ho hw
      (try ((first | with_reducible refine zh ?_ | with_reducible refine zm ?_ | with_reducible refine zo ?_); simp [-cellOK, zT, zav, q1, q2, zaj])); repeat' (first | ((first | refine zd ?_ | refine zg ?_ | refine dN (by decide +kernel) ?_ | refine dC (by decide +kernel) ?_ | refine uP (ho) ?_ | refine .inl ⟨_, .inl (ho), ?_⟩ | refine uP (hw) ?_ | refine .inl ⟨_, .inl (hw), ?_⟩ | (refine za ?_ ?_ <;> (intro hg; simp only [hg])) | fail) <;> simp [-cellOK, zT, zav, q1, q2, zaj]) | refine zf ?_ | refine zc ?_ | (refine zp ?_; simp only [zq]; try simp) | (refine zl (by simp) ?_; simp) | (refine zD (by simp) (by simp [noIds]) (by repeat (first | assumption | exact Ext.refl _ | refine zv ?_ | refine Ext.setF ?_ (by first | assumption | (simp [ze, St.set, zk]; done) | exact zt (by assumption)))) ?_; simp [-cellOK, zT, zav, q1, q2, zaj, zS]) | (refine zb (fun hc => ?_) (fun hc => ?_) <;> try simp at hc) | fail)
def zfs (T : Option Tab) (r : Rg) : Int := ((T.getD zL).g.get (zbL r)).getD 0
theorem zl8 (T : Option Tab) (r : Rg) (h : RgOK r) : PCalls Tryz.prog 144 [zaj T, zau r] (.raw (.int .i64 (zfs T r))) := by
  have ho := zcs T
  have hk := zj0 r h
  have hg := zea (T.getD zL).g (zbL r)
  unfold zfs
  rw [zc5] at ho
  generalize ((T.getD zL).g.get (zbL r)).getD 0 = x at hg ⊢
  refine zJ Tryz.func144 rfl (N := 19) rfl rfl (by simp) (by simp [noIds]) fun σ => ?_
  (try ((first | with_reducible refine zh ?_ | with_reducible refine zm ?_ | with_reducible refine zo ?_); simp [-cellOK, zT, zav])); repeat' (first | ((first | refine zd ?_ | refine zg ?_ | refine dN (by decide +kernel) ?_ | refine dC (by decide +kernel) ?_ | refine uP (ho) ?_ | refine .inl ⟨_, .inl (ho), ?_⟩ | refine uP (hk) ?_ | refine .inl ⟨_, .inl (hk), ?_⟩ | refine uP (hg) ?_ | refine .inl ⟨_, .inl (hg), ?_⟩ | (refine za ?_ ?_ <;> (intro hg; simp only [hg])) | fail) <;> simp [-cellOK, zT, zav]) | refine zf ?_ | refine zc ?_ | (refine zp ?_; simp only [zq]; try simp) | (refine zl (by simp) ?_; simp) | (refine zD (by simp) (by simp [noIds]) (by repeat (first | assumption | exact Ext.refl _ | refine zv ?_ | refine Ext.setF ?_ (by first | assumption | (simp [ze, St.set, zk]; done) | exact zt (by assumption)))) ?_; simp [-cellOK, zT, zav, zS]) | (refine zb (fun hc => ?_) (fun hc => ?_) <;> try simp at hc) | fail)
def zcN (T : Option Tab) (r : Rg) : Option Tab × Int := if zfs T r = 0 then (none, 51) else (some ((T.getD zL).with_ r (-1)), 0)
theorem zl9 (T : Option Tab) (r : Rg) (hr : RgOK r) (h : zfs T r ≠ 0 → WithOK (T.getD zL) r (-1)) : PCalls Tryz.prog 93 [zaj T, zau r] (.tup [zaj (zcN T r).1, .raw (.int .i64 (zcN T r).2)]) := by
  have ho := zcs T
  have hc := zl8 (some (T.getD zL)) r hr
  have hcc : zfs (some (T.getD zL)) r = zfs T r := rfl
  rw [hcc] at hc
  unfold zcN
  have e : zaj (some (T.getD zL)) = zcL (T.getD zL) := rfl
  rw [e] at hc
  refine zJ Tryz.func93 rfl (N := 15) rfl rfl (by simp) (by simp [noIds]) fun σ => ?_
  by_cases q1 : zfs T r = 0
  · rw [if_pos q1]
    rw [q1] at hc
    (try ((first | with_reducible refine zh ?_ | with_reducible refine zm ?_ | with_reducible refine zo ?_); simp [-cellOK, zT, zav, zaj])); repeat' (first | ((first | refine zd ?_ | refine zg ?_ | refine dN (by decide +kernel) ?_ | refine dC (by decide +kernel) ?_ | refine uP (ho) ?_ | refine .inl ⟨_, .inl (ho), ?_⟩ | refine uP (hc) ?_ | refine .inl ⟨_, .inl (hc), ?_⟩ | (refine za ?_ ?_ <;> (intro hg; simp only [hg])) | fail) <;> simp [-cellOK, zT, zav, zaj]) | refine zf ?_ | refine zc ?_ | (refine zp ?_; simp only [zq]; try simp) | (refine zl (by simp) ?_; simp) | (refine zD (by simp) (by simp [noIds]) (by repeat (first | assumption | exact Ext.refl _ | refine zv ?_ | refine Ext.setF ?_ (by first | assumption | (simp [ze, St.set, zk]; done) | exact zt (by assumption)))) ?_; simp [-cellOK, zT, zav, zaj, zS]) | (refine zb (fun hc => ?_) (fun hc => ?_) <;> try simp at hc) | fail)
  · rw [if_neg q1]
    have hw := zi1 (T.getD zL) r (-1) (h q1)
    generalize (T.getD zL).with_ r (-1) = U at hw ⊢
    (try ((first | with_reducible refine zh ?_ | with_reducible refine zm ?_ | with_reducible refine zo ?_); simp [-cellOK, zT, zav, q1, zaj])); repeat' (first | ((first | refine zd ?_ | refine zg ?_ | refine dN (by decide +kernel) ?_ | refine dC (by decide +kernel) ?_ | refine uP (ho) ?_ | refine .inl ⟨_, .inl (ho), ?_⟩ | refine uP (hc) ?_ | refine .inl ⟨_, .inl (hc), ?_⟩ | refine uP (hw) ?_ | refine .inl ⟨_, .inl (hw), ?_⟩ | (refine za ?_ ?_ <;> (intro hg; simp only [hg])) | fail) <;> simp [-cellOK, zT, zav, q1, zaj]) | refine zf ?_ | refine zc ?_ | (refine zp ?_; simp only [zq]; try simp) | (refine zl (by simp) ?_; simp) | (refine zD (by simp) (by simp [noIds]) (by repeat (first | assumption | exact Ext.refl _ | refine zv ?_ | refine Ext.setF ?_ (by first | assumption | (simp [ze, St.set, zk]; done) | exact zt (by assumption)))) ?_; simp [-cellOK, zT, zav, q1, zaj, zS]) | (refine zb (fun hc => ?_) (fun hc => ?_) <;> try simp at hc) | fail)
theorem ze4 (T : Option Tab) : PCalls Tryz.prog 83 [zaj T] (.raw (.int .i64 (T.getD zL).b.sz)) := by
  have ho := zcs T
  have hl := zbd (T.getD zL).b
  rw [zc5] at ho
  refine zJ Tryz.func83 rfl (N := 9) rfl rfl (by simp) (by simp [noIds]) fun σ => ?_
  (try ((first | with_reducible refine zh ?_ | with_reducible refine zm ?_ | with_reducible refine zo ?_); simp [-cellOK])); repeat' (first | ((first | refine zd ?_ | refine zg ?_ | refine dN (by decide +kernel) ?_ | refine dC (by decide +kernel) ?_ | refine uP (ho) ?_ | refine .inl ⟨_, .inl (ho), ?_⟩ | refine uP (hl) ?_ | refine .inl ⟨_, .inl (hl), ?_⟩ | (refine za ?_ ?_ <;> (intro hg; simp only [hg])) | fail) <;> simp [-cellOK]) | refine zf ?_ | refine zc ?_ | (refine zp ?_; simp only [zq]; try simp) | (refine zl (by simp) ?_; simp) | (refine zD (by simp) (by simp [noIds]) (by repeat (first | assumption | exact Ext.refl _ | refine zv ?_ | refine Ext.setF ?_ (by first | assumption | (simp [ze, St.set, zk]; done) | exact zt (by assumption)))) ?_; simp [-cellOK, zS]) | (refine zb (fun hc => ?_) (fun hc => ?_) <;> try simp at hc) | fail)
def zaS (T : Option Tab) (i : Int) : Option Rg := ((T.getD zL).b.atI i).map fun p => ⟨IntKind.u32.wrap p.1, IntKind.u32.wrap (match (T.getD zL).b.atI (i + 1) with | some q => IntKind.u64.wrap (q.1 - 1) | none => 4294967295)⟩
theorem zgf (T : Option Tab) (i : Int) (hz : (T.getD zL).b.sz < 2 ^ 40) : PCalls Tryz.prog 107 [zaj T, .raw (.int .i64 i)] (.tup [zau ((zaS T i).getD ⟨0, 0⟩), .raw (.bool (zaS T i).isSome)]) := by
  have ho := zcs T
  have h1 := ziZ (T.getD zL).b i (by omega)
  have h2 := ziZ (T.getD zL).b (i + 1) (by omega)
  rw [zc5] at ho
  unfold zaS
  have hrp : ∀ x y : Int, setPart (AV.agg [.raw (.int .u32 0), .raw (.int .u32 0)]) 0 [.raw (.int .u32 x), .raw (.int .u32 y)] = zau ⟨x, y⟩ := fun _ _ => rfl
  have hrf : ∀ x y : Int, AV.agg [.raw (.int .u32 x), .raw (.int .u32 y)] = zau ⟨x, y⟩ := fun _ _ => rfl
  have hrq : ∀ x y : Int, setPart (zau ⟨0, 0⟩) 0 [.raw (.int .u32 x), .raw (.int .u32 y)] = zau ⟨x, y⟩ := fun _ _ => rfl
  refine zJ Tryz.func107 rfl (N := 43) rfl rfl (by simp) (by simp [noIds]) fun σ => ?_
  cases hq : (T.getD zL).b.atI i with
  | none =>
    rw [hq] at h1
    (try ((first | with_reducible refine zh ?_ | with_reducible refine zm ?_ | with_reducible refine zo ?_); simp [-cellOK, zT, hrf, hrq, hrp, zI, zK, zaG, zaB, zaj])); repeat' (first | ((first | refine zd ?_ | refine zg ?_ | refine dN (by decide +kernel) ?_ | refine dC (by decide +kernel) ?_ | refine uP (ho) ?_ | refine .inl ⟨_, .inl (ho), ?_⟩ | refine uP (h1) ?_ | refine .inl ⟨_, .inl (h1), ?_⟩ | (refine za ?_ ?_ <;> (intro hg; simp only [hg])) | fail) <;> simp [-cellOK, zT, hrf, hrq, hrp, zI, zK, zaG, zaB, zaj]) | refine zf ?_ | refine zc ?_ | (refine zp ?_; simp only [zq]; try simp) | (refine zl (by simp) ?_; simp) | (refine zD (by simp) (by simp [noIds]) (by repeat (first | assumption | exact Ext.refl _ | refine zv ?_ | refine Ext.setF ?_ (by first | assumption | (simp [ze, St.set, zk]; done) | exact zt (by assumption)))) ?_; simp [-cellOK, zT, hrf, hrq, hrp, zI, zK, zaG, zaB, zaj, zS]) | (refine zb (fun hc => ?_) (fun hc => ?_) <;> try simp at hc) | fail)
  | some p =>
    rw [hq] at h1
    have hi : 0 ≤ i ∧ i < (T.getD zL).b.sz := by
      unfold Tr.atI at hq
      split at hq
      · rename_i h0
        refine ⟨h0, ?_⟩
        apply Classical.byContradiction
        intro hn
        rw [Tr.at_none _ _ (by omega)] at hq; cases hq
      · cases hq
    have w := zU (n := i + 1) (by omega) (by omega)
    cases hq2 : (T.getD zL).b.atI (i + 1) with
    | none =>
      rw [hq2] at h2
      (try ((first | with_reducible refine zh ?_ | with_reducible refine zm ?_ | with_reducible refine zo ?_); simp [-cellOK, zT, hrf, hrq, hrp, zI, zK, zaG, zaB, zaj, w])); repeat' (first | ((first | refine zd ?_ | refine zg ?_ | refine dN (by decide +kernel) ?_ | refine dC (by decide +kernel) ?_ | refine uP (ho) ?_ | refine .inl ⟨_, .inl (ho), ?_⟩ | refine uP (h1) ?_ | refine .inl ⟨_, .inl (h1), ?_⟩ | refine uP (h2) ?_ | refine .inl ⟨_, .inl (h2), ?_⟩ | (refine za ?_ ?_ <;> (intro hg; simp only [hg])) | fail) <;> simp [-cellOK, zT, hrf, hrq, hrp, zI, zK, zaG, zaB, zaj, w]) | refine zf ?_ | refine zc ?_ | (refine zp ?_; simp only [zq]; try simp) | (refine zl (by simp) ?_; simp) | (refine zD (by simp) (by simp [noIds]) (by repeat (first | assumption | exact Ext.refl _ | refine zv ?_ | refine Ext.setF ?_ (by first | assumption | (simp [ze, St.set, zk]; done) | exact zt (by assumption)))) ?_; simp [-cellOK, zT, hrf, hrq, hrp, zI, zK, zaG, zaB, zaj, w, zS]) | (refine zb (fun hc => ?_) (fun hc => ?_) <;> try simp at hc) | fail)
    | some q =>
      rw [hq2] at h2
      (try ((first | with_reducible refine zh ?_ | with_reducible refine zm ?_ | with_reducible refine zo ?_); simp [-cellOK, zT, hrf, hrq, hrp, zI, zK, zaG, zaB, zaj, w])); repeat' (first | ((first | refine zd ?_ | refine zg ?_ | refine dN (by decide +kernel) ?_ | refine dC (by decide +kernel) ?_ | refine uP (ho) ?_ | refine .inl ⟨_, .inl (ho), ?_⟩ | refine uP (h1) ?_ | refine .inl ⟨_, .inl (h1), ?_⟩ | refine uP (h2) ?_ | refine .inl ⟨_, .inl (h2), ?_⟩ | (refine za ?_ ?_ <;> (intro hg; simp only [hg])) | fail) <;> simp [-cellOK, zT, hrf, hrq, hrp, zI, zK, zaG, zaB, zaj, w]) | refine zf ?_ | refine zc ?_ | (refine zp ?_; simp only [zq]; try simp) | (refine zl (by simp) ?_; simp) | (refine zD (by simp) (by simp [noIds]) (by repeat (first | assumption | exact Ext.refl _ | refine zv ?_ | refine Ext.setF ?_ (by first | assumption | (simp [ze, St.set, zk]; done) | exact zt (by assumption)))) ?_; simp [-cellOK, zT, hrf, hrq, hrp, zI, zK, zaG, zaB, zaj, w, zS]) | (refine zb (fun hc => ?_) (fun hc => ?_) <;> try simp at hc) | fail)
def zej (T : Tab) (b : Int) : Int := (T.b.cut b).1.sz
theorem zma (T : Tab) (b : Int) (hz : T.b.sz < 2 ^ 40) : PCalls Tryz.prog 155 [zcL T, .raw (.int .u64 b)] (.raw (.int .i64 (zej T b))) := by
  have hs := zks T.b b (by omega)
  have hl := zbd (T.b.cut b).1
  unfold zej
  generalize (T.b.cut b).1 = U at hs hl ⊢
  generalize (T.b.cut b).2 = V at hs
  rw [zc5]
  refine zJ Tryz.func155 rfl (N := 18) rfl rfl (by simp) (by simp [noIds]) fun σ => ?_
  (try ((first | with_reducible refine zh ?_ | with_reducible refine zm ?_ | with_reducible refine zo ?_); simp [-cellOK])); repeat' (first | ((first | refine zd ?_ | refine zg ?_ | refine dN (by decide +kernel) ?_ | refine dC (by decide +kernel) ?_ | refine uP (hs) ?_ | refine .inl ⟨_, .inl (hs), ?_⟩ | refine uP (hl) ?_ | refine .inl ⟨_, .inl (hl), ?_⟩ | (refine za ?_ ?_ <;> (intro hg; simp only [hg])) | fail) <;> simp [-cellOK]) | refine zf ?_ | refine zc ?_ | (refine zp ?_; simp only [zq]; try simp) | (refine zl (by simp) ?_; simp) | (refine zD (by simp) (by simp [noIds]) (by repeat (first | assumption | exact Ext.refl _ | refine zv ?_ | refine Ext.setF ?_ (by first | assumption | (simp [ze, St.set, zk]; done) | exact zt (by assumption)))) ?_; simp [-cellOK, zS]) | (refine zb (fun hc => ?_) (fun hc => ?_) <;> try simp at hc) | fail)
def ofT (T : Option Tab) (a : Int) : Int := zej (T.getD zL) (a + 1) - 1
theorem zmb (T : Option Tab) (a : Int) (h0 : 0 ≤ a) (h1 : a < 4294967296) (hz : (T.getD zL).b.sz < 2 ^ 40) : PCalls Tryz.prog 106 [zaj T, .raw (.int .u32 a)] (.raw (.int .i64 (ofT T a))) := by
  have ho := zcs T
  have hp := zma (T.getD zL) (a + 1) hz
  have hpn : 0 ≤ zej (T.getD zL) (a + 1) := Tr.sz_nn _
  have hpz : zej (T.getD zL) (a + 1) < 2 ^ 40 := by
    have := Tr.cut_sz (a + 1) (T.getD zL).b
    have h2 := ((T.getD zL).b.cut (a + 1)).2.sz_nn
    unfold zej; omega
  unfold ofT
  generalize zej (T.getD zL) (a + 1) = x at *
  have w1 : IntKind.u64.wrap a = a := zcr (by omega) (by omega)
  have w2 : IntKind.u64.wrap (a + 1) = a + 1 := zcr (by omega) (by omega)
  have w3 := zU (n := x - 1) (by omega) (by omega)
  refine zJ Tryz.func106 rfl (N := 12) rfl rfl (by simp) (by simp [noIds]) fun σ => ?_
  (try ((first | with_reducible refine zh ?_ | with_reducible refine zm ?_ | with_reducible refine zo ?_); simp [-cellOK, w1, w2, w3])); repeat' (first | ((first | refine zd ?_ | refine zg ?_ | refine dN (by decide +kernel) ?_ | refine dC (by decide +kernel) ?_ | refine uP (ho) ?_ | refine .inl ⟨_, .inl (ho), ?_⟩ | refine uP (hp) ?_ | refine .inl ⟨_, .inl (hp), ?_⟩ | (refine za ?_ ?_ <;> (intro hg; simp only [hg])) | fail) <;> simp [-cellOK, w1, w2, w3]) | refine zf ?_ | refine zc ?_ | (refine zp ?_; simp only [zq]; try simp) | (refine zl (by simp) ?_; simp) | (refine zD (by simp) (by simp [noIds]) (by repeat (first | assumption | exact Ext.refl _ | refine zv ?_ | refine Ext.setF ?_ (by first | assumption | (simp [ze, St.set, zk]; done) | exact zt (by assumption)))) ?_; simp [-cellOK, w1, w2, w3, zS]) | (refine zb (fun hc => ?_) (fun hc => ?_) <;> try simp at hc) | fail)
end Go.Proofs.YtanimmdlgmkmkaaGreat.Av
namespace Go.Proofs.YtanimmdlgmkmkaaGreat.Av
set_option linter.unusedSimpArgs false
set_option linter.unusedVariables false
theorem zdZ {α : Type} [DecidableEq α] : ∀ {l m : List α}, l.Nodup → (∀ x ∈ l, x ∈ m) → l.length ≤ m.length
  | [], _, _, _ => by simp
  | a :: l, m, h, hs => by
    have h' := List.nodup_cons.1 h
    have := zdZ (m := m.erase a) h'.2 fun x hx => by
      have hne : x ≠ a := fun e => h'.1 (e ▸ hx)
      exact (List.mem_erase_of_ne hne).2 (hs x (by simp [hx]))
    have hl := List.length_erase_of_mem (hs a (by simp))
    have hpos : 0 < m.length := List.length_pos_of_mem (hs a (by simp))
    simp only [List.length_cons]
    omega
def zeo (n : Nat) : Option Int := if n = 0 then none else some n
theorem zj2 (n : Nat) : (zeo n).getD 0 = n := by
  unfold zeo
  split
  · rename_i h; subst h; rfl
  · rfl
theorem znM (n : Nat) : zeo n = none ↔ n = 0 := by
  unfold zeo
  split
  · rename_i h; simp [h]
  · rename_i h; simp [h]
structure KeyRep (t : Tr) (l : List Int) : Prop where
  srt : Tr.Srt t.toL
  get : ∀ k, t.get k = zeo (l.count k)
theorem KeyRep.mem {t : Tr} {l : List Int} (h : KeyRep t l) (k : Int) : k ∈ t.toL.map (·.1) ↔ k ∈ l := by
  have := Tr.get_none h.srt k
  rw [h.get, znM, List.count_eq_zero] at this
  constructor
  · intro hk
    apply Classical.byContradiction
    intro hn
    exact this.1 hn hk
  · intro hk
    apply Classical.byContradiction
    intro hn
    exact this.2 hn hk
theorem Tr.Srt.nodup {l : List (Int × Int)} (h : Tr.Srt l) : (l.map (·.1)).Nodup := by
  unfold Tr.Srt at h
  unfold List.Nodup
  rw [List.pairwise_map]
  exact h.imp fun hab => by omega
theorem KeyRep.sz {t : Tr} {l : List Int} (h : KeyRep t l) : t.sz ≤ l.length := by
  have := zdZ h.srt.nodup fun x hx => (h.mem x).1 hx
  rw [Tr.sz_toL]
  simp at this
  omega
theorem KeyRep.perm {t : Tr} {l m : List Int} (h : KeyRep t l) (p : l.Perm m) : KeyRep t m := ⟨h.srt, fun k => by rw [h.get, p.count_eq]⟩
theorem KeyRep.more {t : Tr} {l : List Int} (h : KeyRep t l) (k : Int) (hl : l.length < 1024) : MoreOK t k 1 ∧ KeyRep (zbw t k 1) (k :: l) := by
  have hs := h.sz
  have hc := List.count_le_length (a := k) (l := l)
  have hg : (t.get k).getD 0 = (l.count k : Nat) := by rw [h.get, zj2]
  have hne : ¬ (t.get k).getD 0 + 1 = 0 := by omega
  refine ⟨⟨by omega, by omega, by omega, fun e => absurd e hne, fun _ => by omega⟩, ?_⟩
  unfold zbw
  rw [if_neg hne]
  refine ⟨by rw [Tr.with_toL t _ _ h.srt]; exact Tr.put_srt h.srt _ _, fun k2 => ?_⟩
  rw [Tr.get_with h.srt, List.count_cons, hg]
  by_cases e : k2 = k
  · subst e
    rw [if_pos rfl]
    unfold zeo
    simp
  · rw [if_neg e, h.get]
    have : (k == k2) = false := by simp; omega
    simp [this]
theorem Tr.get_without {t : Tr} (h : Tr.Srt t.toL) (k k2 : Int) : (t.without k).get k2 = if k2 = k then none else t.get k2 := by
  have hs : Tr.Srt (t.without k).toL := by rw [Tr.without_toL t k h]; exact h.filter _
  rw [Tr.get_eq _ _ hs, Tr.without_toL t k h, Tr.get_eq _ _ h, List.find?_filter]
  by_cases e : k2 = k
  · subst e
    rw [if_pos rfl]
    have : t.toL.find? (fun a => decide ((!decide (a.1 = k2)) = true ∧ decide (a.1 = k2) = true)) = none := List.find?_eq_none.2 fun e he => by simp
    rw [this]; rfl
  · rw [if_neg e]
    congr 2
    funext a
    by_cases q : a.1 = k2
    · have : ¬ a.1 = k := by omega
      simp [q]; omega
    · simp [q]
theorem KeyRep.less {t : Tr} {l : List Int} {k : Int} (h : KeyRep t (k :: l)) (hl : l.length < 2 ^ 30) : MoreOK t k (-1) ∧ KeyRep (zbw t k (-1)) l := by
  have hs := h.sz
  have hc := List.count_le_length (a := k) (l := l)
  have hg0 : t.get k = some ((l.count k : Nat) + 1) := by
    rw [h.get, List.count_cons_self]; unfold zeo; simp
  have hg : (t.get k).getD 0 = (l.count k : Nat) + 1 := by rw [hg0]; rfl
  simp only [List.length_cons] at hs
  refine ⟨⟨by omega, by omega, by omega, fun _ => by simp [hg0], fun e => by simp [hg0] at e⟩, ?_⟩
  unfold zbw
  rw [hg]
  split
  · rename_i h0
    refine ⟨by rw [Tr.without_toL t k h.srt]; exact h.srt.filter _, fun k2 => ?_⟩
    rw [Tr.get_without h.srt, h.get, List.count_cons]
    by_cases e : k2 = k
    · subst e
      rw [if_pos rfl]
      have : l.count k2 = 0 := by omega
      rw [this]; rfl
    · rw [if_neg e]
      have : (k == k2) = false := by simp; omega
      simp [this]
  · rename_i h0
    refine ⟨by rw [Tr.with_toL t _ _ h.srt]; exact Tr.put_srt h.srt _ _, fun k2 => ?_⟩
    rw [Tr.get_with h.srt, h.get, List.count_cons]
    by_cases e : k2 = k
    · subst e
      rw [if_pos rfl]
      have : ¬ l.count k2 = 0 := by omega
      unfold zeo
      rw [if_neg this]
      congr 1; omega
    · rw [if_neg e]
      have : (k == k2) = false := by simp; omega
      simp [this]
def zb6 (L : List Rg) : List Int := L.flatMap zbF
structure TabRep (T : Tab) (L : List Rg) : Prop where
  b : KeyRep T.b (0 :: zb6 L)
  g : KeyRep T.g (L.map zbL)
  n : T.n = L.length
  ok : ∀ r ∈ L, RgOK r
theorem zmo : TabRep zL [] where
  b := ⟨by simp [zL, Tr.toL, Tr.Srt], fun k => by
    simp only [zL, Tr.get, zb6, List.flatMap_nil]
    by_cases h1 : k < 0
    · have : ((0 : Int) == k) = false := by simp; omega
      simp [h1, List.count_cons, this, zeo]
    · by_cases h2 : 0 < k
      · have : ((0 : Int) == k) = false := by simp; omega
        simp [h1, h2, List.count_cons, this, zeo]
      · have : k = 0 := by omega
        subst this; simp [zeo]⟩
  g := ⟨by simp [zL, Tr.toL, Tr.Srt], fun k => by simp [zL, Tr.get, zeo]⟩
  n := rfl
  ok := by simp
theorem zg1 (r : Rg) : (zbF r).length ≤ 2 := by unfold zbF; split <;> simp
theorem zek (L : List Rg) : (zb6 L).length ≤ 2 * L.length := by
  induction L with
  | nil => simp [zb6]
  | cons r L ih =>
    have := zg1 r
    simp only [zb6, List.flatMap_cons, List.length_append, List.length_cons] at ih ⊢
    omega
theorem zj3 : ∀ (E : List Int) {t : Tr} {l : List Int}, KeyRep t l → l.length + E.length < 1024 →
    KeyRep (E.foldl (fun b e => zbw b e 1) t) (E ++ l) ∧ ∀ (i : Nat) (e : Int), E[i]? = some e → MoreOK ((E.take i).foldl (fun b e => zbw b e 1) t) e 1
  | [], t, l, h, _ => ⟨h, fun i e he => by simp at he⟩
  | x :: E, t, l, h, hl => by
    simp only [List.length_cons] at hl
    obtain ⟨h1, h2⟩ := h.more x (by omega)
    obtain ⟨h3, h4⟩ := zj3 E h2 (by simp only [List.length_cons]; omega)
    refine ⟨h3.perm ?_, fun i e he => ?_⟩
    · exact List.perm_middle
    · cases i with
      | zero => simp only [List.getElem?_cons_zero, Option.some.injEq] at he; subst he; exact h1
      | succ i => exact h4 i e (by simpa using he)
theorem zj4 : ∀ (E : List Int) {t : Tr} {l : List Int}, KeyRep t (E ++ l) → l.length + E.length < 2 ^ 29 →
    KeyRep (E.foldl (fun b e => zbw b e (-1)) t) l ∧ ∀ (i : Nat) (e : Int), E[i]? = some e → MoreOK ((E.take i).foldl (fun b e => zbw b e (-1)) t) e (-1)
  | [], t, l, h, _ => ⟨h, fun i e he => by simp at he⟩
  | x :: E, t, l, h, hl => by
    simp only [List.length_cons] at hl
    obtain ⟨h1, h2⟩ := KeyRep.less (l := E ++ l) h (by simp only [List.length_append]; omega)
    obtain ⟨h3, h4⟩ := zj4 E h2 (by omega)
    refine ⟨h3, fun i e he => ?_⟩
    cases i with
    | zero => simp only [List.getElem?_cons_zero, Option.some.injEq] at he; subst he; exact h1
    | succ i => exact h4 i e (by simpa using he)
theorem zjp {T : Tab} {L : List Rg} (h : TabRep T L) {r : Rg} (hr : RgOK r) (hl : L.length < 500) : WithOK T r 1 ∧ TabRep (T.with_ r 1) (r :: L) := by
  have he := zek L
  have hr2 := zg1 r
  obtain ⟨g1, g2⟩ := h.g.more (zbL r) (by simp only [List.length_map]; omega)
  obtain ⟨b1, b2⟩ := zj3 (zbF r) h.b (by simp only [List.length_cons]; omega)
  have hn := h.n
  refine ⟨⟨hr, by omega, by omega, g1, b2⟩, ⟨?_, g2, ?_, ?_⟩⟩
  · refine b1.perm ?_
    simp only [zb6, List.flatMap_cons]
    exact List.perm_middle
  · show T.n + 1 = _
    simp only [List.length_cons]; omega
  · intro x hx
    rcases List.mem_cons.1 hx with rfl | hx
    · exact hr
    · exact h.ok x hx
theorem TabRep.perm {T : Tab} {L M : List Rg} (h : TabRep T L) (p : L.Perm M) : TabRep T M where
  b := h.b.perm ((p.flatMap_right zbF).cons 0)
  g := h.g.perm (p.map zbL)
  n := by rw [h.n, p.length_eq]
  ok := fun r hr => h.ok r (p.mem_iff.2 hr)
theorem zoD {T : Tab} {L : List Rg} {r : Rg} (h : TabRep T (r :: L)) (hl : L.length < 500) : WithOK T r (-1) ∧ TabRep (T.with_ r (-1)) L := by
  have he := zek L
  have hr2 := zg1 r
  obtain ⟨g1, g2⟩ := KeyRep.less (l := L.map zbL) h.g (by simp only [List.length_map]; omega)
  have hb : KeyRep T.b (zbF r ++ 0 :: zb6 L) := h.b.perm (by
    simp only [zb6, List.flatMap_cons]
    exact List.perm_middle.symm)
  obtain ⟨b1, b2⟩ := zj4 (zbF r) hb (by simp only [List.length_cons]; omega)
  have hn := h.n
  simp only [List.length_cons] at hn
  exact ⟨⟨h.ok r (by simp), by omega, by omega, g1, b2⟩, ⟨b1, g2, by show T.n + -1 = _; omega, fun x hx => h.ok x (by simp [hx])⟩⟩
theorem zoE {r s : Rg} (hr : RgOK r) (hs : RgOK s) (h : zbL r = zbL s) : r = s := by
  obtain ⟨a1, a2, a3, a4⟩ := hr
  obtain ⟨b1, b2, b3, b4⟩ := hs
  unfold zbL at h
  cases r; cases s
  simp only [Rg.mk.injEq] at *
  omega
theorem znN {T : Tab} {L : List Rg} (h : TabRep T L) {r : Rg} (hr : RgOK r) : (T.g.get (zbL r)).getD 0 = (L.count r : Nat) := by
  rw [h.g.get, zj2]
  congr 1
  have := h.ok
  clear h
  induction L with
  | nil => rfl
  | cons s L ih =>
    rw [List.map_cons, List.count_cons, List.count_cons, ih fun x hx => this x (by simp [hx])]
    congr 1
    by_cases e : s = r
    · subst e; simp
    · have : zbL s ≠ zbL r := fun he => e (zoE (this s (by simp)) hr he)
      simp [e, this]
structure Cuts (c : List Int) (L : List Rg) : Prop where
  srt : c.Pairwise (· < ·)
  mem : ∀ x, x ∈ c ↔ x = 0 ∨ ∃ r ∈ L, x ∈ zbF r
theorem zft : ∀ {c d : List Int}, c.Pairwise (· < ·) → d.Pairwise (· < ·) → (∀ x, x ∈ c ↔ x ∈ d) → c = d
  | [], [], _, _, _ => rfl
  | [], y :: d, _, _, h => by have := (h y).2 (by simp); simp at this
  | x :: c, [], _, _, h => by have := (h x).1 (by simp); simp at this
  | x :: c, y :: d, hc, hd, h => by
    obtain ⟨h1, h2⟩ := List.pairwise_cons.1 hc
    obtain ⟨h3, h4⟩ := List.pairwise_cons.1 hd
    have hxy : x = y := by
      rcases List.mem_cons.1 ((h x).1 (by simp)) with e | e
      · exact e
      · rcases List.mem_cons.1 ((h y).2 (by simp)) with e2 | e2
        · exact e2.symm
        · have := h1 y e2; have := h3 x e; omega
    subst hxy
    congr 1
    refine zft h2 h4 fun z => ?_
    constructor
    · intro hz
      rcases List.mem_cons.1 ((h z).1 (by simp [hz])) with e | e
      · subst e; have := h1 z hz; omega
      · exact e
    · intro hz
      rcases List.mem_cons.1 ((h z).2 (by simp [hz])) with e | e
      · subst e; have := h3 z hz; omega
      · exact e
def zeb (T : Tab) : List Int := T.b.toL.map (·.1)
theorem zh3 {T : Tab} {L : List Rg} (h : TabRep T L) : Cuts (zeb T) L where
  srt := by
    have := h.b.srt
    unfold zeb
    rw [List.pairwise_map]
    exact this
  mem := fun x => by
    unfold zeb
    rw [h.b.mem, List.mem_cons]
    simp only [zb6, List.mem_flatMap]
theorem znO {r : Rg} (hr : RgOK r) {x : Int} (hx : x ∈ zbF r) : 0 ≤ x ∧ x < 4294967296 := by
  obtain ⟨a1, a2, a3, a4⟩ := hr
  unfold zbF at hx
  split at hx
  · simp only [List.mem_cons, List.not_mem_nil, or_false] at hx; omega
  · simp only [List.mem_cons, List.not_mem_nil, or_false] at hx; omega
theorem Cuts.range {c : List Int} {L : List Rg} (h : Cuts c L) (ok : ∀ r ∈ L, RgOK r) {x : Int} (hx : x ∈ c) : 0 ≤ x ∧ x < 4294967296 := by
  rcases (h.mem x).1 hx with rfl | ⟨r, hr, hx⟩
  · omega
  · exact znO (ok r hr) hx
def za8 : List Int → List Rg
  | [] => []
  | [x] => [⟨x, 4294967295⟩]
  | x :: y :: l => ⟨x, y - 1⟩ :: za8 (y :: l)
theorem zcF : ∀ c : List Int, (za8 c).length = c.length
  | [] => rfl
  | [x] => rfl
  | x :: y :: l => by simp only [za8, List.length_cons, zcF (y :: l)]
theorem zc6 : ∀ (c : List Int) (i : Nat), (za8 c)[i]? = (c[i]?).map fun x => ⟨x, match c[i + 1]? with | some y => y - 1 | none => 4294967295⟩
  | [], i => by simp [za8]
  | [x], 0 => by simp [za8]
  | [x], i + 1 => by simp [za8]
  | x :: y :: l, 0 => by simp [za8]
  | x :: y :: l, i + 1 => by simp only [za8, List.getElem?_cons_succ, zc6 (y :: l) i]
def zqp (r a : Rg) : Option Rg := if max a.lo r.lo ≤ min a.hi r.hi then some ⟨max a.lo r.lo, min a.hi r.hi⟩ else none
def ztq (c : List Int) (r : Rg) : List Rg := (za8 c).filterMap (zqp r)
theorem zm3 {c : List Int} (h : c.Pairwise (· < ·)) (a : Int) : ∀ (i : Nat) (x : Int), c[i]? = some x → (x ≤ a ↔ i < c.countP fun y => decide (y ≤ a)) := by
  induction c with
  | nil => intro i x hx; simp at hx
  | cons y c ih =>
    obtain ⟨h1, h2⟩ := List.pairwise_cons.1 h
    intro i x hx
    cases i with
    | zero =>
      simp only [List.getElem?_cons_zero, Option.some.injEq] at hx
      subst hx
      rw [List.countP_cons]
      by_cases q : y ≤ a
      · simp [q]
      · have : c.countP (fun y => decide (y ≤ a)) = 0 := List.countP_eq_zero.2 fun z hz => by have := h1 z hz; simp; omega
        simp [q, this]
    | succ i =>
      simp only [List.getElem?_cons_succ] at hx
      have := ih h2 i x hx
      rw [List.countP_cons]
      by_cases q : y ≤ a
      · simp only [q, decide_true, if_true]; rw [this]; omega
      · have h3 := h1 x (List.mem_of_getElem? hx)
        have : c.countP (fun y => decide (y ≤ a)) = 0 := List.countP_eq_zero.2 fun z hz => by have := h1 z hz; simp; omega
        rw [this]
        simp only [q, decide_false, Bool.false_eq_true, if_false]
        omega
end Go.Proofs.YtanimmdlgmkmkaaGreat.Av
namespace Go.Proofs.YtanimmdlgmkmkaaGreat.Av
set_option linter.unusedSimpArgs false
set_option linter.unusedVariables false
def zeK (n : Nw) (p : Pt) : Int := ((zcl n.t p).getD ⟨0, 0⟩).dev
def zho (n : Nw) (a : Int) : Nat → Int → List Int → Tk
  | 0, _, p => ⟨p, 4, ⟨0, 0⟩⟩
  | f + 1, d, p => if d ∈ p then ⟨p ++ [d], 4, ⟨0, 0⟩⟩ else if (zaR n d a).1 = 4 then zho n a f (zeK n (zaR n d a).2) (p ++ [d]) else ⟨p ++ [d], (zaR n d a).1, (zaR n d a).2⟩
def zgg (n : Nw) (d : Int) : List Int := d :: n.t.links.flatMap fun l => [l.a.dev, l.b.dev]
theorem znP (n : Nw) (d : Int) : (zgg n d).length = 1 + 2 * n.t.links.length := by
  unfold zgg
  generalize n.t.links = L
  induction L with
  | nil => rfl
  | cons l L ih => simp only [List.flatMap_cons, List.length_cons, List.length_append, List.length_nil] at ih ⊢; omega
def zi2 (n : Nw) (d a : Int) : Tk := zho n a (2 + 2 * n.t.links.length) d []
theorem zm4 (L : List Lk) : ∀ e ∈ zbx L, ∃ l ∈ L, e.2 = l.a ∨ e.2 = l.b := by
  have : ∀ (L M : List Lk) (m : List (Pt × Pt)), (∀ e ∈ m, ∃ l ∈ M, e.2 = l.a ∨ e.2 = l.b) → ∀ e ∈ L.foldl (fun m l => upd (upd m l.a l.b) l.b l.a) m, ∃ l ∈ M ++ L, e.2 = l.a ∨ e.2 = l.b := by
    intro L
    induction L with
    | nil => intro M m h e he; simpa using h e he
    | cons l L ih =>
      intro M m h e he
      rw [List.foldl_cons] at he
      have := ih (M ++ [l]) (upd (upd m l.a l.b) l.b l.a) ?_ e he
      · simpa using this
      · intro e he
        unfold upd at he
        rcases List.mem_append.1 he with he | he
        · rcases List.mem_append.1 (List.mem_filter.1 he).1 with he | he
          · obtain ⟨k, hk, h2⟩ := h e (List.mem_filter.1 he).1
            exact ⟨k, by simp [hk], h2⟩
          · simp only [List.mem_singleton] at he; subst he
            exact ⟨l, by simp, .inr rfl⟩
        · simp only [List.mem_singleton] at he; subst he
          exact ⟨l, by simp, .inl rfl⟩
  have := this L [] [] (by simp)
  rw [List.nil_append] at this
  exact this
theorem zmc {n : Nw} {p : Pt} {d : Int} (h : (zcl n.t p).isSome = true) : zeK n p ∈ zgg n d := by
  unfold zeK
  obtain ⟨q, hq⟩ := Option.isSome_iff_exists.1 h
  rw [hq]
  unfold zcl at hq
  rw [Option.map_eq_some_iff] at hq
  obtain ⟨e, he, rfl⟩ := hq
  obtain ⟨l, hl, h2⟩ := zm4 _ e (List.mem_of_find?_eq_some he)
  unfold zgg
  rw [List.mem_cons, List.mem_flatMap]
  right
  refine ⟨l, hl, ?_⟩
  rcases h2 with h2 | h2 <;> simp [h2]
theorem znQ {n : Nw} {d a : Int} (h : (zaR n d a).1 = 4) : (zcl n.t (zaR n d a).2).isSome = true := by
  unfold zaR at *
  repeat' split at h
  all_goals first | (simp at h; done) | skip
  rename_i h1 h2 h3 h4
  simp [h1, h2, h3, h4]
structure Way (n : Nw) (a d0 : Int) (d : Int) (p : List Int) : Prop where
  nd : p.Nodup
  sub : ∀ x ∈ p, x ∈ zgg n d0
  at_ : d ∈ zgg n d0
  res : zho n a (2 + 2 * n.t.links.length - p.length) d p = zi2 n d0 a
theorem Way.len {n : Nw} {a d0 d : Int} {p : List Int} (h : Way n a d0 d p) : p.length ≤ 1 + 2 * n.t.links.length := by
  have := zdZ h.nd h.sub
  rwa [znP] at this
theorem Way.start (n : Nw) (a d0 : Int) : Way n a d0 d0 [] := ⟨by simp, by simp, by simp [zgg], rfl⟩
theorem Way.again {n : Nw} {a d0 d : Int} {p : List Int} (h : Way n a d0 d p) (hd : d ∈ p) : zi2 n d0 a = ⟨p ++ [d], 4, ⟨0, 0⟩⟩ := by
  have hl := h.len
  have hr := h.res
  rw [show 2 + 2 * n.t.links.length - p.length = (1 + 2 * n.t.links.length - p.length) + 1 by omega, zho, if_pos hd] at hr
  exact hr.symm
theorem Way.fin {n : Nw} {a d0 d : Int} {p : List Int} (h : Way n a d0 d p) (hd : d ∉ p) (hs : (zaR n d a).1 ≠ 4) : zi2 n d0 a = ⟨p ++ [d], (zaR n d a).1, (zaR n d a).2⟩ := by
  have hl := h.len
  have hr := h.res
  rw [show 2 + 2 * n.t.links.length - p.length = (1 + 2 * n.t.links.length - p.length) + 1 by omega, zho, if_neg hd, if_neg hs] at hr
  exact hr.symm
theorem Way.on {n : Nw} {a d0 d : Int} {p : List Int} (h : Way n a d0 d p) (hd : d ∉ p) (hs : (zaR n d a).1 = 4) : Way n a d0 (zeK n (zaR n d a).2) (p ++ [d]) := by
  have hl := h.len
  have hr := h.res
  rw [show 2 + 2 * n.t.links.length - p.length = (1 + 2 * n.t.links.length - p.length) + 1 by omega, zho, if_neg hd, if_pos hs] at hr
  refine ⟨?_, ?_, zmc (znQ hs), ?_⟩
  · rw [List.nodup_append]
    refine ⟨h.nd, by simp, fun x hx y hy e => ?_⟩
    simp only [List.mem_singleton] at hy
    subst hy; subst e; exact hd hx
  · intro x hx
    rcases List.mem_append.1 hx with hx | hx
    · exact h.sub x hx
    · simp only [List.mem_singleton] at hx; subst hx; exact h.at_
  · rw [List.length_append, List.length_singleton, ← hr]
    congr 1; omega
end Go.Proofs.YtanimmdlgmkmkaaGreat.Av
namespace Go.Proofs.YtanimmdlgmkmkaaGreat.Av
set_option linter.unusedSimpArgs false
set_option linter.unusedVariables false
def zgh (x : Int) : List Int → List Int
  | [] => [x]
  | y :: l => if x < y then x :: y :: l else if y < x then y :: zgh x l else y :: l
theorem zh4 (x z : Int) : ∀ l : List Int, z ∈ zgh x l ↔ z = x ∨ z ∈ l
  | [] => by simp [zgh]
  | y :: l => by
    simp only [zgh]
    split
    · simp
    · split
      · simp only [List.mem_cons, zh4 x z l]
        constructor
        · rintro (h | h | h)
          · exact .inr (.inl h)
          · exact .inl h
          · exact .inr (.inr h)
        · rintro (h | h | h)
          · exact .inr (.inl h)
          · exact .inl h
          · exact .inr (.inr h)
      · have : x = y := by omega
        subst this; simp
theorem zlk (x : Int) : ∀ l : List Int, l.Pairwise (· < ·) → (zgh x l).Pairwise (· < ·)
  | [], _ => by simp [zgh]
  | y :: l, h => by
    obtain ⟨h1, h2⟩ := List.pairwise_cons.1 h
    simp only [zgh]
    split
    · rename_i hx
      refine List.pairwise_cons.2 ⟨fun z hz => ?_, h⟩
      rcases List.mem_cons.1 hz with rfl | hz
      · exact hx
      · have := h1 z hz; omega
    · split
      · rename_i hx
        refine List.pairwise_cons.2 ⟨fun z hz => ?_, zlk x l h2⟩
        rcases (zh4 x z l).1 hz with rfl | hz
        · exact hx
        · exact h1 z hz
      · exact h
def zaE (L : List Rg) : List Int := (0 :: zb6 L).foldr zgh []
theorem zbn (L : List Rg) : Cuts (zaE L) L where
  srt := by
    unfold zaE
    generalize 0 :: zb6 L = l
    induction l with
    | nil => simp
    | cons x l ih => exact zlk x _ ih
  mem := fun x => by
    have : ∀ l : List Int, x ∈ l.foldr zgh [] ↔ x ∈ l := fun l => by
      induction l with
      | nil => simp
      | cons y l ih => rw [List.foldr_cons, zh4, ih, List.mem_cons]
    unfold zaE
    rw [this, List.mem_cons]
    simp only [zb6, List.mem_flatMap]
theorem Cuts.eq {c : List Int} {L : List Rg} (h : Cuts c L) : c = zaE L := zft h.srt (zbn L).srt fun x => by rw [h.mem, (zbn L).mem]
theorem Cuts.pos {c : List Int} {L : List Rg} (h : Cuts c L) {a : Int} (ha : 0 ≤ a) : 0 < c.countP (fun y => decide (y ≤ a)) :=
  List.countP_pos_iff.2 ⟨0, (h.mem 0).2 (.inl rfl), by simpa using ha⟩
def zeD (s : Option (List Rg)) (r : Rg) : Option (List Rg) := if r.hi < r.lo then none else if 500 ≤ (s.getD []).length then none else some (r :: s.getD [])
def RepO : Option Tab → Option (List Rg) → Prop
  | none, none => True
  | some T, some L => TabRep T L ∧ L.length ≤ 500
  | _, _ => False
theorem RepO.get {T : Option Tab} {s : Option (List Rg)} (h : RepO T s) : TabRep (T.getD zL) (s.getD []) ∧ (s.getD []).length ≤ 500 := by
  cases T with
  | none => cases s with
    | none => exact ⟨zmo, by simp⟩
    | some L => exact h.elim
  | some T => cases s with
    | none => exact h.elim
    | some L => exact h
theorem RepO.step {T : Option Tab} {s : Option (List Rg)} (h : RepO T s) {r : Rg} (hr : RgOK r) :
    (r.lo ≤ r.hi → (T.getD zL).n < 500 → WithOK (T.getD zL) r 1) ∧ RepO (zcE T r).1 (zeD s r) := by
  obtain ⟨h1, h2⟩ := h.get
  have hn := h1.n
  refine ⟨fun _ hlt => (zjp h1 hr (by omega)).1, ?_⟩
  unfold zcE zeD
  by_cases q1 : r.hi < r.lo
  · rw [if_pos q1, if_pos q1]; trivial
  · rw [if_neg q1, if_neg q1]
    by_cases q2 : 500 ≤ (s.getD []).length
    · rw [if_pos q2, if_pos (by omega)]; trivial
    · rw [if_neg q2, if_neg (by omega)]
      exact ⟨(zjp h1 hr (by omega)).2, by simp only [List.length_cons]; omega⟩
def zm5 (L : List Rg) : List Rg := (L.foldl zeD (some [])).getD []
theorem zoF {L : List Rg} (hle : ∀ r ∈ L, r.lo ≤ r.hi) (hl : L.length ≤ 500) : zm5 L = L.reverse := by
  have : ∀ (L M : List Rg), (∀ r ∈ L, r.lo ≤ r.hi) → L.length + M.length ≤ 500 → L.foldl zeD (some M) = some (L.reverse ++ M) := by
    intro L
    induction L with
    | nil => intro M _ _; rfl
    | cons r L ih =>
      intro M h1 h2
      have := h1 r (by simp)
      simp only [List.length_cons] at h2
      have e : zeD (some M) r = some (r :: M) := by
        unfold zeD
        rw [if_neg (by omega), if_neg (by simp only [Option.getD_some]; omega)]; rfl
      rw [List.foldl_cons, e, ih _ (fun x hx => h1 x (by simp [hx])) (by simp only [List.length_cons]; omega)]
      simp
  unfold zm5
  rw [this L [] hle (by simpa using hl)]
  simp
theorem Cuts.perm {c : List Int} {L M : List Rg} (h : Cuts c L) (p : L.Perm M) : Cuts c M := ⟨h.srt, fun x => by
  rw [h.mem]
  constructor
  · rintro (h | ⟨r, hr, hx⟩)
    · exact .inl h
    · exact .inr ⟨r, p.mem_iff.1 hr, hx⟩
  · rintro (h | ⟨r, hr, hx⟩)
    · exact .inl h
    · exact .inr ⟨r, p.mem_iff.2 hr, hx⟩⟩
theorem zqq {T : Option Tab} {L : List Rg} (h : TabRep (T.getD zL) L) (a : Int) : ofT T a = ((zaE L).countP (fun y => decide (y ≤ a)) : Nat) - 1 := by
  unfold ofT zej
  rw [Tr.cut_len _ _ h.b.srt, ← (zh3 h).eq]
  unfold zeb
  rw [List.countP_map]
  congr 2
  apply List.countP_congr
  intro e _
  simp only [Function.comp_apply, decide_eq_true_eq]
  omega
theorem zdw {T : Option Tab} {L : List Rg} (h : TabRep (T.getD zL) L) : (T.getD zL).b.sz = (zaE L).length := by
  rw [Tr.sz_toL, ← (zh3 h).eq]; unfold zeb; simp
theorem zgi {T : Option Tab} {L : List Rg} (h : TabRep (T.getD zL) L) (i : Int) : zaS T i = if 0 ≤ i then (za8 (zaE L))[i.toNat]? else none := by
  have hc := zh3 h
  have hr : ∀ {x}, x ∈ zeb (T.getD zL) → 0 ≤ x ∧ x < 4294967296 := fun hx => hc.range h.ok hx
  rw [← hc.eq]
  unfold zaS
  by_cases h0 : 0 ≤ i
  · rw [if_pos h0]
    have e1 : (T.getD zL).b.atI i = (T.getD zL).b.toL[i.toNat]? := by unfold Tr.atI; rw [if_pos h0, Tr.at_eq _ _ h0]
    have e2 : (T.getD zL).b.atI (i + 1) = (T.getD zL).b.toL[i.toNat + 1]? := by
      unfold Tr.atI; rw [if_pos (by omega), Tr.at_eq _ _ (by omega)]; congr 1; omega
    have e3 : ∀ j : Nat, (zeb (T.getD zL))[j]? = ((T.getD zL).b.toL[j]?).map fun e : Int × Int => e.1 := fun j => by unfold zeb; rw [List.getElem?_map]
    rw [e1, e2, zc6, e3, e3]
    cases hp : (T.getD zL).b.toL[i.toNat]? with
    | none => rfl
    | some p =>
      have hpm : p.1 ∈ zeb (T.getD zL) := List.mem_map.2 ⟨p, List.mem_of_getElem? hp, rfl⟩
      have hpr := hr hpm
      simp only [Option.map_some, Option.some.injEq, Rg.mk.injEq]
      refine ⟨zfH (by omega) (by omega), ?_⟩
      cases hq : (T.getD zL).b.toL[i.toNat + 1]? with
      | none =>
        show IntKind.u32.wrap 4294967295 = 4294967295
        exact zfH (by omega) (by omega)
      | some q =>
        have hqm : q.1 ∈ zeb (T.getD zL) := List.mem_map.2 ⟨q, List.mem_of_getElem? hq, rfl⟩
        have hqr := hr hqm
        have hlt := List.pairwise_iff_getElem.1 h.b.srt i.toNat (i.toNat + 1) (List.getElem?_eq_some_iff.1 hp).1 (List.getElem?_eq_some_iff.1 hq).1 (by omega)
        rw [(List.getElem?_eq_some_iff.1 hp).2, (List.getElem?_eq_some_iff.1 hq).2] at hlt
        simp only [Option.map_some]
        rw [zcr (by omega) (by omega), zfH (by omega) (by omega)]
  · rw [if_neg h0]
    have e1 : (T.getD zL).b.atI i = none := by unfold Tr.atI; rw [if_neg h0]
    rw [e1]; rfl
end Go.Proofs.YtanimmdlgmkmkaaGreat.Av
namespace Go.Proofs.YtanimmdlgmkmkaaGreat.Av
open Go
set_option linter.unusedSimpArgs false
set_option linter.unusedVariables false
set_option maxRecDepth 100000
set_option maxHeartbeats 4000000
set_option pp.maxSteps 600
def zv9 (l : List (Nw × Fl)) (f : Bool) : AV := .sl 3 (l.map fun p => z7 p.1 p.2) f
def zbV (l : List Rg) (f : Bool) : AV := .sl 2 (l.map zau) f
@[simp] theorem zjq (K : Id → Prop) (l : List Rg) (f : Bool) : (zbV l f).ids K := by simp only [zbV, AV.ids]; exact zcZ (zqn K) l
def zr7 (l : List Nw) : List Rg := l.flatMap fun n => n.rules.map (·.r)
def zoG (l : List Nw) (r : Rg) : List Rg := if r.hi < r.lo then [] else ztq (zaE (zm5 (zr7 l))) r
structure NwOK (n : Nw) : Prop where
  rg : ∀ r ∈ n.rules, RgOK r.r
  ports : n.t.ports.length < 2 ^ 44
  links : n.t.links.length < 2 ^ 42
  rules : n.rules.length < 2932031007403
  id : ∀ r ∈ n.rules, -9223372036854775808 ≤ r.id ∧ r.id < 9223372036854775808
end Go.Proofs.YtanimmdlgmkmkaaGreat.Av
namespace Go.Proofs.YtanimmdlgmkmkaaGreat.Av
open Go
set_option linter.unusedSimpArgs false
set_option linter.unusedVariables false
set_option maxRecDepth 100000
set_option maxHeartbeats 4000000
set_option pp.maxSteps 600
def zqr (f : Int) (p : Pt) : AV := .agg [.raw (.int .i64 f), .raw (.int .i64 p.dev), .raw (.int .i64 p.port)]
theorem zC (n : Nw) (f : Fl) : AV.agg [zy n.t.ports f.p, zw n.t.links f.l, zu n.rules f.r] = z7 n f := rfl
def zt6 (N : Nw) (a : Int) (iat ie : Id) (Q : Int → List Int → St → Prop) (F : St → Prop) (d : Int) (p : List Int) (r : AV) (ρ : St) : Prop :=
  (r = .raw (.bool true) ∧ ρ.m iat = some (.buf [.raw (.int .i64 d)]) ∧ ρ.m ie = some (.buf [zqr 4 ⟨0, 0⟩]) ∧ ((zaR N d a).1 ≠ 4 → ∀ π, Ext ρ π → F (π.set ie (.buf [zqr (zaR N d a).1 (zaR N d a).2]))) ∧
    ((zaR N d a).1 = 4 → ∀ π, Ext ρ π → Q (zeK N (zaR N d a).2) (p ++ [d]) (π.set iat (.buf [.raw (.int .i64 (zeK N (zaR N d a).2))])))) ∨ (r = .raw (.bool false) ∧ F ρ)
end Go.Proofs.YtanimmdlgmkmkaaGreat.Av
namespace Go.Proofs.YtanimmdlgmkmkaaGreat.Av
open Go
set_option linter.unusedSimpArgs false
set_option linter.unusedVariables false
set_option maxRecDepth 100000
set_option maxHeartbeats 4000000
set_option pp.maxSteps 600
theorem OwnL.ne_sz {σ0 τ : St} {n : Nat} {v : AV} {es : List AV} (h : OwnL σ0 τ n v es) {i : Id} (hi : i.sz ≠ n) : ∀ k l, v ≠ .rs i k l := by
  rintro k l rfl
  rcases h with ⟨_, e⟩ | ⟨j, e, hj, _, _⟩
  · cases e
  · injection e with e; subst e; exact hi hj
theorem OwnL.set {σ0 τ : St} {n : Nat} {v : AV} {es : List AV} (h : OwnL σ0 τ n v es) {i : Id} {o : Ob} (hi : ∀ k l, v ≠ .rs i k l) : OwnL σ0 (τ.set i o) n v es := by
  rcases h with h | ⟨j, e, hj, hm, hn⟩
  · exact .inl h
  · exact .inr ⟨j, e, hj, by rw [zag (fun e2 => hi 0 es.length (by rw [e, e2]))]; exact hm, hn⟩
theorem OwnL.del {σ0 τ : St} {n : Nat} {v : AV} {es : List AV} (h : OwnL σ0 τ n v es) {i : Id} (hi : ∀ k l, v ≠ .rs i k l) : OwnL σ0 (τ.del i) n v es := by
  rcases h with h | ⟨j, e, hj, hm, hn⟩
  · exact .inl h
  · exact .inr ⟨j, e, hj, by rw [zR (fun e2 => hi 0 es.length (by rw [e, e2]))]; exact hm, hn⟩
structure TrS (σ ρ : St) (i6 i8 : Id) (v : AV) (p : List Int) : Prop where
  ext : Ext σ ρ
  m6 : ρ.m i6 = some (.buf [.agg [.sl 0 [] true, .raw (.int .i64 0), .raw (.int .i64 0), .raw (.int .i64 0)]])
  m8 : ρ.m i8 = some (.buf [.agg [v, .raw (.int .i64 0), .raw (.int .i64 0), .raw (.int .i64 0)]])
  own : OwnL σ ρ 1 v (p.map iAV)
theorem TrS.up {σ ρ π : St} {i6 i8 : Id} {v : AV} {p : List Int} (h : TrS σ ρ i6 i8 v p) (k : Ext ρ π) : TrS σ π i6 i8 v p := ⟨h.ext.trans k, k.m _ _ h.m6, k.m _ _ h.m8, h.own.ext k⟩
theorem TrS.put {σ ρ : St} {i6 i8 i : Id} {v : AV} {p : List Int} {o : Ob} (h : TrS σ ρ i6 i8 v p) (h6 : i6 ≠ i) (h8 : i8 ≠ i) (hv : ∀ k l, v ≠ .rs i k l) (h0 : σ.m i = none) : TrS σ (ρ.set i o) i6 i8 v p :=
  ⟨Ext.setF h.ext h0, by rw [zag h6]; exact h.m6, by rw [zag h8]; exact h.m8, h.own.set hv⟩
theorem TrS.del {σ ρ : St} {i6 i8 i : Id} {v : AV} {p : List Int} (h : TrS σ ρ i6 i8 v p) (h6 : i6 ≠ i) (h8 : i8 ≠ i) (hv : ∀ k l, v ≠ .rs i k l) (h0 : σ.m i = none) : TrS σ (ρ.del i) i6 i8 v p :=
  ⟨⟨fun j o hj => by rw [zR (fun e => by rw [e, h0] at hj; cases hj)]; exact h.ext.m j o hj, h.ext.nx⟩, by rw [zR h6]; exact h.m6, by rw [zR h8]; exact h.m8, h.own.del hv⟩
def ze5 (n : Nw) (d a : Int) : Tk × Int := if d < 0 ∨ n.t.ports.length ≤ d then (⟨[], 0, ⟨0, 0⟩⟩, 91) else (zi2 n d a, 0)
end Go.Proofs.YtanimmdlgmkmkaaGreat.Av
namespace Go.Proofs.YtanimmdlgmkmkaaGreat.Av
open Go
set_option linter.unusedSimpArgs false
set_option linter.unusedVariables false
set_option maxRecDepth 100000
set_option maxHeartbeats 4000000
set_option pp.maxSteps 600
def zoH (N : Nw) (a : Int) (t : Tk) : Bool := match t.path with | [] => false | d :: _ => decide ((ze5 N d a).2 = 0) && decide (t = (ze5 N d a).1)
structure Qy where
  kind : Int
  a : Int
  b : Int
  w : Int
  r : Rg
  other : ByteArray
def zoI (q : Qy) : AV := .agg [.raw (.int .i64 q.kind), .raw (.int .i64 q.a), .raw (.int .i64 q.b), .raw (.int .i64 q.w), .raw (.int .u32 q.r.lo), .raw (.int .u32 q.r.hi), .raw (.string q.other)]
def zjr (q : Qy) : Bool := decide (q.kind = 0) || (decide (q.kind = 3) || decide (q.kind = 4))
def zr8 (n : Nw) (d : Int) : Bool := decide (d < 0) || decide ((n.t.ports.length : Int) ≤ d)
def zmp (t : Tk) (d : Int) : Bool := decide (t.out = 3) && decide (t.last.dev = d)
def znR (t : Tk) (d : Int) : Bool := t.path.any fun x => decide (d = x)
def zxN : AV := .agg [.fn (.func 162) [] [], .fn (.func 164) [] [], .fn (.func 165) [] [], .fn (.func 166) [] [], .fn (.func 167) [] [], .fn (.func 168) [] []]
end Go.Proofs.YtanimmdlgmkmkaaGreat.Av
namespace Go.Proofs.YtanimmdlgmkmkaaGreat.Av
open Go
set_option linter.unusedSimpArgs false
set_option linter.unusedVariables false
set_option maxRecDepth 100000
set_option maxHeartbeats 4000000
set_option pp.maxSteps 600
def zmq (q : Qy) : Bool := q.other.toList == (ByteArray.toList ⟨#[]⟩)
def zqs (n : Nw) (q : Qy) : Bool :=
  !(decide (q.kind < 0) || (decide (5 < q.kind) || decide (q.r.hi < q.r.lo))) && (!([q.a, q.b, q.w].any (zr8 n)) && ((zjr q || (decide (q.a = 0) && decide (q.b = 0))) && ((decide (q.kind = 4) || decide (q.w = 0)) && (decide (q.kind = 5) || zmq q))))
def zh5 (n : Nw) (q : Qy) : List Int := if zjr q = true then [q.a] else (List.range n.t.ports.length).map fun i : Nat => (i : Int)
def zmr (q : Qy) (t u : Tk) : Bool :=
  if q.kind = 0 then !zmp t q.b else if q.kind = 1 then decide (t.out = 4) else if q.kind = 2 then decide (t.out = 0) else if q.kind = 3 then znR t q.b else if q.kind = 4 then zmp t q.b && !znR t q.w else if q.kind = 5 then !decide (t = u) else false
end Go.Proofs.YtanimmdlgmkmkaaGreat.Av
namespace Go.Proofs.YtanimmdlgmkmkaaGreat.Av
open Go
set_option linter.unusedSimpArgs false
set_option linter.unusedVariables false
set_option maxRecDepth 100000
set_option maxHeartbeats 4000000
set_option pp.maxSteps 600
structure Vd where
  holds : Bool
  src : Int
  addr : Int
  tr : Tk
deriving DecidableEq
def vdAV (v : Vd) (f : Bool) : AV := .agg [.raw (.bool v.holds), .raw (.int .i64 v.src), .raw (.int .u32 v.addr), zy v.tr.path f, .raw (.int .i64 v.tr.out), .raw (.int .i64 v.tr.last.dev), .raw (.int .i64 v.tr.last.port)]
def zoJ : Tk := ⟨[], 0, ⟨0, 0⟩⟩
def zqt (n m : Nw) (q : Qy) (d : Int) : List Rg → Option Vd
  | [] => none
  | r :: rs => if zmr q (ze5 n d r.lo).1 (ze5 m d r.lo).1 = true then some ⟨false, d, r.lo, (ze5 n d r.lo).1⟩ else zqt n m q d rs
def zkD (n m : Nw) (q : Qy) (P : List Rg) : List Int → Option Vd
  | [] => none
  | d :: ds => match zqt n m q d P with
    | some v => some v
    | none => zkD n m q P ds
def runQ (n m : Nw) (q : Qy) : Vd × Int :=
  if zqs n q = false ∨ (q.kind = 5 ∧ n.t ≠ m.t) then (⟨false, 0, 0, zoJ⟩, 121) else
    match zkD n (if q.kind = 5 then m else n) q (zoG [n, if q.kind = 5 then m else n] q.r) (zh5 n q) with
    | some v => (v, 0)
    | none => (⟨true, 0, 0, zoJ⟩, 0)
def zxO : AV := .agg [.raw (.bool false), .raw (.int .i64 0), .raw (.int .u32 0), .sl 0 [] true, .raw (.int .i64 0), .raw (.int .i64 0), .raw (.int .i64 0)]
end Go.Proofs.YtanimmdlgmkmkaaGreat.Av
namespace Go.Proofs.YtanimmdlgmkmkaaGreat.Av
open Go
set_option linter.unusedSimpArgs false
set_option linter.unusedVariables false
set_option maxRecDepth 100000
set_option maxHeartbeats 2000000
set_option pp.maxSteps 300
def zaq (n : Nw) : Bool := zdf n.t && (zcD n.rules && zdJ n.t n.rules)
theorem zg2 (n : Nw) (f : Fl) (hl : n.t.ports.length < 2 ^ 60) (hl2 : n.t.links.length < 2 ^ 42) (hl3 : n.rules.length < 2932031007403) : PCalls Tryz.prog 74 [z7 n f] (.raw (.bool (zaq n))) := by
  have h1 := zl5 n.t f hl hl2
  have h2 := znI n.rules f.r hl3
  have h3 := zmY n.t f n.rules f.r hl (by omega)
  unfold zaq
  obtain ⟨b1, q1⟩ : ∃ b, zdf n.t = b := ⟨_, rfl⟩
  obtain ⟨b2, q2⟩ : ∃ b, zcD n.rules = b := ⟨_, rfl⟩
  obtain ⟨b3, q3⟩ : ∃ b, zdJ n.t n.rules = b := ⟨_, rfl⟩
  rw [q1] at h1 ⊢
  rw [q2] at h2 ⊢
  rw [q3] at h3 ⊢
  refine zJ Tryz.func74 rfl (N := 18) rfl rfl (by simp) (by simp [noIds]) fun σ => ?_
  have ho1 : cellOK (zy n.t.ports f.p) = true := rfl
  have ho2 : cellOK (zw n.t.links f.l) = true := rfl
  have ho3 : cellOK (zu n.rules f.r) = true := rfl
  simp only [cellOK] at ho1 ho2 ho3
  have hnf : AV.agg [zy n.t.ports f.p, zw n.t.links f.l] = zat n.t f := rfl
  (try ((first | with_reducible refine zh ?_ | with_reducible refine zm ?_ | with_reducible refine zo ?_); simp [zr, ho1, ho2, ho3, hnf])); repeat' (first | ((first | refine zd ?_ | refine zg ?_ | refine dN (by decide +kernel) ?_ | (refine za ?_ ?_ <;> (intro hg; simp only [hg])) | fail) <;> simp [zr, ho1, ho2, ho3, hnf]) | refine zf ?_ | refine zc ?_ | (refine zp ?_; simp only [zq]; try simp) | ((first | refine zl (by simp) ?_ | refine zx (by simp) (by simp) (by simp (maxDischargeDepth := 30) [zr, ho1, ho2, ho3, hnf]) ?_ | fail); simp) | (refine zb (fun hc => ?_) (fun hc => ?_) <;> try simp at hc) | fail)
  refine PCalls.use h1 ?_
  cases b1 with
  | false => (try ((first | with_reducible refine zh ?_ | with_reducible refine zm ?_ | with_reducible refine zo ?_); simp [zr, ho1, ho2, ho3, hnf])); repeat' (first | ((first | refine zd ?_ | refine zg ?_ | refine dN (by decide +kernel) ?_ | (refine za ?_ ?_ <;> (intro hg; simp only [hg])) | fail) <;> simp [zr, ho1, ho2, ho3, hnf]) | refine zf ?_ | refine zc ?_ | (refine zp ?_; simp only [zq]; try simp) | ((first | refine zl (by simp) ?_ | refine zx (by simp) (by simp) (by simp (maxDischargeDepth := 30) [zr, ho1, ho2, ho3, hnf]) ?_ | fail); simp) | (refine zb (fun hc => ?_) (fun hc => ?_) <;> try simp at hc) | fail)
  | true =>
    (try ((first | with_reducible refine zh ?_ | with_reducible refine zm ?_ | with_reducible refine zo ?_); simp [zr, ho1, ho2, ho3, hnf])); repeat' (first | ((first | refine zd ?_ | refine zg ?_ | refine dN (by decide +kernel) ?_ | (refine za ?_ ?_ <;> (intro hg; simp only [hg])) | fail) <;> simp [zr, ho1, ho2, ho3, hnf]) | refine zf ?_ | refine zc ?_ | (refine zp ?_; simp only [zq]; try simp) | ((first | refine zl (by simp) ?_ | refine zx (by simp) (by simp) (by simp (maxDischargeDepth := 30) [zr, ho1, ho2, ho3, hnf]) ?_ | fail); simp) | (refine zb (fun hc => ?_) (fun hc => ?_) <;> try simp at hc) | fail)
    refine PCalls.use h2 ?_
    cases b2 with
    | false => (try ((first | with_reducible refine zh ?_ | with_reducible refine zm ?_ | with_reducible refine zo ?_); simp [zr, ho1, ho2, ho3, hnf])); repeat' (first | ((first | refine zd ?_ | refine zg ?_ | refine dN (by decide +kernel) ?_ | (refine za ?_ ?_ <;> (intro hg; simp only [hg])) | fail) <;> simp [zr, ho1, ho2, ho3, hnf]) | refine zf ?_ | refine zc ?_ | (refine zp ?_; simp only [zq]; try simp) | ((first | refine zl (by simp) ?_ | refine zx (by simp) (by simp) (by simp (maxDischargeDepth := 30) [zr, ho1, ho2, ho3, hnf]) ?_ | fail); simp) | (refine zb (fun hc => ?_) (fun hc => ?_) <;> try simp at hc) | fail)
    | true =>
      (try ((first | with_reducible refine zh ?_ | with_reducible refine zm ?_ | with_reducible refine zo ?_); simp [zr, ho1, ho2, ho3, hnf])); repeat' (first | ((first | refine zd ?_ | refine zg ?_ | refine dN (by decide +kernel) ?_ | (refine za ?_ ?_ <;> (intro hg; simp only [hg])) | fail) <;> simp [zr, ho1, ho2, ho3, hnf]) | refine zf ?_ | refine zc ?_ | (refine zp ?_; simp only [zq]; try simp) | ((first | refine zl (by simp) ?_ | refine zx (by simp) (by simp) (by simp (maxDischargeDepth := 30) [zr, ho1, ho2, ho3, hnf]) ?_ | fail); simp) | (refine zb (fun hc => ?_) (fun hc => ?_) <;> try simp at hc) | fail)
      refine PCalls.use h3 ?_
      (try ((first | with_reducible refine zh ?_ | with_reducible refine zm ?_ | with_reducible refine zo ?_); simp [zr, ho1, ho2, ho3, hnf])); repeat' (first | ((first | refine zd ?_ | refine zg ?_ | refine dN (by decide +kernel) ?_ | (refine za ?_ ?_ <;> (intro hg; simp only [hg])) | fail) <;> simp [zr, ho1, ho2, ho3, hnf]) | refine zf ?_ | refine zc ?_ | (refine zp ?_; simp only [zq]; try simp) | ((first | refine zl (by simp) ?_ | refine zx (by simp) (by simp) (by simp (maxDischargeDepth := 30) [zr, ho1, ho2, ho3, hnf]) ?_ | fail); simp) | (refine zb (fun hc => ?_) (fun hc => ?_) <;> try simp at hc) | fail)
end Go.Proofs.YtanimmdlgmkmkaaGreat.Av
namespace Go.Proofs.YtanimmdlgmkmkaaGreat.Av
open Go
set_option linter.unusedSimpArgs false
set_option linter.unusedVariables false
set_option maxRecDepth 100000
set_option maxHeartbeats 2000000
set_option pp.maxSteps 600
def zci (n : Nw) (d a : Int) : Int × Pt :=
  if zdL n.rules d a = true then (2, ⟨0, 0⟩) else if n.rules.any (zba d a false) = false then (0, ⟨0, 0⟩) else if (zbb (n.rules.filter (zba d a false))).kind = 1 then (1, ⟨0, 0⟩)
  else if (zbh n.t.links ⟨d, (zbb (n.rules.filter (zba d a false))).port⟩).isSome = true then (4, ⟨d, (zbb (n.rules.filter (zba d a false))).port⟩) else (3, ⟨d, (zbb (n.rules.filter (zba d a false))).port⟩)
theorem zkt (n : Nw) (f : Fl) (d a : Int) (hl : n.t.links.length < 2 ^ 60) (hl2 : n.rules.length < 2932031007403) :
    PCalls Tryz.prog 119 [z7 n f, .raw (.int .i64 d), .raw (.int .u32 a)] (.tup [.raw (.int .i64 (zci n d a).1), zQ (zci n d a).2]) := by
  have hd := ziX n.rules f.r d a hl2
  have hm := zjn n.rules f.r d a hl2
  have hn := fun p => zkq n.t f p hl
  unfold zci
  obtain ⟨b1, h1⟩ : ∃ b, zdL n.rules d a = b := ⟨_, rfl⟩
  obtain ⟨b2, h2⟩ : ∃ b, n.rules.any (zba d a false) = b := ⟨_, rfl⟩
  obtain ⟨r, hr⟩ : ∃ r, zbb (n.rules.filter (zba d a false)) = r := ⟨_, rfl⟩
  rw [h1] at hd
  rw [h2, hr] at hm
  rw [h1, h2, hr]
  clear h1 h2 hr
  have hn := hn ⟨d, r.port⟩
  obtain ⟨b3, h3⟩ : ∃ b, (zbh n.t.links ⟨d, r.port⟩).isSome = b := ⟨_, rfl⟩
  obtain ⟨q, hq⟩ : ∃ q, (zbh n.t.links ⟨d, r.port⟩).getD ⟨0, 0⟩ = q := ⟨_, rfl⟩
  rw [h3, hq] at hn
  rw [h3]
  refine zJ Tryz.func119 rfl (N := 50) rfl rfl (by simp) (by simp [noIds, zQ]) fun σ => ?_
  have ho1 : cellOK (zy n.t.ports f.p) = true := rfl
  have ho2 : cellOK (zw n.t.links f.l) = true := rfl
  have ho3 : cellOK (zu n.rules f.r) = true := rfl
  simp only [cellOK] at ho1 ho2 ho3
  have hpf : ∀ x y : Int, AV.agg [.raw (.int .i64 x), .raw (.int .i64 y)] = zQ ⟨x, y⟩ := fun _ _ => rfl
  have hpc : ∀ q : Pt, (zQ q).cells = [.raw (.int .i64 q.dev), .raw (.int .i64 q.port)] := fun q => rfl
  have hps : ∀ (q : Pt) (x y : Int), setPart (zQ q) 0 [.raw (.int .i64 x), .raw (.int .i64 y)] = zQ ⟨x, y⟩ := fun _ _ _ => rfl
  have f7 : σ.m ⟨7, σ.nx 7, 2⟩ = none := zk _ _ _
  have hnf : AV.agg [zy n.t.ports f.p, zw n.t.links f.l] = zat n.t f := rfl
  (try ((first | with_reducible refine zh ?_ | with_reducible refine zm ?_ | with_reducible refine zo ?_); simp [zr, ho1, ho2, ho3, hpf, hpc, hps])); repeat' (first | ((first | refine zd ?_ | refine zg ?_ | refine dN (by decide +kernel) ?_ | (refine za ?_ ?_ <;> (intro hg; simp only [hg])) | fail) <;> simp [zr, ho1, ho2, ho3, hpf, hpc, hps]) | refine zf ?_ | refine zc ?_ | (refine zp ?_; simp only [zq]; try simp) | ((first | refine zl (by simp) ?_ | refine zx (by simp) (by simp) (by simp (maxDischargeDepth := 30) [zr, ho1, ho2, ho3, hpf, hpc, hps]) ?_ | fail); simp) | (refine zb (fun hc => ?_) (fun hc => ?_) <;> try simp at hc) | fail)
  refine PCalls.use hd ?_
  cases b1 with
  | true =>
    (try ((first | with_reducible refine zh ?_ | with_reducible refine zm ?_ | with_reducible refine zo ?_); simp [zr, ho1, ho2, ho3, hpf, hpc, hps])); repeat' (first | ((first | refine zd ?_ | refine zg ?_ | refine dN (by decide +kernel) ?_ | (refine za ?_ ?_ <;> (intro hg; simp only [hg])) | fail) <;> simp [zr, ho1, ho2, ho3, hpf, hpc, hps]) | refine zf ?_ | refine zc ?_ | (refine zp ?_; simp only [zq]; try simp) | (refine zb (fun hc => ?_) (fun hc => ?_) <;> try simp at hc) | fail)
    refine zx (.inr rfl) rfl (by repeat (first | exact Ext.refl _ | refine zv ?_ | refine Ext.setF ?_ (by simp [ze, St.set, zk]))) ?_
    simp [St.set, St.new, hpc, hpf, hps]
  | false =>
    (try ((first | with_reducible refine zh ?_ | with_reducible refine zm ?_ | with_reducible refine zo ?_); simp [zr, ho1, ho2, ho3, hpf, hpc, hps])); repeat' (first | ((first | refine zd ?_ | refine zg ?_ | refine dN (by decide +kernel) ?_ | (refine za ?_ ?_ <;> (intro hg; simp only [hg])) | fail) <;> simp [zr, ho1, ho2, ho3, hpf, hpc, hps]) | refine zf ?_ | refine zc ?_ | (refine zp ?_; simp only [zq]; try simp) | ((first | refine zl (by simp) ?_ | refine zx (by simp) (by simp) (by simp (maxDischargeDepth := 30) [zr, ho1, ho2, ho3, hpf, hpc, hps]) ?_ | fail); simp) | (refine zb (fun hc => ?_) (fun hc => ?_) <;> try simp at hc) | fail)
    refine PCalls.use hm ?_
    cases b2 with
    | false =>
      (try ((first | with_reducible refine zh ?_ | with_reducible refine zm ?_ | with_reducible refine zo ?_); simp [zr, ho1, ho2, ho3, hpf, hpc, hps, zs, zV, zA])); repeat' (first | ((first | refine zd ?_ | refine zg ?_ | refine dN (by decide +kernel) ?_ | (refine za ?_ ?_ <;> (intro hg; simp only [hg])) | fail) <;> simp [zr, ho1, ho2, ho3, hpf, hpc, hps, zs, zV, zA]) | refine zf ?_ | refine zc ?_ | (refine zp ?_; simp only [zq]; try simp) | (refine zb (fun hc => ?_) (fun hc => ?_) <;> try simp at hc) | fail)
      refine zx (.inr rfl) rfl (by repeat (first | exact Ext.refl _ | refine zv ?_ | refine Ext.setF ?_ (by simp [ze, St.set, zk]))) ?_
      simp [St.set, St.new, hpc, hpf, hps]
    | true =>
      by_cases hk : r.kind = 1
      · (try ((first | with_reducible refine zh ?_ | with_reducible refine zm ?_ | with_reducible refine zo ?_); simp [zr, ho1, ho2, ho3, hpf, hpc, hps, zs, zV, zA, hk])); repeat' (first | ((first | refine zd ?_ | refine zg ?_ | refine dN (by decide +kernel) ?_ | (refine za ?_ ?_ <;> (intro hg; simp only [hg])) | fail) <;> simp [zr, ho1, ho2, ho3, hpf, hpc, hps, zs, zV, zA, hk]) | refine zf ?_ | refine zc ?_ | (refine zp ?_; simp only [zq]; try simp) | (refine zb (fun hc => ?_) (fun hc => ?_) <;> try simp at hc) | fail)
        refine zx (.inr rfl) rfl (by repeat (first | exact Ext.refl _ | refine zv ?_ | refine Ext.setF ?_ (by simp [ze, St.set, zk]))) ?_
        simp [St.set, St.new, hpc, hpf, hps, hk]
      · (try ((first | with_reducible refine zh ?_ | with_reducible refine zm ?_ | with_reducible refine zo ?_); simp [zr, ho1, ho2, ho3, hpf, hpc, hps, zs, zV, zA, hk, hnf, zz, zB, ze])); repeat' (first | ((first | refine zd ?_ | refine zg ?_ | refine dN (by decide +kernel) ?_ | (refine za ?_ ?_ <;> (intro hg; simp only [hg])) | fail) <;> simp [zr, ho1, ho2, ho3, hpf, hpc, hps, zs, zV, zA, hk, hnf, zz, zB, ze]) | refine zf ?_ | refine zc ?_ | (refine zp ?_; simp only [zq]; try simp) | ((first | refine zl (by simp) ?_ | refine zx (by simp) (by simp) (by simp (maxDischargeDepth := 30) [zr, ho1, ho2, ho3, hpf, hpc, hps, zs, zV, zA, hk, hnf, zz, zB, ze]) ?_ | fail); simp) | (refine zb (fun hc => ?_) (fun hc => ?_) <;> try simp at hc) | fail)
        refine PCalls.use hn ?_
        cases b3 with
        | true =>
          (try ((first | with_reducible refine zh ?_ | with_reducible refine zm ?_ | with_reducible refine zo ?_); simp [zr, ho1, ho2, ho3, hpf, hpc, hps, zs, zV, zA, hk, hnf, zz, zB, ze])); repeat' (first | ((first | refine zd ?_ | refine zg ?_ | refine dN (by decide +kernel) ?_ | (refine za ?_ ?_ <;> (intro hg; simp only [hg])) | fail) <;> simp [zr, ho1, ho2, ho3, hpf, hpc, hps, zs, zV, zA, hk, hnf, zz, zB, ze]) | refine zf ?_ | refine zc ?_ | (refine zp ?_; simp only [zq]; try simp) | (refine zb (fun hc => ?_) (fun hc => ?_) <;> try simp at hc) | fail)
          refine zx (.inr rfl) rfl (by repeat (first | exact Ext.refl _ | refine zv ?_ | refine Ext.setF ?_ (by simp [ze, St.set, zk]))) ?_
          simp [St.set, St.new, hpc, hpf, hps, hk]
        | false =>
          (try ((first | with_reducible refine zh ?_ | with_reducible refine zm ?_ | with_reducible refine zo ?_); simp [zr, ho1, ho2, ho3, hpf, hpc, hps, zs, zV, zA, hk, hnf, zz, zB, ze])); repeat' (first | ((first | refine zd ?_ | refine zg ?_ | refine dN (by decide +kernel) ?_ | (refine za ?_ ?_ <;> (intro hg; simp only [hg])) | fail) <;> simp [zr, ho1, ho2, ho3, hpf, hpc, hps, zs, zV, zA, hk, hnf, zz, zB, ze]) | refine zf ?_ | refine zc ?_ | (refine zp ?_; simp only [zq]; try simp) | (refine zb (fun hc => ?_) (fun hc => ?_) <;> try simp at hc) | fail)
          refine zx (.inr rfl) rfl (by repeat (first | exact Ext.refl _ | refine zv ?_ | refine Ext.setF ?_ (by simp [ze, St.set, zk]))) ?_
          simp [St.set, St.new, hpc, hpf, hps, hk]
end Go.Proofs.YtanimmdlgmkmkaaGreat.Av
namespace Go.Proofs.YtanimmdlgmkmkaaGreat.Av
open Go
set_option linter.unusedSimpArgs false
set_option linter.unusedVariables false
set_option maxRecDepth 100000
def zhp (m : List (Pt × Pt)) (p : Pt) : Option Pt := (m.find? fun e => decide (p = e.1)).map (·.2)
theorem zj5 (m : List (Pt × Pt)) (k v p : Pt) : zhp (upd m k v) p = if p = k then some v else zhp m p := by
  unfold zhp upd
  rw [List.find?_append, List.find?_filter]
  by_cases h : p = k
  · have : m.find? (fun a => decide (decide (k ≠ a.1) = true ∧ decide (p = a.1) = true)) = none := by
      rw [List.find?_eq_none]
      intro x hx
      subst h
      simp
    rw [this, if_pos h]
    simp [h]
  · have : (fun a : Pt × Pt => decide (decide (k ≠ a.1) = true ∧ decide (p = a.1) = true)) = fun a => decide (p = a.1) := by
      funext a
      by_cases h2 : p = a.1
      · have : k ≠ a.1 := fun q => h (h2.trans q.symm)
        simp [h2, this]
      · simp [h2]
    rw [this, if_neg h]
    simp [h]
def za9 : List Lk → List Pt
  | [] => []
  | l :: ls => l.a :: l.b :: za9 ls
theorem zg3 {ls : List Lk} {p : Pt} (h : p ∉ za9 ls) : zbh ls p = none := by
  induction ls with
  | nil => rfl
  | cons l ls ih =>
    simp only [za9, List.mem_cons, not_or] at h
    simp only [zbh]
    rw [if_neg (fun q => h.1 q.symm), if_neg (fun q => h.2.1 q.symm)]
    exact ih h.2.2
theorem znS (ls : List Lk) (m : List (Pt × Pt)) (p : Pt) (h : (za9 ls).Nodup) :
    zhp (ls.foldl (fun m l => upd (upd m l.a l.b) l.b l.a) m) p = (zbh ls p).or (zhp m p) := by
  induction ls generalizing m with
  | nil => simp [zbh]
  | cons l ls ih =>
    simp only [za9, List.nodup_cons, List.mem_cons, not_or] at h
    obtain ⟨⟨hab, ha⟩, hb, hn⟩ := h
    rw [List.foldl_cons, ih _ hn, zj5, zj5]
    simp only [zbh]
    by_cases h1 : l.a = p
    · subst h1
      rw [zg3 ha, if_neg hab]
      simp
    · by_cases h2 : l.b = p
      · subst h2
        rw [zg3 hb]
        simp [h1]
      · have h1' : ¬ p = l.a := fun q => h1 q.symm
        have h2' : ¬ p = l.b := fun q => h2 q.symm
        simp [h1, h2, h1', h2']
theorem zoK (t : Tp) (p : Pt) (h : (za9 t.links).Nodup) : zcl t p = zbh t.links p := by
  have := znS t.links [] p h
  unfold zhp at this
  unfold zcl zbx
  rw [this]
  simp
end Go.Proofs.YtanimmdlgmkmkaaGreat.Av
namespace Go.Proofs.YtanimmdlgmkmkaaGreat.Av
open Go
set_option linter.unusedSimpArgs false
set_option linter.unusedVariables false
set_option maxRecDepth 100000
theorem zms (m : List (Pt × Pt)) (k v : Pt) : (upd m k v).length ≤ m.length + 1 ∧ ((upd m k v).length = m.length + 1 ↔ k ∉ m.map (·.1)) := by
  have hle : (m.filter fun e => decide (k ≠ e.1)).length ≤ m.length := List.length_filter_le _ _
  have hl : (upd m k v).length = (m.filter fun e => decide (k ≠ e.1)).length + 1 := by simp [upd]
  refine ⟨by omega, ?_⟩
  rw [hl]
  constructor
  · intro h hk
    obtain ⟨e, he, rfl⟩ := List.mem_map.1 hk
    have := List.length_filter_lt_length_iff_exists (p := fun x : Pt × Pt => decide (e.1 ≠ x.1)) (l := m) |>.2 ⟨e, he, by simp⟩
    omega
  · intro h
    have : (m.filter fun e => decide (k ≠ e.1)) = m := by
      rw [List.filter_eq_self]
      intro x hx
      simp only [decide_eq_true_eq]
      intro q
      exact h (q ▸ List.mem_map.2 ⟨x, hx, rfl⟩)
    rw [this]
theorem zoL (m : List (Pt × Pt)) (k v x : Pt) : x ∈ (upd m k v).map (·.1) ↔ x = k ∨ x ∈ m.map (·.1) := by
  simp only [upd, List.map_append, List.mem_append, List.map_cons, List.map_nil, List.mem_singleton]
  constructor
  · rintro (h | h)
    · obtain ⟨e, he, rfl⟩ := List.mem_map.1 h
      exact .inr (List.mem_map.2 ⟨e, (List.mem_filter.1 he).1, rfl⟩)
    · exact .inl h
  · rintro (h | h)
    · exact .inr h
    · by_cases q : x = k
      · exact .inr q
      · obtain ⟨e, he, rfl⟩ := List.mem_map.1 h
        exact .inl (List.mem_map.2 ⟨e, List.mem_filter.2 ⟨he, by simpa using fun r => q r.symm⟩, rfl⟩)
theorem zoM (ls : List Lk) (m : List (Pt × Pt)) :
    (ls.foldl (fun m l => upd (upd m l.a l.b) l.b l.a) m).length ≤ m.length + 2 * ls.length ∧
    ((ls.foldl (fun m l => upd (upd m l.a l.b) l.b l.a) m).length = m.length + 2 * ls.length ↔ (za9 ls).Nodup ∧ ∀ p ∈ za9 ls, p ∉ m.map (·.1)) := by
  induction ls generalizing m with
  | nil => simp [za9]
  | cons l ls ih =>
    obtain ⟨i1, i2⟩ := ih (upd (upd m l.a l.b) l.b l.a)
    obtain ⟨a1, a2⟩ := zms m l.a l.b
    obtain ⟨b1, b2⟩ := zms (upd m l.a l.b) l.b l.a
    rw [List.foldl_cons, List.length_cons]
    refine ⟨by omega, ?_⟩
    simp only [zoL, not_or] at b2 i2
    simp only [za9, List.nodup_cons, List.mem_cons, not_or]
    constructor
    · intro h
      have h1 := a2.1 (by omega)
      have h2 := b2.1 (by omega)
      have h3 := i2.1 (by omega)
      refine ⟨⟨⟨fun q => h2.1 q.symm, fun q => (h3.2 _ q).2.1 rfl⟩, fun q => (h3.2 _ q).1 rfl, h3.1⟩, ?_⟩
      rintro p (rfl | rfl | hp)
      · exact h1
      · exact h2.2
      · exact (h3.2 _ hp).2.2
    · rintro ⟨⟨⟨hab, ha⟩, hb, hn⟩, hd⟩
      have e1 := a2.2 (hd _ (.inl rfl))
      have e2 := b2.2 ⟨fun q => hab q.symm, hd _ (.inr (.inl rfl))⟩
      have e3 := i2.2 ⟨hn, fun p hp => ⟨fun q => hb (q ▸ hp), fun q => ha (q ▸ hp), hd _ (.inr (.inr hp))⟩⟩
      omega
theorem zgj (ls : List Lk) : (zbx ls).length = 2 * ls.length ↔ (za9 ls).Nodup := by
  have := (zoM ls []).2
  simpa [zbx] using this
end Go.Proofs.YtanimmdlgmkmkaaGreat.Av
namespace Go.Proofs.YtanimmdlgmkmkaaGreat.Av
open Go
set_option linter.unusedSimpArgs false
set_option linter.unusedVariables false
set_option maxRecDepth 100000
theorem zhJ {l : List Ru} {last : Int} (h : zbK last l = true) : ∀ r ∈ l, zcm r = true := by
  induction l generalizing last with
  | nil => simp
  | cons x l ih =>
    simp only [zbK, Bool.and_eq_true] at h
    intro r hr
    rcases List.mem_cons.1 hr with rfl | hr
    · exact h.1.1
    · exact ih h.2 r hr
theorem zfg {l : List Ru} (h : zcD l = true) : ∀ r ∈ l, 0 ≤ r.kind ∧ r.kind ≤ 3 := by
  intro r hr
  have := zhJ (Bool.and_eq_true _ _ ▸ h : _ ∧ _).1 r hr
  simp only [zcm, Bool.and_eq_true, decide_eq_true_eq] at this
  exact this.1.1.1.2
theorem zeE {l : List Ru} {p q : Ru → Bool} (h : ∀ r ∈ l, p r = q r) : l.any p = l.any q := by
  induction l with
  | nil => rfl
  | cons x l ih =>
    rw [List.any_cons, List.any_cons, h x (by simp), ih fun r hr => h r (List.mem_cons_of_mem _ hr)]
theorem zm6 {l : List Ru} (h : zcD l = true) (d a : Int) : l.filter (zba d a true) = l.filter (zcA d a) := List.filter_congr fun r hr => zle (zfg h r hr) d a
theorem zm7 {l : List Ru} (h : zcD l = true) (d a : Int) : l.filter (zba d a false) = l.filter (zcB d a) := List.filter_congr fun r hr => zlf (zfg h r hr) d a
theorem zpo {l : List Ru} (h : zcD l = true) (d a : Int) : l.any (zba d a true) = l.any (zcA d a) := zeE fun r hr => zle (zfg h r hr) d a
theorem zpp {l : List Ru} (h : zcD l = true) (d a : Int) : l.any (zba d a false) = l.any (zcB d a) := zeE fun r hr => zlf (zfg h r hr) d a
theorem zll {t : Tp} (h : zdf t = true) : (za9 t.links).Nodup := by
  simp only [zdf, Bool.and_eq_true, decide_eq_true_eq] at h
  exact (zgj _).1 h.2.2.2.2.2
theorem zpq {n : Nw} (h : zaq n = true) (d a : Int) : zci n d a = zaR n d a := by
  simp only [zaq, Bool.and_eq_true] at h
  obtain ⟨ht, hr, -⟩ := h
  unfold zci zaR zdL zdY ze0 zdg
  rw [zm6 hr, zm7 hr, zpo hr, zpp hr, zoK _ _ (zll ht)]
end Go.Proofs.YtanimmdlgmkmkaaGreat.Av
namespace Go.Proofs.YtanimmdlgmkmkaaGreat.Av
set_option linter.unusedSimpArgs false
set_option linter.unusedVariables false
def zgk (L : List Rg) (a b : Int) : Prop := ∀ x ∈ zaE L, (x ≤ a ↔ x ≤ b)
theorem zpr {L : List Rg} {a b : Int} (h : zgk L a b) (ha : a < 4294967296) (hb : b < 4294967296) {r : Rg} (hr : r ∈ L) : (r.lo ≤ a ∧ a ≤ r.hi) ↔ (r.lo ≤ b ∧ b ≤ r.hi) := by
  have hm := (zbn L).mem
  have h1 : r.lo ∈ zaE L := (hm _).2 (.inr ⟨r, hr, by unfold zbF; split <;> simp⟩)
  have k1 := h _ h1
  by_cases q : r.hi < 4294967295
  · have h2 : r.hi + 1 ∈ zaE L := (hm _).2 (.inr ⟨r, hr, by unfold zbF; rw [if_pos q]; simp⟩)
    have k2 := h _ h2
    constructor <;> rintro ⟨x, y⟩ <;> constructor <;> omega
  · constructor <;> rintro ⟨x, y⟩ <;> constructor <;> omega
theorem znT {n : Nw} {L : List Rg} (hL : ∀ r ∈ n.rules, r.r ∈ L) {a b : Int} (h : zgk L a b) (ha : a < 4294967296) (hb : b < 4294967296) (d : Int) : zaR n d a = zaR n d b := by
  have ht : ∀ r ∈ n.rules, zcY r d a = zcY r d b := fun r hr => by
    have := zpr h ha hb (hL r hr)
    unfold zcY
    rw [Bool.eq_iff_iff]
    simp only [Bool.and_eq_true, decide_eq_true_eq]
    rw [this]
  have h1 : ∀ r ∈ n.rules, zcA d a r = zcA d b r := fun r hr => by unfold zcA; rw [ht r hr]
  have h2 : ∀ r ∈ n.rules, zcB d a r = zcB d b r := fun r hr => by unfold zcB; rw [ht r hr]
  have e1 : n.rules.any (zcA d a) = n.rules.any (zcA d b) := zeE h1
  have e2 : n.rules.any (zcB d a) = n.rules.any (zcB d b) := zeE h2
  have e3 : n.rules.filter (zcA d a) = n.rules.filter (zcA d b) := List.filter_congr h1
  have e4 : n.rules.filter (zcB d a) = n.rules.filter (zcB d b) := List.filter_congr h2
  unfold zaR zdY ze0 zdg
  rw [e1, e2, e3, e4]
theorem zbe {n : Nw} (h : zaq n = true) : (∀ r ∈ n.rules, zcm r = true) ∧ n.rules.length ≤ 40 := by
  unfold zaq at h
  simp only [Bool.and_eq_true] at h
  have h2 := h.2.1
  unfold zcD at h2
  simp only [Bool.and_eq_true, decide_eq_true_eq] at h2
  exact ⟨zhJ h2.1, h2.2⟩
theorem zmt {r : Ru} (h : zcm r = true) : r.r.lo ≤ r.r.hi := by
  unfold zcm at h
  simp only [Bool.and_eq_true, decide_eq_true_eq] at h
  exact h.2
end Go.Proofs.YtanimmdlgmkmkaaGreat.Av
namespace Go.Proofs.YtanimmdlgmkmkaaGreat.Av
open Go
set_option linter.unusedSimpArgs false
set_option linter.unusedVariables false
set_option maxRecDepth 100000
set_option pp.maxSteps 600
def zcI : List Pt → Bool
  | [] => true
  | p :: l => !l.contains p && zcI l
theorem zeF (l : List Pt) : zcI l = true ↔ l.Nodup := by
  induction l with
  | nil => simp [zcI]
  | cons p l ih => simp [zcI, ih]
def zb1 (t : Tp) : Bool := !decide (t.ports.length < 1) && (!decide (8 < t.ports.length) && (!decide (16 < t.links.length) && (t.ports.all (fun n => decide (1 ≤ n) && decide (n ≤ 4)) && ((za9 t.links).all (hasB t) && zcI (za9 t.links)))))
theorem zmd {t : Tp} (ls : List Lk) (hn : (za9 ls).Nodup) : ls.any (zdX t) = !(za9 ls).all (hasB t) := by
  induction ls with
  | nil => rfl
  | cons l ls ih =>
    simp only [za9, List.nodup_cons, List.mem_cons, not_or] at hn
    rw [List.any_cons, ih hn.2.2]
    simp only [za9, List.all_cons, zdX]
    have hab : decide (l.a = l.b) = false := by simpa using hn.1.1
    rw [hab]
    cases hasB t l.a <;> cases hasB t l.b <;> simp
theorem znU (t : Tp) : zdf t = zb1 t := by
  have h1 : decide (t.ports.length = 0) = decide (t.ports.length < 1) := by
    rw [Bool.eq_iff_iff]; simp
  have h2 : (!zgd t) = t.ports.all (fun n => decide (1 ≤ n) && decide (n ≤ 4)) := by
    unfold zgd
    induction t.ports with
    | nil => rfl
    | cons n l ih =>
      rw [List.any_cons, List.all_cons, ← ih, Bool.not_or]
      congr 1
      rw [Bool.eq_iff_iff]; simp
  unfold zdf zb1
  rw [h1, h2]
  by_cases hn : (za9 t.links).Nodup
  · rw [decide_eq_true ((zgj _).2 hn), (zeF _).2 hn, zmd _ hn, Bool.not_not]
  · have e1 : zcI (za9 t.links) = false := by
      cases h : zcI (za9 t.links) with
      | false => rfl
      | true => exact absurd ((zeF _).1 h) hn
    rw [decide_eq_false (fun h => hn ((zgj _).1 h)), e1]
    simp
end Go.Proofs.YtanimmdlgmkmkaaGreat.Av
namespace Go.Proofs.YtanimmdlgmkmkaaGreat.Av
open Go
set_option linter.unusedSimpArgs false
set_option linter.unusedVariables false
set_option maxRecDepth 100000
set_option maxHeartbeats 2000000
set_option pp.maxSteps 600
theorem zjs (t : Tp) (f : Fl) (hl : t.ports.length < 2 ^ 60) (hl2 : t.links.length < 2 ^ 42) : PCalls Tryz.prog 122 [zat t f] (.raw (.bool (zb1 t))) := by
  refine zJ Tryz.func122 rfl (N := 96) rfl rfl (by simp) (by simp [noIds]) fun σ => ?_
  repeat (refine zf ?_)
  refine zg ?_
  have ho1 : cellOK (zy t.ports f.p) = true := rfl
  have ho2 : cellOK (zw t.links f.l) = true := rfl
  simp only [cellOK] at ho1 ho2
  simp [zO, ho1, ho2]
  refine zaf ⟨1, σ.nx 1, 2⟩ ?_
  generalize hτ : St.del _ _ = τ
  generalize hA : (fun t => zF _ _ _) = A
  have a1 : A 1 = .pp [zy t.ports f.p, zw t.links f.l] 0 := by rw [← hA, ← hτ]; simp [zF, St.new, St.del, zO]
  have hE : Ext σ τ := by
    rw [← hτ]
    refine ⟨fun i o h => ?_, fun s => ?_⟩
    · rw [zR (fun e => by rw [e, zk] at h; cases h)]
      exact zaP _ _ h
    · exact St.new_le σ 1 2 (.buf [zat t f]) s
  clear hτ hA
  by_cases q1 : t.ports.length < 1
  · have q1' : (t.ports.length : Int) < 1 := by omega
    (try ((first | with_reducible refine zh ?_ | with_reducible refine zm ?_ | with_reducible refine zo ?_); simp [zy, zw, a1, hE, q1, q1'])); repeat' (first | ((first | refine zd ?_ | refine zg ?_ | refine dN (by decide +kernel) ?_ | (refine za ?_ ?_ <;> (intro hg; simp only [hg])) | fail) <;> simp [zy, zw, a1, hE, q1, q1']) | refine zf ?_ | refine zc ?_ | (refine zp ?_; simp only [zq]; try simp) | ((first | refine zl (by simp) ?_ | refine zx (by simp) (by simp) (by simp (maxDischargeDepth := 30) [zy, zw, a1, hE, q1, q1']) ?_ | fail); simp) | (refine zb (fun hc => ?_) (fun hc => ?_) <;> try simp at hc) | fail)
    all_goals simp [zb1, q1]
  have q1' : ¬ (t.ports.length : Int) < 1 := by omega
  by_cases q2 : 8 < t.ports.length
  · have q2' : (8 : Int) < (t.ports.length : Int) := by omega
    (try ((first | with_reducible refine zh ?_ | with_reducible refine zm ?_ | with_reducible refine zo ?_); simp [zy, zw, a1, hE, q1, q1', q2, q2'])); repeat' (first | ((first | refine zd ?_ | refine zg ?_ | refine dN (by decide +kernel) ?_ | (refine za ?_ ?_ <;> (intro hg; simp only [hg])) | fail) <;> simp [zy, zw, a1, hE, q1, q1', q2, q2']) | refine zf ?_ | refine zc ?_ | (refine zp ?_; simp only [zq]; try simp) | ((first | refine zl (by simp) ?_ | refine zx (by simp) (by simp) (by simp (maxDischargeDepth := 30) [zy, zw, a1, hE, q1, q1', q2, q2']) ?_ | fail); simp) | (refine zb (fun hc => ?_) (fun hc => ?_) <;> try simp at hc) | fail)
    all_goals simp [zb1, q2]
  have q2' : ¬ (8 : Int) < (t.ports.length : Int) := by omega
  by_cases q3 : 16 < t.links.length
  · have q3' : (16 : Int) < (t.links.length : Int) := by omega
    (try ((first | with_reducible refine zh ?_ | with_reducible refine zm ?_ | with_reducible refine zo ?_); simp [zy, zw, a1, hE, q1, q1', q2, q2', q3, q3'])); repeat' (first | ((first | refine zd ?_ | refine zg ?_ | refine dN (by decide +kernel) ?_ | (refine za ?_ ?_ <;> (intro hg; simp only [hg])) | fail) <;> simp [zy, zw, a1, hE, q1, q1', q2, q2', q3, q3']) | refine zf ?_ | refine zc ?_ | (refine zp ?_; simp only [zq]; try simp) | ((first | refine zl (by simp) ?_ | refine zx (by simp) (by simp) (by simp (maxDischargeDepth := 30) [zy, zw, a1, hE, q1, q1', q2, q2', q3, q3']) ?_ | fail); simp) | (refine zb (fun hc => ?_) (fun hc => ?_) <;> try simp at hc) | fail)
    all_goals simp [zb1, q3]
  have q3' : ¬ (16 : Int) < (t.links.length : Int) := by omega
  (try ((first | with_reducible refine zh ?_ | with_reducible refine zm ?_ | with_reducible refine zo ?_); simp [zy, zw, a1, hE, q1, q1', q2, q2', q3, q3'])); repeat' (first | ((first | refine zd ?_ | refine zg ?_ | refine dN (by decide +kernel) ?_ | (refine za ?_ ?_ <;> (intro hg; simp only [hg])) | fail) <;> simp [zy, zw, a1, hE, q1, q1', q2, q2', q3, q3']) | refine zf ?_ | refine zc ?_ | (refine zp ?_; simp only [zq]; try simp) | ((first | refine zl (by simp) ?_ | refine zx (by simp) (by simp) (by simp (maxDischargeDepth := 30) [zy, zw, a1, hE, q1, q1', q2, q2', q3, q3']) ?_ | fail); simp) | (refine zb (fun hc => ?_) (fun hc => ?_) <;> try simp at hc) | fail)
  refine zZ (fun n B ρ => Ext σ ρ ∧ B 1 = .pp [zy t.ports f.p, zw t.links f.l] 0 ∧ ∃ i : Nat, B 3 = .raw (.int .i64 i) ∧ i ≤ t.ports.length ∧ n = t.ports.length - i ∧ (t.ports.take i).all (fun n => decide (1 ≤ n) && decide (n ≤ 4)) = true) t.ports.length ?_ ?_
  · exact ⟨hE, by simp [a1], 0, by simp, by omega, by omega, by simp⟩
  clear hE a1
  rintro n B ρ ⟨hE, a1, i, a3, hi, rfl, hall⟩ I1 hI1
  by_cases hlt : i < t.ports.length
  · have hx : t.ports[i]? = some t.ports[i] := List.getElem?_eq_getElem hlt
    have w1 : IntKind.i64.wrap ((i : Int) + 1) = ((i + 1 : Nat) : Int) := by rw [zU (by omega) (by omega)]; omega
    by_cases p1 : t.ports[i] < 1
    · have hf : t.ports.all (fun n => decide (1 ≤ n) && decide (n ≤ 4)) = false := by
        rw [List.all_eq_false]
        exact ⟨_, List.getElem_mem hlt, by simp; omega⟩
      (try ((first | with_reducible refine zh ?_ | with_reducible refine zm ?_ | with_reducible refine zo ?_); simp [zy, zw, iAV, a1, a3, hE, hlt, hx, w1, p1])); repeat' (first | ((first | refine zd ?_ | refine zg ?_ | refine dN (by decide +kernel) ?_ | (refine za ?_ ?_ <;> (intro hg; simp only [hg])) | fail) <;> simp [zy, zw, iAV, a1, a3, hE, hlt, hx, w1, p1]) | refine zf ?_ | refine zc ?_ | (refine zp ?_; simp only [zq]; try simp) | ((first | refine zl (by simp) ?_ | refine zx (by simp) (by simp) (by simp (maxDischargeDepth := 30) [zy, zw, iAV, a1, a3, hE, hlt, hx, w1, p1]) ?_ | fail); simp) | (refine zb (fun hc => ?_) (fun hc => ?_) <;> try simp at hc) | fail)
      all_goals simp [zb1, hf]
    · by_cases p2 : 4 < t.ports[i]
      · have hf : t.ports.all (fun n => decide (1 ≤ n) && decide (n ≤ 4)) = false := by
          rw [List.all_eq_false]
          exact ⟨_, List.getElem_mem hlt, by simp; omega⟩
        (try ((first | with_reducible refine zh ?_ | with_reducible refine zm ?_ | with_reducible refine zo ?_); simp [zy, zw, iAV, a1, a3, hE, hlt, hx, w1, p1, p2])); repeat' (first | ((first | refine zd ?_ | refine zg ?_ | refine dN (by decide +kernel) ?_ | (refine za ?_ ?_ <;> (intro hg; simp only [hg])) | fail) <;> simp [zy, zw, iAV, a1, a3, hE, hlt, hx, w1, p1, p2]) | refine zf ?_ | refine zc ?_ | (refine zp ?_; simp only [zq]; try simp) | ((first | refine zl (by simp) ?_ | refine zx (by simp) (by simp) (by simp (maxDischargeDepth := 30) [zy, zw, iAV, a1, a3, hE, hlt, hx, w1, p1, p2]) ?_ | fail); simp) | (refine zb (fun hc => ?_) (fun hc => ?_) <;> try simp at hc) | fail)
        all_goals simp [zb1, hf]
      · have hp : (decide (1 ≤ t.ports[i]) && decide (t.ports[i] ≤ 4)) = true := by
          rw [Bool.and_eq_true, decide_eq_true_eq, decide_eq_true_eq]; exact ⟨by omega, by omega⟩
        have hall' : (t.ports.take (i + 1)).all (fun n => decide (1 ≤ n) && decide (n ≤ 4)) = true := by
          rw [List.take_add_one, hx, List.all_append, hall, Option.toList_some, List.all_cons, hp]; rfl
        (try ((first | with_reducible refine zh ?_ | with_reducible refine zm ?_ | with_reducible refine zo ?_); simp [zy, zw, iAV, a1, a3, hE, hlt, hx, w1, p1, p2])); repeat' (first | ((first | refine zd ?_ | refine zg ?_ | refine dN (by decide +kernel) ?_ | (refine za ?_ ?_ <;> (intro hg; simp only [hg])) | fail) <;> simp [zy, zw, iAV, a1, a3, hE, hlt, hx, w1, p1, p2]) | refine zf ?_ | refine zc ?_ | (refine zp ?_; simp only [zq]; try simp) | ((first | refine zl (by simp) ?_ | refine zx (by simp) (by simp) (by simp (maxDischargeDepth := 30) [zy, zw, iAV, a1, a3, hE, hlt, hx, w1, p1, p2]) ?_ | fail); simp) | (refine zb (fun hc => ?_) (fun hc => ?_) <;> try simp at hc) | fail)
        exact hI1 (t.ports.length - (i + 1)) _ _ (by omega) ⟨hE, by simp [a1, zy, zw], i + 1, by simp, by omega, rfl, hall'⟩
  · have : i = t.ports.length := by omega
    subst this
    rw [List.take_length] at hall
    (try ((first | with_reducible refine zh ?_ | with_reducible refine zm ?_ | with_reducible refine zo ?_); simp [zy, zw, iAV, a1, a3, hE])); repeat' (first | ((first | refine zd ?_ | refine zg ?_ | refine dN (by decide +kernel) ?_ | (refine za ?_ ?_ <;> (intro hg; simp only [hg])) | fail) <;> simp [zy, zw, iAV, a1, a3, hE]) | refine zf ?_ | refine zc ?_ | (refine zp ?_; simp only [zq]; try simp) | ((first | refine zl (by simp) ?_ | refine zx (by simp) (by simp) (by simp (maxDischargeDepth := 30) [zy, zw, iAV, a1, a3, hE]) ?_ | fail); simp) | (refine zb (fun hc => ?_) (fun hc => ?_) <;> try simp at hc) | fail)
    refine zZ (fun n B ρ => Ext σ ρ ∧ B 1 = .pp [zy t.ports f.p, zw t.links f.l] 0 ∧ ∃ (k : Nat) (v : AV), B 4 = v ∧ OwnL σ ρ 2 v ((za9 (t.links.take k)).map zQ) ∧ B 5 = .raw (.int .i64 k) ∧ k ≤ t.links.length ∧ n = t.links.length - k) t.links.length ?_ ?_
    · exact ⟨hE, by simp [a1, zy, zw], 0, _, rfl, .inl ⟨by simp [za9], by simp⟩, by simp, by omega, by omega⟩
    clear hE a1 a3 hI1 I1
    rintro n B ρ ⟨hE, a1, k, v, a4, hO, a5, hk, rfl⟩ I1 hI1
    have hfl : ∀ L : List Lk, (za9 L).length = 2 * L.length := by
      intro L; induction L with
      | nil => rfl
      | cons l L ih => simp only [za9, List.length_cons, ih]; omega
    by_cases hlt : k < t.links.length
    · have hx : t.links[k]? = some t.links[k] := List.getElem?_eq_getElem hlt
      have w1 : IntKind.i64.wrap ((k : Int) + 1) = ((k + 1 : Nat) : Int) := by rw [zU (by omega) (by omega)]; omega
      have hfp : za9 (t.links.take (k + 1)) = za9 (t.links.take k) ++ [t.links[k].a, t.links[k].b] := by
        rw [List.take_add_one, hx]
        generalize t.links.take k = L
        induction L with
        | nil => rfl
        | cons l L ih => simp only [List.cons_append, za9, ih]
      have fa : AV.agg [.raw (.int .i64 t.links[k].a.dev), .raw (.int .i64 t.links[k].a.port)] = zQ t.links[k].a := rfl
      have fb : AV.agg [.raw (.int .i64 t.links[k].b.dev), .raw (.int .i64 t.links[k].b.port)] = zQ t.links[k].b := rfl
      have hpc : ∀ q : Pt, (zQ q).cells = [.raw (.int .i64 q.dev), .raw (.int .i64 q.port)] := fun q => rfl
      (try ((first | with_reducible refine zh ?_ | with_reducible refine zm ?_ | with_reducible refine zo ?_); simp [zw, zy, a1, a4, a5, hlt, hx, zaz, fa, fb, hpc, w1, -zG])); repeat' (first | ((first | refine zd ?_ | refine zg ?_ | refine dN (by decide +kernel) ?_ | (refine za ?_ ?_ <;> (intro hg; simp only [hg])) | fail) <;> simp [zw, zy, a1, a4, a5, hlt, hx, zaz, fa, fb, hpc, w1, -zG]) | refine zf ?_ | refine zc ?_ | (refine zp ?_; simp only [zq]; try simp) | ((first | refine zl (by simp) ?_ | refine zx (by simp) (by simp) (by simp (maxDischargeDepth := 30) [zw, zy, a1, a4, a5, hlt, hx, zaz, fa, fb, hpc, w1, -zG]) ?_ | fail); simp) | (refine zb (fun hc => ?_) (fun hc => ?_) <;> try simp at hc) | fail)
      refine zal zqi (hO.ext (Ext.new _ _ _ _)) (hE.trans (Ext.new _ _ _ _)) (ys := [zQ t.links[k].a, zQ t.links[k].b]) (by simp) (.inr rfl) (by simp [hpc]) (by simp [hfl, Nat.min_eq_left hk]; omega) ?_
      intro v' τ' hO' hE' _ _
      (try ((first | with_reducible refine zh ?_ | with_reducible refine zm ?_ | with_reducible refine zo ?_); simp [zw, zy, a1, a4, a5, w1])); repeat' (first | ((first | refine zd ?_ | refine zg ?_ | refine dN (by decide +kernel) ?_ | (refine za ?_ ?_ <;> (intro hg; simp only [hg])) | fail) <;> simp [zw, zy, a1, a4, a5, w1]) | refine zf ?_ | refine zc ?_ | (refine zp ?_; simp only [zq]; try simp) | ((first | refine zl (by simp) ?_ | refine zx (by simp) (by simp) (by simp (maxDischargeDepth := 30) [zw, zy, a1, a4, a5, w1]) ?_ | fail); simp) | (refine zb (fun hc => ?_) (fun hc => ?_) <;> try simp at hc) | fail)
      exact hI1 (t.links.length - (k + 1)) _ _ (by omega) ⟨hE', by simp [a1, zy, zw], k + 1, v', by simp, by rw [hfp]; simpa using hO', by simp, by omega, rfl⟩
    · have : k = t.links.length := by omega
      subst this
      rw [List.take_length] at hO
      have hFl := hfl t.links
      obtain ⟨F, hF⟩ : ∃ F, za9 t.links = F := ⟨_, rfl⟩
      have hres : zb1 t = (F.all (hasB t) && zcI F) := by
        unfold zb1
        rw [hF, hall, decide_eq_false q1, decide_eq_false q2, decide_eq_false q3]; rfl
      rw [hres]
      rw [hF] at hO hFl
      clear hres hI1 hall hfl
      have hpc : ∀ q : Pt, (zQ q).cells = [.raw (.int .i64 q.dev), .raw (.int .i64 q.port)] := fun q => rfl
      have hpf : ∀ q : Pt, AV.agg [.raw (.int .i64 q.dev), .raw (.int .i64 q.port)] = zQ q := fun q => rfl
      have htf : AV.agg [AV.sl 1 (t.ports.map iAV) f.p, AV.sl 4 (t.links.map zbU) f.l] = zat t f := rfl
      have hbin : ∀ x y : Pt, zae Tryz.prog .eql 41 (zQ x) (zQ y) = some (.raw (.bool (decide (x = y)))) := fun x y => by
        have e1 : zae Tryz.prog .eql 41 (zQ x) (zQ y) = if Tryz.prog.eqGuardType Tryz.prog.depth 41 = false then (zas Tryz.prog 4 41 (zQ x) (zQ y)).bind fun b => (zbQ .eql b).map .raw else none := rfl
        have := ziS x y
        rw [e1, if_pos zmU]
        rw [show zas Tryz.prog 4 41 (zQ x) (zQ y) = some (decide (x = y)) from this]
        rfl
      (try ((first | with_reducible refine zh ?_ | with_reducible refine zm ?_ | with_reducible refine zo ?_); simp [zw, zy, a1, a4, a5])); repeat' (first | ((first | refine zd ?_ | refine zg ?_ | refine dN (by decide +kernel) ?_ | (refine za ?_ ?_ <;> (intro hg; simp only [hg])) | fail) <;> simp [zw, zy, a1, a4, a5]) | refine zf ?_ | refine zc ?_ | (refine zp ?_; simp only [zq]; try simp) | ((first | refine zl (by simp) ?_ | refine zx (by simp) (by simp) (by simp (maxDischargeDepth := 30) [zw, zy, a1, a4, a5]) ?_ | fail); simp) | (refine zb (fun hc => ?_) (fun hc => ?_) <;> try simp at hc) | fail)
      refine ziQ 4 (by simpa [a4] using hO) hE ?_
      intro A' τ' hE' e4 hf _ _ _ _
      have b1 : A' 1 = .pp [zy t.ports f.p, zw t.links f.l] 0 := by rw [hf 1 (by simp) (by simp [a1])]; simp [a1]
      have b6 : A' 6 = .raw (.int .i64 0) := by rw [hf 6 (by simp) (by simp)]; simp
      clear hf hE a1 a4 a5 hO
      refine zZ (fun n B ρ => Ext σ ρ ∧ B 1 = .pp [zy t.ports f.p, zw t.links f.l] 0 ∧ B 4 = .sl 2 (F.map zQ) false ∧ ∃ i : Nat, B 6 = .raw (.int .i64 i) ∧ i ≤ F.length ∧ n = F.length - i ∧ (F.take i).all (hasB t) = true ∧ (F.take i).Nodup) F.length ?_ ?_
      · exact ⟨hE', b1, e4, 0, by simp [b6], by omega, by omega, by simp, by simp⟩
      clear hE' b1 e4 b6
      rintro n B ρ ⟨hE, a1, a4, i, a6, hi, rfl, hal, hnd⟩ I1 hI1
      by_cases hlt : i < F.length
      · have hx : F[i]? = some F[i] := List.getElem?_eq_getElem hlt
        have w1 : IntKind.i64.wrap ((i : Int) + 1) = ((i + 1 : Nat) : Int) := by rw [zU (by omega) (by omega)]; omega
        have hh := zgY t f F[i] hl
        by_cases hb : hasB t F[i] = true
        · rw [hb] at hh
          (try ((first | with_reducible refine zh ?_ | with_reducible refine zm ?_ | with_reducible refine zo ?_); simp [-cellOK, zw, zy, a1, a4, a6, hlt, hx, hpc, htf])); repeat' (first | ((first | refine zd ?_ | refine zg ?_ | refine dN (by decide +kernel) ?_ | refine dC (by decide +kernel) ?_ | refine uP (hh) ?_ | refine .inl ⟨_, .inl (hh), ?_⟩ | (refine za ?_ ?_ <;> (intro hg; simp only [hg])) | fail) <;> simp [-cellOK, zw, zy, a1, a4, a6, hlt, hx, hpc, htf]) | refine zf ?_ | refine zc ?_ | (refine zp ?_; simp only [zq]; try simp) | (refine zl (by simp) ?_; simp) | (refine zD (by simp) (by simp [noIds]) (by repeat (first | assumption | exact Ext.refl _ | refine zv ?_ | refine Ext.setF ?_ (by first | assumption | (simp [ze, St.set, zk]; done) | exact zt (by assumption)))) ?_; simp [-cellOK, zw, zy, a1, a4, a6, hlt, hx, hpc, htf, zS]) | (refine zb (fun hc => ?_) (fun hc => ?_) <;> try simp at hc) | fail)
          refine zZ (fun n B ρ => Ext σ ρ ∧ B 1 = .pp [zy t.ports f.p, zw t.links f.l] 0 ∧ B 4 = .sl 2 (F.map zQ) false ∧ B 6 = .raw (.int .i64 i) ∧ ∃ k : Nat, B 8 = .raw (.int .i64 k) ∧ k ≤ i ∧ n = i - k ∧ ∀ j, (hj : j < k) → (hji : j < F.length) → F[j] ≠ F[i]) i ?_ ?_
          · exact ⟨by simp [hE], by simp [a1, zw, zy], by simp [a4], by simp [a6], 0, by simp, by omega, by omega, fun j hj => by omega⟩
          rintro n C τ ⟨hE, a1, a4, a6, k, a8, hk, rfl, hne⟩ J1 hJ1
          by_cases hki : k < i
          · have hkl : k < F.length := by omega
            have hx2 : F[k]? = some F[k] := List.getElem?_eq_getElem hkl
            have w2 : IntKind.i64.wrap ((k : Int) + 1) = ((k + 1 : Nat) : Int) := by rw [zU (by omega) (by omega)]; omega
            by_cases he : F[k] = F[i]
            · have hnn : zcI F = false := by
                cases h : zcI F with
                | false => rfl
                | true =>
                  have := (zeF _).1 h
                  exact absurd he (List.pairwise_iff_getElem.1 this k i hkl hlt hki)
              have hd : decide (F[k] = F[i]) = true := decide_eq_true he
              rw [show (F.all (hasB t) && zcI F) = false by rw [hnn, Bool.and_false]]
              (try ((first | with_reducible refine zh ?_ | with_reducible refine zm ?_ | with_reducible refine zo ?_); simp [-cellOK, zw, zy, hE, a1, a4, a6, a8, hlt, hx, hkl, hki, hx2, w2, hpc, hpf, -zae, hbin, zak, hd])); repeat' (first | ((first | refine zd ?_ | refine zg ?_ | refine dN (by decide +kernel) ?_ | refine dC (by decide +kernel) ?_ | refine uP (hh) ?_ | refine .inl ⟨_, .inl (hh), ?_⟩ | (refine za ?_ ?_ <;> (intro hg; simp only [hg])) | fail) <;> simp [-cellOK, zw, zy, hE, a1, a4, a6, a8, hlt, hx, hkl, hki, hx2, w2, hpc, hpf, -zae, hbin, zak, hd]) | refine zf ?_ | refine zc ?_ | (refine zp ?_; simp only [zq]; try simp) | (refine zl (by simp) ?_; simp) | (refine zD (by simp) (by simp [noIds]) (by repeat (first | assumption | exact Ext.refl _ | refine zv ?_ | refine Ext.setF ?_ (by first | assumption | (simp [ze, St.set, zk]; done) | exact zt (by assumption)))) ?_; simp [-cellOK, zw, zy, hE, a1, a4, a6, a8, hlt, hx, hkl, hki, hx2, w2, hpc, hpf, -zae, hbin, zak, hd, zS]) | (refine zb (fun hc => ?_) (fun hc => ?_) <;> try simp at hc) | fail)
            · have hd : decide (F[k] = F[i]) = false := decide_eq_false he
              (try ((first | with_reducible refine zh ?_ | with_reducible refine zm ?_ | with_reducible refine zo ?_); simp [-cellOK, zw, zy, a1, a4, a6, a8, hlt, hx, hkl, hki, hx2, w2, hpc, hpf, -zae, hbin, zak, hd])); repeat' (first | ((first | refine zd ?_ | refine zg ?_ | refine dN (by decide +kernel) ?_ | refine dC (by decide +kernel) ?_ | refine uP (hh) ?_ | refine .inl ⟨_, .inl (hh), ?_⟩ | (refine za ?_ ?_ <;> (intro hg; simp only [hg])) | fail) <;> simp [-cellOK, zw, zy, a1, a4, a6, a8, hlt, hx, hkl, hki, hx2, w2, hpc, hpf, -zae, hbin, zak, hd]) | refine zf ?_ | refine zc ?_ | (refine zp ?_; simp only [zq]; try simp) | (refine zl (by simp) ?_; simp) | (refine zD (by simp) (by simp [noIds]) (by repeat (first | assumption | exact Ext.refl _ | refine zv ?_ | refine Ext.setF ?_ (by first | assumption | (simp [ze, St.set, zk]; done) | exact zt (by assumption)))) ?_; simp [-cellOK, zw, zy, a1, a4, a6, a8, hlt, hx, hkl, hki, hx2, w2, hpc, hpf, -zae, hbin, zak, hd, zS]) | (refine zb (fun hc => ?_) (fun hc => ?_) <;> try simp at hc) | fail)
              exact hJ1 (i - (k + 1)) _ _ (by omega) ⟨hE, by simp [a1, zw, zy], by simp [a4], by simp [a6], k + 1, by simp, by omega, rfl, fun j hj hji => by
                by_cases e : j = k
                · subst e; exact he
                · exact hne j (by omega) hji⟩
          · have : k = i := by omega
            subst this
            (try ((first | with_reducible refine zh ?_ | with_reducible refine zm ?_ | with_reducible refine zo ?_); simp [-cellOK, zw, zy, a1, a4, a6, a8, w1])); repeat' (first | ((first | refine zd ?_ | refine zg ?_ | refine dN (by decide +kernel) ?_ | refine dC (by decide +kernel) ?_ | refine uP (hh) ?_ | refine .inl ⟨_, .inl (hh), ?_⟩ | (refine za ?_ ?_ <;> (intro hg; simp only [hg])) | fail) <;> simp [-cellOK, zw, zy, a1, a4, a6, a8, w1]) | refine zf ?_ | refine zc ?_ | (refine zp ?_; simp only [zq]; try simp) | (refine zl (by simp) ?_; simp) | (refine zD (by simp) (by simp [noIds]) (by repeat (first | assumption | exact Ext.refl _ | refine zv ?_ | refine Ext.setF ?_ (by first | assumption | (simp [ze, St.set, zk]; done) | exact zt (by assumption)))) ?_; simp [-cellOK, zw, zy, a1, a4, a6, a8, w1, zS]) | (refine zb (fun hc => ?_) (fun hc => ?_) <;> try simp at hc) | fail)
            refine hI1 (F.length - (k + 1)) _ _ (by omega) ⟨hE, by simp [a1, zw, zy], by simp [a4], k + 1, by simp, by omega, rfl, ?_, ?_⟩
            · rw [List.take_add_one, hx, List.all_append, hal, Option.toList_some, List.all_cons, hb]; rfl
            · rw [List.take_add_one, hx, List.nodup_append]
              refine ⟨hnd, by simp, fun a ha b hbm e => ?_⟩
              simp only [Option.toList_some, List.mem_singleton] at hbm
              subst hbm; subst e
              obtain ⟨j, hj, e2⟩ := List.mem_iff_getElem.1 ha
              simp only [List.length_take] at hj
              rw [List.getElem_take] at e2
              exact hne j (by omega) (by omega) e2
        · have hb' : hasB t F[i] = false := by simpa using hb
          rw [hb'] at hh
          have hF0 : F.all (hasB t) = false := by
            rw [List.all_eq_false]
            exact ⟨_, List.getElem_mem hlt, by simp [hb']⟩
          rw [show (F.all (hasB t) && zcI F) = false by rw [hF0, Bool.false_and]]
          (try ((first | with_reducible refine zh ?_ | with_reducible refine zm ?_ | with_reducible refine zo ?_); simp [-cellOK, zw, zy, hE, a1, a4, a6, hlt, hx, hpc, hpf, htf])); repeat' (first | ((first | refine zd ?_ | refine zg ?_ | refine dN (by decide +kernel) ?_ | refine dC (by decide +kernel) ?_ | refine uP (hh) ?_ | refine .inl ⟨_, .inl (hh), ?_⟩ | (refine za ?_ ?_ <;> (intro hg; simp only [hg])) | fail) <;> simp [-cellOK, zw, zy, hE, a1, a4, a6, hlt, hx, hpc, hpf, htf]) | refine zf ?_ | refine zc ?_ | (refine zp ?_; simp only [zq]; try simp) | (refine zl (by simp) ?_; simp) | (refine zD (by simp) (by simp [noIds]) (by repeat (first | assumption | exact Ext.refl _ | refine zv ?_ | refine Ext.setF ?_ (by first | assumption | (simp [ze, St.set, zk]; done) | exact zt (by assumption)))) ?_; simp [-cellOK, zw, zy, hE, a1, a4, a6, hlt, hx, hpc, hpf, htf, zS]) | (refine zb (fun hc => ?_) (fun hc => ?_) <;> try simp at hc) | fail)
      · have : i = F.length := by omega
        subst this
        rw [List.take_length] at hal hnd
        have hnn := (zeF F).2 hnd
        rw [hal, hnn]
        (try ((first | with_reducible refine zh ?_ | with_reducible refine zm ?_ | with_reducible refine zo ?_); simp [-cellOK, zw, zy, hE, a1, a4, a6])); repeat' (first | ((first | refine zd ?_ | refine zg ?_ | refine dN (by decide +kernel) ?_ | refine dC (by decide +kernel) ?_ | (refine za ?_ ?_ <;> (intro hg; simp only [hg])) | fail) <;> simp [-cellOK, zw, zy, hE, a1, a4, a6]) | refine zf ?_ | refine zc ?_ | (refine zp ?_; simp only [zq]; try simp) | (refine zl (by simp) ?_; simp) | (refine zD (by simp) (by simp [noIds]) (by repeat (first | assumption | exact Ext.refl _ | refine zv ?_ | refine Ext.setF ?_ (by first | assumption | (simp [ze, St.set, zk]; done) | exact zt (by assumption)))) ?_; simp [-cellOK, zw, zy, hE, a1, a4, a6, zS]) | (refine zb (fun hc => ?_) (fun hc => ?_) <;> try simp at hc) | fail)
end Go.Proofs.YtanimmdlgmkmkaaGreat.Av
namespace Go.Proofs.YtanimmdlgmkmkaaGreat.Av
open Go
set_option linter.unusedSimpArgs false
set_option linter.unusedVariables false
set_option maxRecDepth 100000
set_option maxHeartbeats 2000000
set_option pp.maxSteps 300
def zg4 (l : List Ru) (i : Nat) : Int := match i with | 0 => 0 | k + 1 => match l[k]? with | some r => r.id | none => 0
theorem zlm (l : List Ru) (f : Bool) (hl : l.length < 2932031007403) (hid : ∀ r ∈ l, -9223372036854775808 ≤ r.id ∧ r.id < 9223372036854775808) : PCalls Tryz.prog 123 [zu l f] (.raw (.bool (zcD l))) := by
  refine zJ Tryz.func123 rfl (N := 39) rfl rfl (by simp) (by simp [noIds]) fun σ => ?_
  (try ((first | with_reducible refine zh ?_ | with_reducible refine zm ?_ | with_reducible refine zo ?_); simp [zu])); repeat' (first | ((first | refine zd ?_ | refine zg ?_ | refine dN (by decide +kernel) ?_ | (refine za ?_ ?_ <;> (intro hg; simp only [hg])) | fail) <;> simp [zu]) | refine zf ?_ | refine zc ?_ | (refine zp ?_; simp only [zq]; try simp) | ((first | refine zl (by simp) ?_ | refine zx (by simp) (by simp) (by simp (maxDischargeDepth := 30) [zu]) ?_ | fail); simp) | (refine zb (fun hc => ?_) (fun hc => ?_) <;> try simp at hc) | fail)
  refine zZ (fun n A τ => τ = σ ∧ A 0 = zu l f ∧ ∃ i : Nat, A 3 = .raw (.int .i64 i) ∧ i ≤ l.length ∧ n = l.length - i ∧ zbK 0 l = zbK (zg4 l i) (l.drop i)) l.length ?_ ?_
  · exact ⟨rfl, by simp [zu], 0, by simp, by omega, by omega, by simp [zg4]⟩
  rintro n A τ ⟨rfl, a0, i, a3, hi, rfl, hall⟩ I1 hI1
  by_cases hlt : i < l.length
  · have hx : l[i]? = some l[i] := List.getElem?_eq_getElem hlt
    have w1 : IntKind.i64.wrap ((i : Int) + 1) = ((i + 1 : Nat) : Int) := by rw [zU (by omega) (by omega)]; omega
    have hd : l.drop i = l[i] :: l.drop (i + 1) := List.drop_eq_getElem_cons hlt
    rw [hd] at hall
    simp only [zbK] at hall
    obtain ⟨b, hb⟩ : ∃ b, zcm l[i] = b := ⟨_, rfl⟩
    have hr := hb ▸ zgZ l[i] (hid _ (List.getElem_mem _)).1 (hid _ (List.getElem_mem _)).2
    rw [hb] at hall
    (try ((first | with_reducible refine zh ?_ | with_reducible refine zm ?_ | with_reducible refine zo ?_); simp [zu, a0, a3, hlt, hx, zs, zV, zA, w1])); repeat' (first | ((first | refine zd ?_ | refine zg ?_ | refine dN (by decide +kernel) ?_ | (refine za ?_ ?_ <;> (intro hg; simp only [hg])) | fail) <;> simp [zu, a0, a3, hlt, hx, zs, zV, zA, w1]) | refine zf ?_ | refine zc ?_ | (refine zp ?_; simp only [zq]; try simp) | ((first | refine zl (by simp) ?_ | refine zx (by simp) (by simp) (by simp (maxDischargeDepth := 30) [zu, a0, a3, hlt, hx, zs, zV, zA, w1]) ?_ | fail); simp) | (refine zb (fun hc => ?_) (fun hc => ?_) <;> try simp at hc) | fail)
    refine PCalls.use hr ?_
    cases b with
    | false =>
      (try ((first | with_reducible refine zh ?_ | with_reducible refine zm ?_ | with_reducible refine zo ?_); simp [zu, a0, a3, hlt, hx, zs, zV, zA, w1])); repeat' (first | ((first | refine zd ?_ | refine zg ?_ | refine dN (by decide +kernel) ?_ | (refine za ?_ ?_ <;> (intro hg; simp only [hg])) | fail) <;> simp [zu, a0, a3, hlt, hx, zs, zV, zA, w1]) | refine zf ?_ | refine zc ?_ | (refine zp ?_; simp only [zq]; try simp) | ((first | refine zl (by simp) ?_ | refine zx (by simp) (by simp) (by simp (maxDischargeDepth := 30) [zu, a0, a3, hlt, hx, zs, zV, zA, w1]) ?_ | fail); simp) | (refine zb (fun hc => ?_) (fun hc => ?_) <;> try simp at hc) | fail)
      all_goals simp [zcD, hall]
    | true =>
      cases i with
      | zero =>
        have hpos : 1 ≤ l[0].id := by
          have := hb; unfold zcm at this; simp at this; omega
        (try ((first | with_reducible refine zh ?_ | with_reducible refine zm ?_ | with_reducible refine zo ?_); simp [zu, a0, a3, hlt, hx, zs, zV, zA, w1])); repeat' (first | ((first | refine zd ?_ | refine zg ?_ | refine dN (by decide +kernel) ?_ | (refine za ?_ ?_ <;> (intro hg; simp only [hg])) | fail) <;> simp [zu, a0, a3, hlt, hx, zs, zV, zA, w1]) | refine zf ?_ | refine zc ?_ | (refine zp ?_; simp only [zq]; try simp) | ((first | refine zl (by simp) ?_ | refine zx (by simp) (by simp) (by simp (maxDischargeDepth := 30) [zu, a0, a3, hlt, hx, zs, zV, zA, w1]) ?_ | fail); simp) | (refine zb (fun hc => ?_) (fun hc => ?_) <;> try simp at hc) | fail)
        have w0 : IntKind.i64.wrap 1 = 1 := zU (by omega) (by omega)
        have hx0 : l[0]? = some l[0] := hx
        have h0 : (0 : Int) < l[0].id := by omega
        have h1 : zg4 l 1 = l[0].id := by simp [zg4, hx0]
        exact hI1 (l.length - 1) _ _ (by omega) ⟨rfl, by simp [a0, zu], 1, by simp [w0], by omega, rfl, by rw [hall, h1]; simp [zg4, h0]⟩
      | succ k =>
        have hk : k < l.length := by omega
        have hxk : l[k]? = some l[k] := List.getElem?_eq_getElem hk
        have w2 : IntKind.i64.wrap (k : Int) = k := zU (by omega) (by omega)
        have hp0 : (0 : Int) ≤ (k : Int) + 1 := by omega
        have htn : ((k : Int) + 1).toNat = k + 1 := by omega
        have w4 : IntKind.i64.wrap ((k : Int) + 1 + 1) = (k : Int) + 1 + 1 := zU (by omega) (by omega)
        have w3 : IntKind.i64.wrap ((k : Int) + 1 - 1) = k := by rw [zU (by omega) (by omega)]; omega
        have hidk : zg4 l (k + 1) = l[k].id := by simp [zg4, hxk]
        rw [hidk] at hall
        have hpk : (0 : Int) < (k : Int) + 1 := by omega
        by_cases hle : l[k + 1].id ≤ l[k].id
        · have hnl : ¬ l[k].id < l[k + 1].id := by omega
          (try ((first | with_reducible refine zh ?_ | with_reducible refine zm ?_ | with_reducible refine zo ?_); simp [zu, a0, a3, hlt, hx, hk, hxk, zs, zV, zA, w1, w2, w3, w4, hp0, htn, hpk, hle])); repeat' (first | ((first | refine zd ?_ | refine zg ?_ | refine dN (by decide +kernel) ?_ | (refine za ?_ ?_ <;> (intro hg; simp only [hg])) | fail) <;> simp [zu, a0, a3, hlt, hx, hk, hxk, zs, zV, zA, w1, w2, w3, w4, hp0, htn, hpk, hle]) | refine zf ?_ | refine zc ?_ | (refine zp ?_; simp only [zq]; try simp) | ((first | refine zl (by simp) ?_ | refine zx (by simp) (by simp) (by simp (maxDischargeDepth := 30) [zu, a0, a3, hlt, hx, hk, hxk, zs, zV, zA, w1, w2, w3, w4, hp0, htn, hpk, hle]) ?_ | fail); simp) | (refine zb (fun hc => ?_) (fun hc => ?_) <;> try simp at hc) | fail)
          all_goals simp [zcD, hall, hnl]
        · have hg : l[k].id < l[k + 1].id := by omega
          (try ((first | with_reducible refine zh ?_ | with_reducible refine zm ?_ | with_reducible refine zo ?_); simp [zu, a0, a3, hlt, hx, hk, hxk, zs, zV, zA, w1, w2, w3, w4, hp0, htn, hpk, hle])); repeat' (first | ((first | refine zd ?_ | refine zg ?_ | refine dN (by decide +kernel) ?_ | (refine za ?_ ?_ <;> (intro hg; simp only [hg])) | fail) <;> simp [zu, a0, a3, hlt, hx, hk, hxk, zs, zV, zA, w1, w2, w3, w4, hp0, htn, hpk, hle]) | refine zf ?_ | refine zc ?_ | (refine zp ?_; simp only [zq]; try simp) | ((first | refine zl (by simp) ?_ | refine zx (by simp) (by simp) (by simp (maxDischargeDepth := 30) [zu, a0, a3, hlt, hx, hk, hxk, zs, zV, zA, w1, w2, w3, w4, hp0, htn, hpk, hle]) ?_ | fail); simp) | (refine zb (fun hc => ?_) (fun hc => ?_) <;> try simp at hc) | fail)
          exact hI1 (l.length - (k + 1 + 1)) _ _ (by omega) ⟨rfl, by simp [a0, zu], k + 1 + 1, by simp, by omega, rfl, by rw [hall]; simp [zg4, hx, hg]⟩
  · have : i = l.length := by omega
    subst this
    (try ((first | with_reducible refine zh ?_ | with_reducible refine zm ?_ | with_reducible refine zo ?_); simp [zu, a0, a3])); repeat' (first | ((first | refine zd ?_ | refine zg ?_ | refine dN (by decide +kernel) ?_ | (refine za ?_ ?_ <;> (intro hg; simp only [hg])) | fail) <;> simp [zu, a0, a3]) | refine zf ?_ | refine zc ?_ | (refine zp ?_; simp only [zq]; try simp) | ((first | refine zl (by simp) ?_ | refine zx (by simp) (by simp) (by simp (maxDischargeDepth := 30) [zu, a0, a3]) ?_ | fail); simp) | (refine zb (fun hc => ?_) (fun hc => ?_) <;> try simp at hc) | fail)
    rw [List.drop_length] at hall
    simp only [zbK] at hall
    simp [zcD, hall]
    omega
end Go.Proofs.YtanimmdlgmkmkaaGreat.Av
namespace Go.Proofs.YtanimmdlgmkmkaaGreat.Av
open Go
set_option linter.unusedSimpArgs false
set_option linter.unusedVariables false
set_option maxRecDepth 100000
set_option maxHeartbeats 4000000
set_option pp.maxSteps 600
theorem ze6 (n : Nw) (f : Fl) (hn : NwOK n) : PCalls Tryz.prog 73 [z7 n f] (.raw (.bool (zaq n))) := by
  have l1 := hn.ports
  have l2 := hn.links
  have l3 := hn.rules
  have h1 := zjs n.t f (by omega) l2
  have h2 := zlm n.rules f.r l3 hn.id
  have h3 := zkp n.t f n.rules f.r (by omega) (by omega)
  rw [← znU] at h1
  unfold zaq
  have htf : ∀ (N : Nw) (F : Fl), AV.agg [zy N.t.ports F.p, zw N.t.links F.l] = zat N.t F := fun _ _ => rfl
  generalize zdf n.t = b1 at h1 ⊢
  generalize zcD n.rules = b2 at h2 ⊢
  generalize zdJ n.t n.rules = b3 at h3 ⊢
  refine zJ Tryz.func73 rfl (N := 22) rfl rfl (by simp) (by simp [noIds]) fun σ => ?_
  cases b1 <;> cases b2 <;> ((try ((first | with_reducible refine zh ?_ | with_reducible refine zm ?_ | with_reducible refine zo ?_); simp [-cellOK, zr, htf])); repeat' (first | ((first | refine zd ?_ | refine zg ?_ | refine dN (by decide +kernel) ?_ | refine dC (by decide +kernel) ?_ | refine uP (h1) ?_ | refine .inl ⟨_, .inl (h1), ?_⟩ | refine uP (h2) ?_ | refine .inl ⟨_, .inl (h2), ?_⟩ | refine uP (h3) ?_ | refine .inl ⟨_, .inl (h3), ?_⟩ | (refine za ?_ ?_ <;> (intro hg; simp only [hg])) | fail) <;> simp [-cellOK, zr, htf]) | refine zf ?_ | refine zc ?_ | (refine zp ?_; simp only [zq]; try simp) | (refine zl (by simp) ?_; simp) | (refine zD (by simp) (by simp [noIds]) (by repeat (first | assumption | exact Ext.refl _ | refine zv ?_ | refine Ext.setF ?_ (by first | assumption | (simp [ze, St.set, zk]; done) | exact zt (by assumption)))) ?_; simp [-cellOK, zr, htf, zS]) | (refine zb (fun hc => ?_) (fun hc => ?_) <;> try simp at hc) | fail))
def zdh (n : Nw) : Bool := !decide (20 < n.t.ports.length) && (!decide (40 < n.t.links.length) && (!decide (60 < n.rules.length) && zaq n))
structure NwW (n : Nw) : Prop where
  rg : ∀ r ∈ n.rules, RgOK r.r
  id : ∀ r ∈ n.rules, -9223372036854775808 ≤ r.id ∧ r.id < 9223372036854775808
theorem NwOK.w {n : Nw} (h : NwOK n) : NwW n := ⟨h.rg, h.id⟩
theorem NwW.small {n : Nw} (h : NwW n) (h1 : ¬ 20 < n.t.ports.length) (h2 : ¬ 40 < n.t.links.length) (h3 : ¬ 60 < n.rules.length) : NwOK n where
  rg := h.rg
  id := h.id
  ports := by omega
  links := by omega
  rules := by omega
theorem NwW.fits {n : Nw} (h : NwW n) (hf : zdh n = true) : NwOK n := by
  unfold zdh at hf
  simp only [Bool.and_eq_true, Bool.not_eq_true', decide_eq_false_iff_not] at hf
  exact h.small hf.1 hf.2.1 hf.2.2.1
theorem zg5 (n : Nw) (f : Fl) (hn : NwW n) : PCalls Tryz.prog 24 [z7 n f] (.raw (.bool (zdh n))) := by
  have h1 := fun a b c => ze6 n f (hn.small a b c)
  unfold zdh
  generalize zaq n = b1 at h1 ⊢
  have hp : ∀ m, zaa Tryz.prog m 22 (zy n.t.ports f.p) = some (.raw (.int .i64 n.t.ports.length)) := fun m => by simp [zy]
  have hk : ∀ m, zaa Tryz.prog m 23 (zw n.t.links f.l) = some (.raw (.int .i64 n.t.links.length)) := fun m => by simp [zw]
  have hu : ∀ m, zaa Tryz.prog m 26 (zu n.rules f.r) = some (.raw (.int .i64 n.rules.length)) := fun m => by simp [zu]
  generalize n.t.ports.length = x at hp h1 ⊢
  generalize n.t.links.length = y at hk h1 ⊢
  generalize n.rules.length = z at hu h1 ⊢
  refine zJ Tryz.func24 rfl (N := 25) rfl rfl (by simp) (by simp [noIds]) fun σ => ?_
  by_cases q1 : 20 < x
  · have q1' : (20 : Int) < (x : Int) := by omega
    (try ((first | with_reducible refine zh ?_ | with_reducible refine zm ?_ | with_reducible refine zo ?_); simp [-cellOK, zr, zC, -zaa, hp, hk, hu, q1, q1'])); repeat' (first | ((first | refine zd ?_ | refine zg ?_ | refine dN (by decide +kernel) ?_ | refine dC (by decide +kernel) ?_ | (refine za ?_ ?_ <;> (intro hg; simp only [hg])) | fail) <;> simp [-cellOK, zr, zC, -zaa, hp, hk, hu, q1, q1']) | refine zf ?_ | refine zc ?_ | (refine zp ?_; simp only [zq]; try simp) | (refine zl (by simp) ?_; simp) | (refine zD (by simp) (by simp [noIds]) (by repeat (first | assumption | exact Ext.refl _ | refine zv ?_ | refine Ext.setF ?_ (by first | assumption | (simp [ze, St.set, zk]; done) | exact zt (by assumption)))) ?_; simp [-cellOK, zr, zC, -zaa, hp, hk, hu, q1, q1', zS]) | (refine zb (fun hc => ?_) (fun hc => ?_) <;> try simp at hc) | fail)
  have q1' : ¬ (20 : Int) < (x : Int) := by omega
  by_cases q2 : 40 < y
  · have q2' : (40 : Int) < (y : Int) := by omega
    (try ((first | with_reducible refine zh ?_ | with_reducible refine zm ?_ | with_reducible refine zo ?_); simp [-cellOK, zr, zC, -zaa, hp, hk, hu, q1, q1', q2, q2'])); repeat' (first | ((first | refine zd ?_ | refine zg ?_ | refine dN (by decide +kernel) ?_ | refine dC (by decide +kernel) ?_ | (refine za ?_ ?_ <;> (intro hg; simp only [hg])) | fail) <;> simp [-cellOK, zr, zC, -zaa, hp, hk, hu, q1, q1', q2, q2']) | refine zf ?_ | refine zc ?_ | (refine zp ?_; simp only [zq]; try simp) | (refine zl (by simp) ?_; simp) | (refine zD (by simp) (by simp [noIds]) (by repeat (first | assumption | exact Ext.refl _ | refine zv ?_ | refine Ext.setF ?_ (by first | assumption | (simp [ze, St.set, zk]; done) | exact zt (by assumption)))) ?_; simp [-cellOK, zr, zC, -zaa, hp, hk, hu, q1, q1', q2, q2', zS]) | (refine zb (fun hc => ?_) (fun hc => ?_) <;> try simp at hc) | fail)
  have q2' : ¬ (40 : Int) < (y : Int) := by omega
  by_cases q3 : 60 < z
  · have q3' : (60 : Int) < (z : Int) := by omega
    (try ((first | with_reducible refine zh ?_ | with_reducible refine zm ?_ | with_reducible refine zo ?_); simp [-cellOK, zr, zC, -zaa, hp, hk, hu, q1, q1', q2, q2', q3, q3'])); repeat' (first | ((first | refine zd ?_ | refine zg ?_ | refine dN (by decide +kernel) ?_ | refine dC (by decide +kernel) ?_ | (refine za ?_ ?_ <;> (intro hg; simp only [hg])) | fail) <;> simp [-cellOK, zr, zC, -zaa, hp, hk, hu, q1, q1', q2, q2', q3, q3']) | refine zf ?_ | refine zc ?_ | (refine zp ?_; simp only [zq]; try simp) | (refine zl (by simp) ?_; simp) | (refine zD (by simp) (by simp [noIds]) (by repeat (first | assumption | exact Ext.refl _ | refine zv ?_ | refine Ext.setF ?_ (by first | assumption | (simp [ze, St.set, zk]; done) | exact zt (by assumption)))) ?_; simp [-cellOK, zr, zC, -zaa, hp, hk, hu, q1, q1', q2, q2', q3, q3', zS]) | (refine zb (fun hc => ?_) (fun hc => ?_) <;> try simp at hc) | fail)
  have q3' : ¬ (60 : Int) < (z : Int) := by omega
  have h1 := h1 q1 q2 q3
  (try ((first | with_reducible refine zh ?_ | with_reducible refine zm ?_ | with_reducible refine zo ?_); simp [-cellOK, zr, zC, -zaa, hp, hk, hu, q1, q1', q2, q2', q3, q3'])); repeat' (first | ((first | refine zd ?_ | refine zg ?_ | refine dN (by decide +kernel) ?_ | refine dC (by decide +kernel) ?_ | refine uP (h1) ?_ | refine .inl ⟨_, .inl (h1), ?_⟩ | (refine za ?_ ?_ <;> (intro hg; simp only [hg])) | fail) <;> simp [-cellOK, zr, zC, -zaa, hp, hk, hu, q1, q1', q2, q2', q3, q3']) | refine zf ?_ | refine zc ?_ | (refine zp ?_; simp only [zq]; try simp) | (refine zl (by simp) ?_; simp) | (refine zD (by simp) (by simp [noIds]) (by repeat (first | assumption | exact Ext.refl _ | refine zv ?_ | refine Ext.setF ?_ (by first | assumption | (simp [ze, St.set, zk]; done) | exact zt (by assumption)))) ?_; simp [-cellOK, zr, zC, -zaa, hp, hk, hu, q1, q1', q2, q2', q3, q3', zS]) | (refine zb (fun hc => ?_) (fun hc => ?_) <;> try simp at hc) | fail)
def zpf (n m : Nw) (f g : Fl) : AV := .agg ((z7 n f).cells ++ (z7 m g).cells)
def zwa (n m : Nw) (q : Qy) : Bool := zdh n && (zdh m && decide (q.other.size ≤ 60))
def zbr : Nw := ⟨⟨[2, 3, 2], [⟨⟨0, 1⟩, ⟨1, 0⟩⟩, ⟨⟨1, 1⟩, ⟨2, 0⟩⟩]⟩, [⟨1, 0, 0, 0, ⟨0, 99⟩, 1⟩, ⟨2, 1, 0, 0, ⟨0, 49⟩, 1⟩, ⟨3, 1, 0, 0, ⟨50, 59⟩, 0⟩, ⟨4, 2, 0, 0, ⟨0, 29⟩, 1⟩, ⟨5, 2, 0, 3, ⟨20, 24⟩, 0⟩]⟩
def flN : Fl := ⟨false, false, false⟩
theorem zmu : NwOK zbr where
  rg := by
    intro r hr
    simp only [zbr, List.mem_cons, List.not_mem_nil, or_false] at hr
    rcases hr with rfl | rfl | rfl | rfl | rfl <;> exact ⟨by decide, by decide, by decide, by decide⟩
  ports := by decide
  links := by decide
  rules := by decide
  id := by
    intro r hr
    simp only [zbr, List.mem_cons, List.not_mem_nil, or_false] at hr
    rcases hr with rfl | rfl | rfl | rfl | rfl <;> exact ⟨by decide, by decide⟩
theorem znV : PCalls Tryz.prog 61 [] (z7 zbr flN) := by
  refine zJ Tryz.func61 rfl (N := 26) rfl rfl (by simp) (by simp [noIds]) fun σ => ?_
  (try ((first | with_reducible refine zh ?_ | with_reducible refine zm ?_ | with_reducible refine zo ?_); simp [-cellOK, zz, zB, ze])); repeat' (first | ((first | refine zd ?_ | refine zg ?_ | refine dN (by decide +kernel) ?_ | refine dC (by decide +kernel) ?_ | (refine za ?_ ?_ <;> (intro hg; simp only [hg])) | fail) <;> simp [-cellOK, zz, zB, ze]) | refine zf ?_ | refine zc ?_ | (refine zp ?_; simp only [zq]; try simp) | (refine zb (fun hc => ?_) (fun hc => ?_) <;> try simp at hc) | fail)
  refine zbi (x := .agg [.rs ⟨3, σ.nx 3, 1⟩ 0 3, .rs ⟨10, σ.nx 10, 4⟩ 0 2, .rs ⟨22, σ.nx 22, 7⟩ 0 5]) (.inr rfl) (by repeat (first | assumption | exact Ext.refl _ | refine zv ?_ | refine Ext.setF ?_ (by first | assumption | (simp [ze, St.set, zk]; done) | exact zt (by assumption)))) ?_ ?_
  · simp [zz, zB, ze]
  · simp [zah, zF, zk, zz, zB, ze, z7, zy, zw, zu, zbr, flN, iAV, zbU, zE]
def aq1 : Qy := ⟨0, 0, 2, 0, ⟨5, 30⟩, ⟨#[]⟩⟩
def aq2 : Qy := ⟨4, 0, 2, 1, ⟨0, 4294967295⟩, ⟨#[]⟩⟩
def aq3 : Qy := ⟨1, 0, 0, 0, ⟨0, 59⟩, ⟨#[]⟩⟩
end Go.Proofs.YtanimmdlgmkmkaaGreat.Av
namespace Go.Proofs.YtanimmdlgmkmkaaGreat.Av
set_option linter.unusedSimpArgs false
set_option linter.unusedVariables false
structure RightQ (n : Nw) (q : Qy) : Prop where
  k0 : 0 ≤ q.kind
  k5 : q.kind ≤ 5
  le : q.r.lo ≤ q.r.hi
  a : 0 ≤ q.a ∧ q.a < n.t.ports.length
  b : 0 ≤ q.b ∧ q.b < n.t.ports.length
  w : 0 ≤ q.w ∧ q.w < n.t.ports.length
  one : zjr q = true ∨ (q.a = 0 ∧ q.b = 0)
  way : q.kind = 4 ∨ q.w = 0
  oth : q.kind = 5 ∨ zmq q = true
structure RunOK (n m : Nw) (q : Qy) (v : Vd) (M : Nw) : Prop where
  right : RightQ n q
  top : q.kind = 5 → n.t = m.t
  other : M = if q.kind = 5 then m else n
  res : (v = ⟨true, 0, 0, zoJ⟩ ∧ zkD n M q (zoG [n, M] q.r) (zh5 n q) = none) ∨ zkD n M q (zoG [n, M] q.r) (zh5 n q) = some v
structure Broken (n m : Nw) (q : Qy) (v : Vd) : Prop where
  lo : q.r.lo ≤ v.addr
  hi : v.addr ≤ q.r.hi
  dev : q.kind = 5 → (ze5 m v.src v.addr).2 = 0
  gen : zoH n v.addr v.tr = true
  head : ∃ l, v.tr.path = v.src :: l
  brk : zmr q v.tr (ze5 m v.src v.addr).1 = true
end Go.Proofs.YtanimmdlgmkmkaaGreat.Av
